/- Part of the proof of a law: functions and their walks. -/
import Derived.Test.YtddopjhkmkoicaaGreatDoorXFn2
namespace Lv
open Go Go.Proofs
set_option linter.unusedVariables false
set_option linter.unusedSimpArgs false
set_option linter.unusedSectionVars false
set_option maxRecDepth 100000
variable [BaseTab] [TabOk]
noncomputable def fan_Add (p0 : ApiTable) (p1 : List ApiValue) (p2 : Int) (p3 : UInt64) : Option (Int × (List ForestOp) × (List ApiLock)) :=
 Option.bind (schema_Primary p0 p1) fun (r28, r29) =>
 bif (r29 != (0 : Int)) then
 some (r29, ([] : List ForestOp), ([] : List ApiLock))
 else
 Option.bind (α := Bool)
 (bif (decide (p2 < (0 : Int))) then
 some true
 else
 some (decide (p2 ≥ (p1.length : Int))))
 fun y31 =>
 bif y31 then
 some ((1 : Int), ([] : List ForestOp), ([] : List ApiLock))
 else
 Option.bind (getI p1 p2) fun v33 =>
 Option.bind (α := Bool)
 (bif (v33.Kind != (1 : Int)) then
 some (v33.Kind != (2 : Int))
 else
 some false)
 fun y34 =>
 bif y34 then
 some ((8 : Int), ([] : List ForestOp), ([] : List ApiLock))
 else
 Option.bind (slices_ContainsFunc_api_Index_api_Index p0.Indexes p2) fun r36 =>
 Option.bind (α := Bool)
 (bif r36 then
 some true
 else
 Option.bind (slices_Contains_int_int p0.Primary p2) fun r42 =>
 some r42)
 fun y40 =>
 bif y40 then
 some ((11 : Int), ([] : List ForestOp), ([] : List ApiLock))
 else
 Option.bind (row_Encode p0.Cols p1) fun (r44, r45) =>
 Option.bind (row_Place p0.Cols r44 p2) fun (r47, r48) =>
 bif (r48 != (0 : Int)) then
 some (r48, ([] : List ForestOp), ([] : List ApiLock))
 else
 Option.bind (fan_Work_own p0.Tree r28) fun _ =>
 Option.bind (fan_Work_do p0.Tree (ApiMsg.mk (0 : UInt64) (3 : Int) r28 (0 : UInt64) ([] : List UInt8) r47 p3) [(ApiLock.mk p0.Tree (ApiSpan.mk r28 (r28 ++ ([0] : List UInt8)) false) true)]) fun _ =>
 some ((0 : Int), [(ForestOp.mk (1 : Int) p0.Tree (ApiMsg.mk (0 : UInt64) (3 : Int) r28 (0 : UInt64) ([] : List UInt8) r47 p3))], [(ApiLock.mk p0.Tree (ApiSpan.mk r28 (r28 ++ ([0] : List UInt8)) false) true)])
theorem fan_Add_ok (p0 : ApiTable) (p1 : List ApiValue) (p2 : Int) (p3 : UInt64) (r : Int × (List ForestOp) × (List ApiLock)) (h0 : fan_Add p0 p1 p2 p3 = some r) : CallAt Tryz.prog 15 [.d (eApiTable p0), .d ((eL 3 eApiValue) p1), .d (eI p2), .d (eU64 p3)] [] (.tuple [.agg [.slc 1 9 0 r.2.1.length none, .slc 2 5 0 r.2.2.length none, .d .nils], .d (eI r.1)]) [.box (.agg [.slc 1 9 0 r.2.1.length none, .slc 2 5 0 r.2.2.length none, .d .nils]), .row 9 (List.map eForestOp r.2.1) true, .row 5 (List.map eApiLock r.2.2) true] := by
 unfold fan_Add at h0
 refine fn0 [0, 1, 2, 3] Tryz.func15 rfl rfl rfl rfl rfl ?_
 obtain ⟨⟨r28, r29⟩, hq30, h0⟩ := ob h0
 refine sr (s1 (bxo (k := 0) rfl rfl rfl) (s1 (bxo (k := 1) rfl rfl rfl) (s1 (alo (k := 2) zo40 rfl) (sa rfl (sn (sr (s1 (lod (v := .d (eApiTable p0)) rfl (ld_box ts26 ta26 rfl rfl)) (sm rfl (c0 (schema_Primary_ok p0 p1 _ hq30) wf rfl rfl rfl cb45 rfl (fun _ => rfl) (fun _ => rfl) ?_)))))))))
 refine sm rfl (s1 (ext rfl rfl) (s1 (ext rfl rfl) (sa rfl (sa rfl (sn (sq (sr (sm rfl (s1 (bi rfl rfl q_i64_neq) ?_)))))))))
 refine sn (cB h0 rfl (fun h0 => ?_) (fun h0 => ?_))
 ·have q := si h0; subst q
  exact sr (s1 (bld rfl (bd40_ )) (sm rfl (s0 (sto rfl rfl (sB (d' := .d (.agg [.nils, .nils, .nils])) ts40 rfl rfl rfl rfl rfl rfl rfl)) (sa rfl (sn (SC.ret (finR (Wk.trans (Wk.pushE (σ' := [.box (.d (eApiTable p0)), .box (.d (eI p2)), .box (.d (.agg [.nils, .nils, .nils])), .row 9 (List.map eForestOp ([] : List ForestOp)) true]) (.row 9 [] true) (fun _ hh => by cases hh) rfl) (Wk.trans (Wk.boxE (id := 2) (y := .agg [.slc 3 9 0 (([] : List ForestOp).length) none, .d .nils, .d .nils]) (σ' := [.box (.d (eApiTable p0)), .box (.d (eI p2)), .box (.agg [.slc 3 9 0 (([] : List ForestOp).length) none, .d .nils, .d .nils]), .row 9 (List.map eForestOp ([] : List ForestOp)) true]) rfl (AWs.cons (AW.slcn _ _ _) (AWs.cons (AW.refl _) (AWs.cons (AW.refl _) AWs.nil))) rfl) (Wk.trans (Wk.pushE (σ' := [.box (.d (eApiTable p0)), .box (.d (eI p2)), .box (.agg [.slc 3 9 0 (([] : List ForestOp).length) none, .d .nils, .d .nils]), .row 9 (List.map eForestOp ([] : List ForestOp)) true, .row 5 (List.map eApiLock ([] : List ApiLock)) true]) (.row 5 [] true) (fun _ hh => by cases hh) rfl) (Wk.trans (Wk.boxE (id := 2) (y := .agg [.slc 3 9 0 (([] : List ForestOp).length) none, .slc 4 5 0 (([] : List ApiLock).length) none, .d .nils]) (σ' := [.box (.d (eApiTable p0)), .box (.d (eI p2)), .box (.agg [.slc 3 9 0 (([] : List ForestOp).length) none, .slc 4 5 0 (([] : List ApiLock).length) none, .d .nils]), .row 9 (List.map eForestOp ([] : List ForestOp)) true, .row 5 (List.map eApiLock ([] : List ApiLock)) true]) rfl (AWs.cons (AW.refl _) (AWs.cons (AW.slcn _ _ _) (AWs.cons (AW.refl _) AWs.nil))) rfl) (wc (e' := [(8, .ref 0 0 0), (9, .d (eI r29))]) [2, 3, 4] [2] (by kernel_rfl) rfl (by kernel_rfl)))))) (lresC rfl (ld_box ts40 ta40 rfl rfl) (lresT rfl lresN)) rfl)))))))
 ·refine sk (sq (SC.seqP h0 (fun y => ⟨mk 92 [(1, .d ((eL 3 eApiValue) p1)), (3, .d (eU64 p3)), (4, .ref 0 0 0), (6, .ref 1 0 0), (8, .ref 2 0 0), (10, .d (eS r28)), (35, .d (eB y))], [.box (.d (eApiTable p0)), .box (.d (eI p2)), .box (.d (.agg [.nils, .nils, .nils]))]⟩) ?_ ?_))
  ·intro u1_32 h1
   refine SC.region (s1 (lod rfl (ld_box ts3 ta3 rfl rfl)) (s1 (bi rfl rfl q_i64_lss) (sm rfl (sp h1 (fun h1 => ?_) (fun h1 => ?_)))))
   ·have q := si h1; subst q
    exact kw rfl (kw rfl (kw rfl (kw rfl (s1 (pkt rfl rfl) (SO.nil ((wq rfl)))))))
   ·have q := si h1; subst q
    exact gw rfl (lod rfl (ld_box ts3 ta3 rfl rfl)) (gw rfl (mv rfl) (gw rfl (len rfl rfl rfl (len_lst un28)) (gw rfl (bi rfl rfl q_i64_geq) (s1 (pkf rfl rfl) (SO.nil ((wq rfl)))))))
  ·rintro y31 h0
   refine cB h0 rfl (fun h0 => ?_) (fun h0 => ?_)
   ·have q := si h0; subst q
    exact sr (s1 (bld rfl (bd40_ )) (s0 (sto rfl rfl (sB (d' := .d (.agg [.nils, .nils, .nils])) ts40 rfl rfl rfl rfl rfl rfl rfl)) (sa rfl (sn (SC.ret (finR (Wk.trans (Wk.pushE (σ' := [.box (.d (eApiTable p0)), .box (.d (eI p2)), .box (.d (.agg [.nils, .nils, .nils])), .row 9 (List.map eForestOp ([] : List ForestOp)) true]) (.row 9 [] true) (fun _ hh => by cases hh) rfl) (Wk.trans (Wk.boxE (id := 2) (y := .agg [.slc 3 9 0 (([] : List ForestOp).length) none, .d .nils, .d .nils]) (σ' := [.box (.d (eApiTable p0)), .box (.d (eI p2)), .box (.agg [.slc 3 9 0 (([] : List ForestOp).length) none, .d .nils, .d .nils]), .row 9 (List.map eForestOp ([] : List ForestOp)) true]) rfl (AWs.cons (AW.slcn _ _ _) (AWs.cons (AW.refl _) (AWs.cons (AW.refl _) AWs.nil))) rfl) (Wk.trans (Wk.pushE (σ' := [.box (.d (eApiTable p0)), .box (.d (eI p2)), .box (.agg [.slc 3 9 0 (([] : List ForestOp).length) none, .d .nils, .d .nils]), .row 9 (List.map eForestOp ([] : List ForestOp)) true, .row 5 (List.map eApiLock ([] : List ApiLock)) true]) (.row 5 [] true) (fun _ hh => by cases hh) rfl) (Wk.trans (Wk.boxE (id := 2) (y := .agg [.slc 3 9 0 (([] : List ForestOp).length) none, .slc 4 5 0 (([] : List ApiLock).length) none, .d .nils]) (σ' := [.box (.d (eApiTable p0)), .box (.d (eI p2)), .box (.agg [.slc 3 9 0 (([] : List ForestOp).length) none, .slc 4 5 0 (([] : List ApiLock).length) none, .d .nils]), .row 9 (List.map eForestOp ([] : List ForestOp)) true, .row 5 (List.map eApiLock ([] : List ApiLock)) true]) rfl (AWs.cons (AW.refl _) (AWs.cons (AW.slcn _ _ _) (AWs.cons (AW.refl _) AWs.nil))) rfl) (wc (e' := [(8, .ref 0 0 0), (9, .d (eI (1 : Int)))]) [2, 3, 4] [2] (by kernel_rfl) rfl (by kernel_rfl)))))) (lresC rfl (ld_box ts40 ta40 rfl rfl) (lresT rfl lresN)) rfl))))))
   ·obtain ⟨v33, hv33, h0⟩ := ob h0
    refine sk (sq (sr (sm rfl (s1 (lod rfl (ld_box ts3 ta3 rfl rfl)) (s1 (ial rfl rfl un28 ts68 (getI_some hv33).1 (map_get (getI_some hv33).2) rfl) (s1 (fap rfl fo68_0 ts3 rfl) (s1 (lod rfl (ld_rop ts3 ta3 rfl)) (sa rfl (sn ?_)))))))))
    refine SC.seqP h0 (fun y => ⟨mk 92 [(1, .d ((eL 3 eApiValue) p1)), (3, .d (eU64 p3)), (4, .ref 0 0 0), (6, .ref 1 0 0), (8, .ref 2 0 0), (10, .d (eS r28)), (47, .d (eB y))], [.box (.d (eApiTable p0)), .box (.d (eI p2)), .box (.d (.agg [.nils, .nils, .nils]))]⟩) ?_ ?_
    ·intro u1_35 h1
     refine SC.region (sm rfl (s1 (bi rfl rfl q_i64_neq) (sm rfl (sp h1 (fun h1 => ?_) (fun h1 => ?_)))))
     ·have q := si h1; subst q
      exact gw rfl (mv rfl) (gw rfl (bi rfl rfl q_i64_neq) (s1 (pkt rfl rfl) (SO.nil ((wq rfl)))))
     ·have q := si h1; subst q
      exact kw rfl (kw rfl (s1 (pkf rfl rfl) (SO.nil ((wq rfl)))))
    ·rintro y34 h0
     refine cB h0 rfl (fun h0 => ?_) (fun h0 => ?_)
     ·have q := si h0; subst q
      exact sr (s1 (bld rfl (bd40_ )) (s0 (sto rfl rfl (sB (d' := .d (.agg [.nils, .nils, .nils])) ts40 rfl rfl rfl rfl rfl rfl rfl)) (sa rfl (sn (SC.ret (finR (Wk.trans (Wk.pushE (σ' := [.box (.d (eApiTable p0)), .box (.d (eI p2)), .box (.d (.agg [.nils, .nils, .nils])), .row 9 (List.map eForestOp ([] : List ForestOp)) true]) (.row 9 [] true) (fun _ hh => by cases hh) rfl) (Wk.trans (Wk.boxE (id := 2) (y := .agg [.slc 3 9 0 (([] : List ForestOp).length) none, .d .nils, .d .nils]) (σ' := [.box (.d (eApiTable p0)), .box (.d (eI p2)), .box (.agg [.slc 3 9 0 (([] : List ForestOp).length) none, .d .nils, .d .nils]), .row 9 (List.map eForestOp ([] : List ForestOp)) true]) rfl (AWs.cons (AW.slcn _ _ _) (AWs.cons (AW.refl _) (AWs.cons (AW.refl _) AWs.nil))) rfl) (Wk.trans (Wk.pushE (σ' := [.box (.d (eApiTable p0)), .box (.d (eI p2)), .box (.agg [.slc 3 9 0 (([] : List ForestOp).length) none, .d .nils, .d .nils]), .row 9 (List.map eForestOp ([] : List ForestOp)) true, .row 5 (List.map eApiLock ([] : List ApiLock)) true]) (.row 5 [] true) (fun _ hh => by cases hh) rfl) (Wk.trans (Wk.boxE (id := 2) (y := .agg [.slc 3 9 0 (([] : List ForestOp).length) none, .slc 4 5 0 (([] : List ApiLock).length) none, .d .nils]) (σ' := [.box (.d (eApiTable p0)), .box (.d (eI p2)), .box (.agg [.slc 3 9 0 (([] : List ForestOp).length) none, .slc 4 5 0 (([] : List ApiLock).length) none, .d .nils]), .row 9 (List.map eForestOp ([] : List ForestOp)) true, .row 5 (List.map eApiLock ([] : List ApiLock)) true]) rfl (AWs.cons (AW.refl _) (AWs.cons (AW.slcn _ _ _) (AWs.cons (AW.refl _) AWs.nil))) rfl) (wc (e' := [(8, .ref 0 0 0), (9, .d (eI (8 : Int)))]) [2, 3, 4] [2] (by kernel_rfl) rfl (by kernel_rfl)))))) (lresC rfl (ld_box ts40 ta40 rfl rfl) (lresT rfl lresN)) rfl))))))
     ·obtain ⟨r36, hq37, h0⟩ := ob h0
      refine sk (sr (s1 (far (k := 3) rfl fo26_3 ts24 rfl) (s1 (lod rfl (ld_box ts24 ta24 rfl rfl)) (s1 (mkf rfl rfl) (cq [1] [] (slices_ContainsFunc_api_Index_api_Index_ok p0.Indexes p2 _ hq37) wf rfl rfl rfl cb46 rfl rfl rfl rfl rfl rfl rfl rfl (sa rfl (sn (sq (SC.seqP h0 (fun y => ⟨mk 92 [(1, .d ((eL 3 eApiValue) p1)), (3, .d (eU64 p3)), (4, .ref 0 0 0), (6, .ref 1 0 0), (8, .ref 2 0 0), (10, .d (eS r28)), (59, .d (eB y))], [.box (.d (eApiTable p0)), .box (.d (eI p2)), .box (.d (.agg [.nils, .nils, .nils]))]⟩) ?_ ?_)))))))))
      ·intro u1_41 h1
       refine SC.region (sm rfl (sm rfl (sp h1 (fun h1 => ?_) (fun h1 => ?_))))
       ·have q := si h1; subst q
        exact kw rfl (kw rfl (kw rfl (kw rfl (s1 (pkt rfl rfl) (SO.nil ((wq rfl)))))))
       ·obtain ⟨r42, hq43, h1⟩ := ob h1; have q := si h1; subst q
        exact gw rfl (far (k := 2) rfl fo26_2 ts23 rfl) (gw rfl (lod rfl (ld_box ts23 ta23 rfl rfl)) (gw rfl (lod rfl (ld_box ts3 ta3 rfl rfl)) (c0 (slices_Contains_int_int_ok p0.Primary p2 _ hq43) (ww rfl) rfl rfl rfl cb48 rfl (fun _ => rfl) (fun _ => rfl) (s1 (pkf rfl rfl) (SO.nil ((wq rfl)))))))
      ·rintro y40 h0
       refine cB h0 rfl (fun h0 => ?_) (fun h0 => ?_)
       ·have q := si h0; subst q
        exact sr (s1 (bld rfl (bd40_ )) (s0 (sto rfl rfl (sB (d' := .d (.agg [.nils, .nils, .nils])) ts40 rfl rfl rfl rfl rfl rfl rfl)) (sa rfl (sn (SC.ret (finR (Wk.trans (Wk.pushE (σ' := [.box (.d (eApiTable p0)), .box (.d (eI p2)), .box (.d (.agg [.nils, .nils, .nils])), .row 9 (List.map eForestOp ([] : List ForestOp)) true]) (.row 9 [] true) (fun _ hh => by cases hh) rfl) (Wk.trans (Wk.boxE (id := 2) (y := .agg [.slc 3 9 0 (([] : List ForestOp).length) none, .d .nils, .d .nils]) (σ' := [.box (.d (eApiTable p0)), .box (.d (eI p2)), .box (.agg [.slc 3 9 0 (([] : List ForestOp).length) none, .d .nils, .d .nils]), .row 9 (List.map eForestOp ([] : List ForestOp)) true]) rfl (AWs.cons (AW.slcn _ _ _) (AWs.cons (AW.refl _) (AWs.cons (AW.refl _) AWs.nil))) rfl) (Wk.trans (Wk.pushE (σ' := [.box (.d (eApiTable p0)), .box (.d (eI p2)), .box (.agg [.slc 3 9 0 (([] : List ForestOp).length) none, .d .nils, .d .nils]), .row 9 (List.map eForestOp ([] : List ForestOp)) true, .row 5 (List.map eApiLock ([] : List ApiLock)) true]) (.row 5 [] true) (fun _ hh => by cases hh) rfl) (Wk.trans (Wk.boxE (id := 2) (y := .agg [.slc 3 9 0 (([] : List ForestOp).length) none, .slc 4 5 0 (([] : List ApiLock).length) none, .d .nils]) (σ' := [.box (.d (eApiTable p0)), .box (.d (eI p2)), .box (.agg [.slc 3 9 0 (([] : List ForestOp).length) none, .slc 4 5 0 (([] : List ApiLock).length) none, .d .nils]), .row 9 (List.map eForestOp ([] : List ForestOp)) true, .row 5 (List.map eApiLock ([] : List ApiLock)) true]) rfl (AWs.cons (AW.refl _) (AWs.cons (AW.slcn _ _ _) (AWs.cons (AW.refl _) AWs.nil))) rfl) (wc (e' := [(8, .ref 0 0 0), (9, .d (eI (11 : Int)))]) [2, 3, 4] [2] (by kernel_rfl) rfl (by kernel_rfl)))))) (lresC rfl (ld_box ts40 ta40 rfl rfl) (lresT rfl lresN)) rfl))))))
       ·obtain ⟨⟨r44, r45⟩, hq46, h0⟩ := ob h0; obtain ⟨⟨r47, r48⟩, hq49, h0⟩ := ob h0
        refine sk (sr (s1 (far (k := 1) rfl fo26_1 ts22 rfl) (s1 (lod rfl (ld_box ts22 ta22 rfl rfl)) (sm rfl (c0 (row_Encode_ok p0.Cols p1 _ hq46) wf rfl rfl rfl cb33 rfl (fun _ => rfl) (fun _ => rfl) (sm rfl (s1 (ext rfl rfl) (s1 (ext rfl rfl) (sa rfl ?_)))))))))
        refine sa rfl (sn (sr (s1 (far (k := 1) rfl fo26_1 ts22 rfl) (s1 (lod rfl (ld_box ts22 ta22 rfl rfl)) (sm rfl (s1 (lod rfl (ld_box ts3 ta3 rfl rfl)) (c0 (row_Place_ok p0.Cols r44 p2 _ hq49) wf rfl rfl rfl cb51 rfl (fun _ => rfl) (fun _ => rfl) (sm rfl (s1 (ext rfl rfl) ?_)))))))))
        refine s1 (ext rfl rfl) (sa rfl (sa rfl (sn (sq (sr (sm rfl (s1 (bi rfl rfl q_i64_neq) (sn (cB h0 rfl (fun h0 => ?_) (fun h0 => ?_))))))))))
        ·have q := si h0; subst q
         exact sr (s1 (bld rfl (bd40_ )) (sm rfl (s0 (sto rfl rfl (sB (d' := .d (.agg [.nils, .nils, .nils])) ts40 rfl rfl rfl rfl rfl rfl rfl)) (sa rfl (sn (SC.ret (finR (Wk.trans (Wk.pushE (σ' := [.box (.d (eApiTable p0)), .box (.d (eI p2)), .box (.d (.agg [.nils, .nils, .nils])), .row 9 (List.map eForestOp ([] : List ForestOp)) true]) (.row 9 [] true) (fun _ hh => by cases hh) rfl) (Wk.trans (Wk.boxE (id := 2) (y := .agg [.slc 3 9 0 (([] : List ForestOp).length) none, .d .nils, .d .nils]) (σ' := [.box (.d (eApiTable p0)), .box (.d (eI p2)), .box (.agg [.slc 3 9 0 (([] : List ForestOp).length) none, .d .nils, .d .nils]), .row 9 (List.map eForestOp ([] : List ForestOp)) true]) rfl (AWs.cons (AW.slcn _ _ _) (AWs.cons (AW.refl _) (AWs.cons (AW.refl _) AWs.nil))) rfl) (Wk.trans (Wk.pushE (σ' := [.box (.d (eApiTable p0)), .box (.d (eI p2)), .box (.agg [.slc 3 9 0 (([] : List ForestOp).length) none, .d .nils, .d .nils]), .row 9 (List.map eForestOp ([] : List ForestOp)) true, .row 5 (List.map eApiLock ([] : List ApiLock)) true]) (.row 5 [] true) (fun _ hh => by cases hh) rfl) (Wk.trans (Wk.boxE (id := 2) (y := .agg [.slc 3 9 0 (([] : List ForestOp).length) none, .slc 4 5 0 (([] : List ApiLock).length) none, .d .nils]) (σ' := [.box (.d (eApiTable p0)), .box (.d (eI p2)), .box (.agg [.slc 3 9 0 (([] : List ForestOp).length) none, .slc 4 5 0 (([] : List ApiLock).length) none, .d .nils]), .row 9 (List.map eForestOp ([] : List ForestOp)) true, .row 5 (List.map eApiLock ([] : List ApiLock)) true]) rfl (AWs.cons (AW.refl _) (AWs.cons (AW.slcn _ _ _) (AWs.cons (AW.refl _) AWs.nil))) rfl) (wc (e' := [(8, .ref 0 0 0), (9, .d (eI r48))]) [2, 3, 4] [2] (by kernel_rfl) rfl (by kernel_rfl)))))) (lresC rfl (ld_box ts40 ta40 rfl rfl) (lresT rfl lresN)) rfl)))))))
        ·obtain ⟨_, hq50, h0⟩ := ob h0; obtain ⟨_, hq51, h0⟩ := ob h0; have q := si h0; subst q
         refine sk (sr (s1 (alo (k := 3) zo40 rfl) (sn (sr (s1 (far (k := 4) rfl fo26_4 ts3 rfl) (s1 (lod rfl (ld_box ts3 ta3 rfl rfl)) (sm rfl (cq [3] [4] (fan_Work_own_ok p0.Tree r28 _ hq50) wf rfl rfl rfl cb31 rfl rfl rfl rfl rfl rfl rfl rfl (sn ?_)))))))))
         refine sr (s1 (far (k := 4) rfl fo26_4 ts3 rfl) (s1 (lod rfl (ld_box ts3 ta3 rfl rfl)) (sm rfl (sm rfl (sm rfl (s1 (bld rfl (bd63_1_2_5_6 (3 : Int) r28 r47 p3)) (cq [3, 4] [5] (fan_Work_do_ok p0.Tree (ApiMsg.mk (0 : UInt64) (3 : Int) r28 (0 : UInt64) ([] : List UInt8) r47 p3) [(ApiLock.mk p0.Tree (ApiSpan.mk r28 (r28 ++ ([0] : List UInt8)) false) true)] _ hq51) wf rfl rfl rfl cb34 rfl rfl rfl rfl rfl rfl rfl rfl (sn (sr ?_)))))))))
         exact s1 (lod (v := .agg [.slc 5 9 0 ([(ForestOp.mk (1 : Int) p0.Tree (ApiMsg.mk (0 : UInt64) (3 : Int) r28 (0 : UInt64) ([] : List UInt8) r47 p3))].length) none, .slc 4 5 0 ([(ApiLock.mk p0.Tree (ApiSpan.mk r28 (r28 ++ ([0] : List UInt8)) false) true)].length) none, .d .nils]) rfl (ld_box ts40 ta40 rfl rfl)) (s0 (sto rfl rfl (sB (d' := .agg [.slc 5 9 0 ([(ForestOp.mk (1 : Int) p0.Tree (ApiMsg.mk (0 : UInt64) (3 : Int) r28 (0 : UInt64) ([] : List UInt8) r47 p3))].length) none, .slc 4 5 0 ([(ApiLock.mk p0.Tree (ApiSpan.mk r28 (r28 ++ ([0] : List UInt8)) false) true)].length) none, .d .nils]) ts40 rfl rfl rfl rfl rfl rfl rfl)) (sa rfl (sn (SC.ret (finR (wc (e' := [(8, .ref 0 0 0), (9, .d (eI (0 : Int)))]) [2, 5, 4] [2] (by kernel_rfl) rfl (by kernel_rfl)) (lresC rfl (ld_box ts40 ta40 rfl rfl) (lresT rfl lresN)) rfl)))))
noncomputable def ref08_Columns (p0 : List ApiColumn) : Option Bool :=
 Option.bind (α := Bool)
 (bif (decide ((p0.length : Int) < (1 : Int))) then
 some true
 else
 some (decide ((p0.length : Int) > (24 : Int))))
 fun y33 =>
 bif y33 then
 some false
 else
 bindE (Y := Unit) (E := Bool)
 (Option.bind (α := Unit ⊕ Bool)
 (loop (Y := Int) (W := Unit ⊕ Bool) (fun y53 =>
 bif (decide (y53 < (p0.length : Int))) then
 Option.bind (getI p0 y53) fun v60 =>
 Option.bind (ref06_Column v60) fun r61 =>
 bif (r61 != (0 : Int)) then
 some (Sum.inr (Sum.inr false))
 else
 some (Sum.inl (w64 (y53 + (1 : Int))))
 else
 some (Sum.inr (Sum.inl ()))) (0 : Int))
 (Sum.elim (fun e => some (Sum.inl e)) (fun e => some (Sum.inr e))))
 (fun _ =>
 some true)
 (fun e => some e)
theorem ref08_Columns_ok (p0 : List ApiColumn) (r : Bool) (h0 : ref08_Columns p0 = some r) : CallAt Tryz.prog 72 [.d ((eL 7 eApiColumn) p0)] [] (.d (eB r)) [] := by
 unfold ref08_Columns at h0
 refine fn0 [0] Tryz.func72 rfl rfl rfl rfl rfl ?_
 refine sr (sa rfl (sn (sq (SC.seqP h0 (fun y => ⟨mk 24 [(0, .d ((eL 7 eApiColumn) p0)), (11, .d (eB y))], []⟩) ?_ ?_))))
 ·intro u1_34 h1
  refine SC.region (sm rfl (s1 (len rfl rfl rfl (len_lst un22)) (s1 (bi rfl rfl q_i64_lss) (sm rfl (sp h1 (fun h1 => ?_) (fun h1 => ?_))))))
  ·have q := si h1; subst q
   exact kw rfl (kw rfl (kw rfl (s1 (pkt rfl rfl) (SO.nil ((wq rfl))))))
  ·have q := si h1; subst q
   exact gw rfl (mv rfl) (gw rfl (len rfl rfl rfl (len_lst un22)) (gw rfl (bi rfl rfl q_i64_gtr) (s1 (pkf rfl rfl) (SO.nil ((wq rfl))))))
 ·rintro y33 h0
  refine cB h0 rfl (fun h0 => ?_) (fun h0 => ?_)
  ·have q := si h0; subst q
   exact sr (sa rfl (sn (SC.ret (finR (Wk.refl _) (lresT rfl lresN) rfl))))
  ·refine sk (SC.seqB h0 (fun y => ⟨mk 24 [], []⟩) ?_ ?_)
   ·intro u1_49 h1 h0
    obtain ⟨u2_59, h2, h1⟩ := ob h1
    refine sr (sa rfl (sn (SC.blk (SC.loopB h2 (fun y => ⟨mk 24 [(0, .d ((eL 7 eApiColumn) p0)), (3, .d (eI y))], []⟩) (wq rfl) ?_))))
    intro n63
    rintro y53 w2_58 h3 hv3
    refine sq (sr (sm rfl (sm rfl (s1 (len rfl rfl rfl (len_lst un22)) (s1 (bi rfl rfl q_i64_lss) (sn (cB h3 rfl (fun h3 => ?_) (fun h3 => ?_))))))))
    ·obtain ⟨v60, hv60, h3⟩ := ob h3; obtain ⟨r61, hq62, h3⟩ := ob h3
     refine sk (sq (SC.blk (sr (sm rfl (sm rfl (s1 (ial rfl rfl un22 ts77 (getI_some hv60).1 (map_get (getI_some hv60).2) rfl) (s1 (lod (v := .d (eApiColumn v60)) rfl (ld_rop ts77 ta77 rfl)) (c0 (ref06_Column_ok v60 _ hq62) wf rfl rfl rfl cb23 rfl (fun _ => rfl) (fun _ => rfl) (s1 (bi rfl rfl q_i64_neq) ?_)))))))))
     refine sn (cB h3 rfl (fun h3 => ?_) (fun h3 => ?_))
     ·have q := si h3; subst q; have q : _ = _ := hv3; subst q; have q := si h1; subst q; have q := si h0; subst q
      exact sr (sa rfl (sn (SC.ret (finR (Wk.refl _) (lresT rfl lresN) rfl))))
     ·refine SC.skip ?_
      change SC _ _ _ _ _
      have q := si h3; subst q
      exact SC.region (sm rfl (s1 (bi rfl rfl q_i64_add) (sa rfl (SO.nil (lf (wq rfl))))))
    ·have q := si h3; subst q; have q : _ = _ := hv3; subst q; have q := si h1; subst q
     exact SC.exit (lf (wq rfl))
   ·intro _ h0
    have q := si h0; subst q
    exact sr (sa rfl (sn (SC.ret (finR (Wk.refl _) (lresT rfl lresN) rfl))))
noncomputable def ref08_Fits (p0 : List ApiColumn) (p1 : List ApiValue) : Option Int :=
 Option.bind (α := Bool)
 (Option.bind (ref08_Columns p0) fun r47 =>
 bif (!r47) then
 some true
 else
 some ((p1.length : Int) != (p0.length : Int)))
 fun y45 =>
 bif y45 then
 some (1 : Int)
 else
 bindE (Y := Unit) (E := Int)
 (Option.bind (α := Unit ⊕ Int)
 (loop (Y := Int) (W := Unit ⊕ Int) (fun y71 =>
 bif (decide (y71 < (p1.length : Int))) then
 Option.bind (getI p0 y71) fun v79 =>
 Option.bind (getI p1 y71) fun v80 =>
 Option.bind (ref06_Fits v79 v80) fun r81 =>
 bif (r81 != (0 : Int)) then
 some (Sum.inr (Sum.inr r81))
 else
 some (Sum.inl (w64 (y71 + (1 : Int))))
 else
 some (Sum.inr (Sum.inl ()))) (0 : Int))
 (Sum.elim (fun e => some (Sum.inl e)) (fun e => some (Sum.inr e))))
 (fun _ =>
 some (0 : Int))
 (fun e => some e)
theorem ref08_Fits_ok (p0 : List ApiColumn) (p1 : List ApiValue) (r : Int) (h0 : ref08_Fits p0 p1 = some r) : CallAt Tryz.prog 36 [.d ((eL 7 eApiColumn) p0), .d ((eL 3 eApiValue) p1)] [] (.d (eI r)) [] := by
 unfold ref08_Fits at h0
 refine fn0 [0, 1] Tryz.func36 rfl rfl rfl rfl rfl ?_
 refine sr (sa rfl (sn (sq (SC.seqP h0 (fun y => ⟨mk 35 [(0, .d ((eL 7 eApiColumn) p0)), (1, .d ((eL 3 eApiValue) p1)), (16, .d (eB y))], []⟩) ?_ ?_))))
 ·intro u1_46 h1
  obtain ⟨r47, hq48, h1⟩ := ob h1
  refine SC.region (sm rfl (c0 (ref08_Columns_ok p0 _ hq48) wf rfl rfl rfl cb72 rfl (fun _ => rfl) (fun _ => rfl) (s1 (nt rfl) (sm rfl (sp h1 (fun h1 => ?_) (fun h1 => ?_))))))
  ·have q := si h1; subst q
   exact kw rfl (kw rfl (kw rfl (kw rfl (kw rfl (s1 (pkt rfl rfl) (SO.nil ((wq rfl))))))))
  ·have q := si h1; subst q
   exact gw rfl (mv rfl) (gw rfl (len rfl rfl rfl (len_lst un28)) (gw rfl (mv rfl) (gw rfl (len rfl rfl rfl (len_lst un22)) (gw rfl (bi rfl rfl q_i64_neq) (s1 (pkf rfl rfl) (SO.nil ((wq rfl))))))))
 ·rintro y45 h0
  refine cB h0 rfl (fun h0 => ?_) (fun h0 => ?_)
  ·have q := si h0; subst q
   exact sr (sa rfl (sn (SC.ret (finR (Wk.refl _) (lresT rfl lresN) rfl))))
  ·refine sk (SC.seqB h0 (fun y => ⟨mk 35 [], []⟩) ?_ ?_)
   ·intro u1_66 h1 h0
    obtain ⟨u2_78, h2, h1⟩ := ob h1
    refine sr (sa rfl (sn (SC.blk (SC.loopB h2 (fun y => ⟨mk 35 [(0, .d ((eL 7 eApiColumn) p0)), (1, .d ((eL 3 eApiValue) p1)), (5, .d (eI y))], []⟩) (wq rfl) ?_))))
    intro n83
    rintro y71 w2_77 h3 hv3
    refine sq (sr (sm rfl (sm rfl (s1 (len rfl rfl rfl (len_lst un28)) (s1 (bi rfl rfl q_i64_lss) (sn (cB h3 rfl (fun h3 => ?_) (fun h3 => ?_))))))))
    ·obtain ⟨v79, hv79, h3⟩ := ob h3; obtain ⟨v80, hv80, h3⟩ := ob h3; obtain ⟨r81, hq82, h3⟩ := ob h3
     refine sk (sq (SC.blk (sd (by kernel_rfl) (t1 ([], false) (mv rfl) rfl (t1 ([], false) (mv rfl) rfl (t1 ([], false) (ial rfl rfl un22 ts77 (getI_some hv79).1 (map_get (getI_some hv79).2) rfl) rfl (t1 ([], false) (lod (v := .d (eApiColumn v79)) rfl (ld_rop ts77 ta77 rfl)) rfl (t1 ([], false) (mv rfl) rfl (t1 ([], false) (mv rfl) rfl ?_)))))))))
     refine t1 ([], false) (ial rfl rfl un28 ts68 (getI_some hv80).1 (map_get (getI_some hv80).2) rfl) rfl (t1 ([], false) (lod (v := .d (eApiValue v80)) rfl (ld_rop ts68 ta68 rfl)) rfl (tc0 (ref06_Fits_ok v79 v80 _ hq82) wf rfl rfl rfl cb62 rfl (fun _ => rfl) (fun _ => rfl) (t1 ([], false) (asg rfl) rfl (tn (by decide +kernel) (sr (sm rfl (s1 (bi rfl rfl q_i64_neq) (sn (cB h3 rfl (fun h3 => ?_) (fun h3 => ?_))))))))))
     ·have q := si h3; subst q; have q : _ = _ := hv3; subst q; have q := si h1; subst q; have q := si h0; subst q
      exact sr (sm rfl (sa rfl (sn (SC.ret (finR (Wk.refl _) (lresT rfl lresN) rfl)))))
     ·refine SC.skip ?_
      change SC _ _ _ _ _
      have q := si h3; subst q
      exact SC.region (sm rfl (s1 (bi rfl rfl q_i64_add) (sa rfl (SO.nil (lf (wq rfl))))))
    ·have q := si h3; subst q; have q : _ = _ := hv3; subst q; have q := si h1; subst q
     exact SC.exit (lf (wq rfl))
   ·intro _ h0
    have q := si h0; subst q
    exact sr (sa rfl (sn (SC.ret (finR (Wk.refl _) (lresT rfl lresN) rfl))))
noncomputable def ref01_Out_Num (p0 : UInt64) (p1 : Int) : Option ((List UInt8)) :=
 Option.bind (α := (List UInt8))
 (loop (Y := Int × (List UInt8)) (W := (List UInt8)) (fun (y17, y18) =>
 bif (decide (y17 ≥ (0 : Int))) then
 bif decide (0 ≤ (w64 ((8 : Int) * y17))) then
 bif decide ((y18.length + [((shr64 p0 ((w64 ((8 : Int) * y17)).toNat)).toUInt8)].length) * 1 ≤ room) then
 some (Sum.inl ((w64 (y17 - (1 : Int))), (y18 ++ [((shr64 p0 ((w64 ((8 : Int) * y17)).toNat)).toUInt8)])))
 else none
 else none
 else
 some (Sum.inr y18)) ((w64 (p1 - (1 : Int))), ([] : List UInt8)))
 (fun e => some e)
theorem ref01_Out_Num_ok (p0 : UInt64) (p1 : Int) (r : (List UInt8)) (h0 : ref01_Out_Num p0 p1 = some r) : CallAt Tryz.prog 57 [.ref 0 0 0, .d (eU64 p0), .d (eI p1)] [.box (.d (.agg [.nils]))] (.tuple []) [.box (.agg [.slc 1 1 0 r.length none]), .row 1 (List.map eU8 r) true] := by
 unfold ref01_Out_Num at h0
 refine fn0 [0, 1, 2] Tryz.func57 rfl rfl rfl rfl rfl ?_
 obtain ⟨u1_24, h1, h0⟩ := ob h0
 refine sr (sm rfl (s1 (bi rfl rfl q_i64_sub) (sa rfl (sn (SC.blk (SC.loopB h1 (fun y => ⟨mk 27 [(0, .ref 0 0 0), (1, .d (eU64 p0)), (6, .d (eI y.1))], [.box (.agg [.slc 1 1 0 y.2.length none]), .row 1 (List.map eU8 y.2) true]⟩) (Wk.trans (Wk.pushE (σ' := [.box (.d (.agg [.nils])), .row 1 (List.map eU8 ([] : List UInt8)) true]) (.row 1 [] true) (fun _ hh => by cases hh) rfl) (Wk.trans (Wk.boxE (id := 0) (y := .agg [.slc 1 1 0 (([] : List UInt8).length) none]) (σ' := [.box (.agg [.slc 1 1 0 (([] : List UInt8).length) none]), .row 1 (List.map eU8 ([] : List UInt8)) true]) rfl (AWs.cons (AW.slcn _ _ _) AWs.nil) rfl) (wq rfl))) ?_))))))
 intro n27
 rintro ⟨y17, y18⟩ w1_23 h2 hv2
 refine sq (sr (sm rfl (s1 (bi rfl rfl q_i64_geq) (sn (cB h2 rfl (fun h2 => ?_) (fun h2 => ?_))))))
 ·obtain ⟨hg25, h2⟩ := gd h2; obtain ⟨hg26, h2⟩ := gd h2
  refine sk (sq (SC.blk (SC.draws (by kernel_rfl) (t1 ([], false) (mv rfl) rfl (t1 ([], false) (mv rfl) rfl (t1 ([], false) (nkr rfl) rfl (t1 ([], false) (far (k := 0) rfl fo127_0 ts125 rfl) rfl (t1 ([0], false) (lod rfl (ld_box ts125 ta125 rfl rfl)) rfl (t1 ([], false) (mv rfl) rfl ?_)))))))))
  refine t1 ([], false) (mv rfl) rfl (t1 ([], false) (bi rfl rfl q_i64_mul) rfl (t1 ([], false) (bi (v := .d (eU64 (shr64 p0 ((w64 ((8 : Int) * y17)).toNat)))) rfl rfl (fun X Y => b_u64_shr _ X Y p0 _ hg25)) rfl (t1 ([], false) (cvo rfl (cv_u64_u8 un54 un5 (shr64 p0 ((w64 ((8 : Int) * y17)).toNat)))) rfl (t1 ([2], true) (bsn (k := 2) (ds := List.map eU8 [((shr64 p0 ((w64 ((8 : Int) * y17)).toNat)).toUInt8)]) (off := 0) (l' := [((shr64 p0 ((w64 ((8 : Int) * y17)).toNat)).toUInt8)].length) rfl un125 ei5 rfl rfl (by rfl) rfl rfl rfl) rfl (t1 ([1, 2, 3], true) (app rfl rfl rfl rfl bc125 (aF (f := eU8) (xs := y18) (k := 3) rfl un125 ei5 rfl (el_full (xs := [((shr64 p0 ((w64 ((8 : Int) * y17)).toNat)).toUInt8)]) rfl) hg26 rfl)) rfl (t1 ([], false) (nkr rfl) rfl (t1 ([], false) (far (k := 0) rfl fo127_0 ts125 rfl) rfl (t0 ([0, 3], true) (sto rfl rfl (sB (d' := .agg [.slc 3 1 0 ((y18 ++ [((shr64 p0 ((w64 ((8 : Int) * y17)).toNat)).toUInt8)]).length) none]) ts125 rfl rfl rfl rfl rfl rfl rfl)) rfl (ST.nil (And.intro (by decide +kernel) ?_))))))))))
  change SC _ _ _ _ _
  have q := si h2; subst q
  exact SC.region (sm rfl (s1 (bi rfl rfl q_i64_sub) (sa rfl (SO.nil (lf (wc [0, 3] [0, 0] (by kernel_rfl) rfl (by kernel_rfl)))))))
 ·have q := si h2; subst q; have q : _ = _ := hv2; subst q; have q := si h0; subst q
  exact SC.exit (finN (Wk.refl _) lresN rfl)
noncomputable def ref01_Out_Flag (p0 : Bool) (p1 : List UInt8) : Option ((List UInt8)) :=
 bif p0 then
 bif decide ((p1.length + [(1 : UInt8)].length) * 1 ≤ room) then
 some (p1 ++ [(1 : UInt8)])
 else none
 else
 bif decide ((p1.length + [(0 : UInt8)].length) * 1 ≤ room) then
 some (p1 ++ [(0 : UInt8)])
 else none
theorem ref01_Out_Flag_ok (p0 : Bool) (p1 : List UInt8) (r : (List UInt8)) (h0 : ref01_Out_Flag p0 p1 = some r) : CallAt Tryz.prog 86 [.ref 0 0 0, .d (eB p0)] [.box (.agg [.slc 1 1 0 p1.length none]), .row 1 (List.map eU8 p1) true] (.tuple []) [.box (.agg [.slc 2 1 0 r.length none]), .dead, .row 1 (List.map eU8 r) true] := by
 unfold ref01_Out_Flag at h0
 refine fn0 [0, 1] Tryz.func86 rfl rfl rfl rfl rfl ?_
 refine sr (sm rfl (sn (cB h0 rfl (fun h0 => ?_) (fun h0 => ?_))))
 ·obtain ⟨hg4, h0⟩ := gd h0; have q := si h0; subst q
  refine SC.region (sm rfl (sm rfl (s1 (nkr rfl) (s1 (far (k := 0) rfl fo127_0 ts125 rfl) (s1 (lod rfl (ld_box ts125 ta125 rfl rfl)) (s1 (bsn (k := 2) (ds := List.map eU8 [(1 : UInt8)]) (off := 0) (l' := [(1 : UInt8)].length) rfl un125 ei5 rfl rfl (by rfl) rfl rfl rfl) (s1 (app rfl rfl rfl rfl bc125 (aF (f := eU8) (xs := p1) (k := 3) rfl un125 ei5 rfl (el_full (xs := [(1 : UInt8)]) rfl) hg4 rfl)) (s1 (nkr rfl) (s1 (far (k := 0) rfl fo127_0 ts125 rfl) ?_)))))))))
  exact s0 (sto rfl rfl (sB (d' := .agg [.slc 3 1 0 ((p1 ++ [(1 : UInt8)]).length) none]) ts125 rfl rfl rfl rfl rfl rfl rfl)) (SO.nil (finN (wc (e' := []) [0, 1, 3] [0, 1] (by kernel_rfl) rfl (by kernel_rfl)) lresN rfl))
 ·obtain ⟨hg5, h0⟩ := gd h0; have q := si h0; subst q
  refine SC.region (sm rfl (sm rfl (s1 (nkr rfl) (s1 (far (k := 0) rfl fo127_0 ts125 rfl) (s1 (lod rfl (ld_box ts125 ta125 rfl rfl)) (s1 (bsn (k := 2) (ds := List.map eU8 [(0 : UInt8)]) (off := 0) (l' := [(0 : UInt8)].length) rfl un125 ei5 rfl rfl (by rfl) rfl rfl rfl) (s1 (app rfl rfl rfl rfl bc125 (aF (f := eU8) (xs := p1) (k := 3) rfl un125 ei5 rfl (el_full (xs := [(0 : UInt8)]) rfl) hg5 rfl)) (s1 (nkr rfl) (s1 (far (k := 0) rfl fo127_0 ts125 rfl) ?_)))))))))
  exact s0 (sto rfl rfl (sB (d' := .agg [.slc 3 1 0 ((p1 ++ [(0 : UInt8)]).length) none]) ts125 rfl rfl rfl rfl rfl rfl rfl)) (SO.nil (finN (wc (e' := []) [0, 1, 3] [0, 1] (by kernel_rfl) rfl (by kernel_rfl)) lresN rfl))
noncomputable def ref01_Out_Num_1 (p0 : UInt64) (p1 : Int) (p2 : List UInt8) : Option ((List UInt8)) :=
 Option.bind (α := (List UInt8))
 (loop (Y := Int × (List UInt8)) (W := (List UInt8)) (fun (y17, y18) =>
 bif (decide (y17 ≥ (0 : Int))) then
 bif decide (0 ≤ (w64 ((8 : Int) * y17))) then
 bif decide ((y18.length + [((shr64 p0 ((w64 ((8 : Int) * y17)).toNat)).toUInt8)].length) * 1 ≤ room) then
 some (Sum.inl ((w64 (y17 - (1 : Int))), (y18 ++ [((shr64 p0 ((w64 ((8 : Int) * y17)).toNat)).toUInt8)])))
 else none
 else none
 else
 some (Sum.inr y18)) ((w64 (p1 - (1 : Int))), p2))
 (fun e => some e)
theorem ref01_Out_Num_1_ok (p0 : UInt64) (p1 : Int) (p2 : List UInt8) (r : (List UInt8)) (h0 : ref01_Out_Num_1 p0 p1 p2 = some r) : CallAt Tryz.prog 57 [.ref 0 0 0, .d (eU64 p0), .d (eI p1)] [.box (.agg [.slc 1 1 0 p2.length none]), .row 1 (List.map eU8 p2) true] (.tuple []) [.box (.agg [.slc 2 1 0 r.length none]), .dead, .row 1 (List.map eU8 r) true] := by
 unfold ref01_Out_Num_1 at h0
 refine fn0 [0, 1, 2] Tryz.func57 rfl rfl rfl rfl rfl ?_
 obtain ⟨u1_24, h1, h0⟩ := ob h0
 refine sr (sm rfl (s1 (bi rfl rfl q_i64_sub) (sa rfl (sn (SC.blk (SC.loopB h1 (fun y => ⟨mk 27 [(0, .ref 0 0 0), (1, .d (eU64 p0)), (6, .d (eI y.1))], [.box (.agg [.slc 2 1 0 y.2.length none]), .dead, .row 1 (List.map eU8 y.2) true]⟩) (Wk.trans (wq (e' := [(0, .ref 0 0 0), (1, .d (eU64 p0)), (6, .d (eI (w64 (p1 - (1 : Int)))))]) rfl) (Wk.trans (Wk.move (e' := [(0, .ref 0 0 0), (1, .d (eU64 p0)), (6, .d (eI (w64 (p1 - (1 : Int)))))]) (os := [.box (.agg [.slc 2 1 0 p2.length none]), .row 1 (List.map eU8 p2) true]) (o := .row 1 (List.map eU8 p2) true) (σ' := [.box (.agg [.slc 2 1 0 p2.length none]), .dead, .row 1 (List.map eU8 p2) true]) 1 (Nat.le_of_ble_eq_true rfl) rfl rfl rfl rfl) (wq rfl))) ?_))))))
 intro n27
 rintro ⟨y17, y18⟩ w1_23 h2 hv2
 refine sq (sr (sm rfl (s1 (bi rfl rfl q_i64_geq) (sn (cB h2 rfl (fun h2 => ?_) (fun h2 => ?_))))))
 ·obtain ⟨hg25, h2⟩ := gd h2; obtain ⟨hg26, h2⟩ := gd h2
  refine sk (sq (SC.blk (SC.draws (by kernel_rfl) (t1 ([], false) (mv rfl) rfl (t1 ([], false) (mv rfl) rfl (t1 ([], false) (nkr rfl) rfl (t1 ([], false) (far (k := 0) rfl fo127_0 ts125 rfl) rfl (t1 ([0], false) (lod rfl (ld_box ts125 ta125 rfl rfl)) rfl (t1 ([], false) (mv rfl) rfl ?_)))))))))
  refine t1 ([], false) (mv rfl) rfl (t1 ([], false) (bi rfl rfl q_i64_mul) rfl (t1 ([], false) (bi (v := .d (eU64 (shr64 p0 ((w64 ((8 : Int) * y17)).toNat)))) rfl rfl (fun X Y => b_u64_shr _ X Y p0 _ hg25)) rfl (t1 ([], false) (cvo rfl (cv_u64_u8 un54 un5 (shr64 p0 ((w64 ((8 : Int) * y17)).toNat)))) rfl (t1 ([3], true) (bsn (k := 3) (ds := List.map eU8 [((shr64 p0 ((w64 ((8 : Int) * y17)).toNat)).toUInt8)]) (off := 0) (l' := [((shr64 p0 ((w64 ((8 : Int) * y17)).toNat)).toUInt8)].length) rfl un125 ei5 rfl rfl (by rfl) rfl rfl rfl) rfl (t1 ([2, 3, 4], true) (app rfl rfl rfl rfl bc125 (aF (f := eU8) (xs := y18) (k := 4) rfl un125 ei5 rfl (el_full (xs := [((shr64 p0 ((w64 ((8 : Int) * y17)).toNat)).toUInt8)]) rfl) hg26 rfl)) rfl (t1 ([], false) (nkr rfl) rfl (t1 ([], false) (far (k := 0) rfl fo127_0 ts125 rfl) rfl (t0 ([0, 4], true) (sto rfl rfl (sB (d' := .agg [.slc 4 1 0 ((y18 ++ [((shr64 p0 ((w64 ((8 : Int) * y17)).toNat)).toUInt8)]).length) none]) ts125 rfl rfl rfl rfl rfl rfl rfl)) rfl (ST.nil (And.intro (by decide +kernel) ?_))))))))))
  change SC _ _ _ _ _
  have q := si h2; subst q
  exact SC.region (sm rfl (s1 (bi rfl rfl q_i64_sub) (sa rfl (SO.nil (lf (Wk.trans (wq (e' := [(0, .ref 0 0 0), (1, .d (eU64 p0)), (6, .d (eI (w64 (y17 - (1 : Int)))))]) rfl) (wc [0, 1, 4] [0, 1, 0] (by kernel_rfl) rfl (by kernel_rfl))))))))
 ·have q := si h2; subst q; have q : _ = _ := hv2; subst q; have q := si h0; subst q
  exact SC.exit (finN (Wk.refl _) lresN rfl)
noncomputable def ref01_Out_Text (p0 : List UInt8) (p1 : List UInt8) : Option (Bool × (List UInt8)) :=
 bif (decide ((p0.length : Int) > (65535 : Int))) then
 some (false, p1)
 else
 Option.bind (ref01_Out_Num_1 (u64i (p0.length : Int)) (2 : Int) p1) fun r6 =>
 bif decide ((r6.length + p0.length) * 1 ≤ room) then
 some (true, (r6 ++ p0))
 else none
theorem ref01_Out_Text_ok (p0 : List UInt8) (p1 : List UInt8) (r : Bool × (List UInt8)) (h0 : ref01_Out_Text p0 p1 = some r) : CallAt Tryz.prog 87 [.ref 0 0 0, .d (eS p0)] [.box (.agg [.slc 1 1 0 p1.length none]), .row 1 (List.map eU8 p1) true] (.d (eB r.1)) [.box (.agg [.slc 2 1 0 r.2.length none]), .dead, .row 1 (List.map eU8 r.2) true] := by
 unfold ref01_Out_Text at h0
 refine fn0 [0, 1] Tryz.func87 rfl rfl rfl rfl rfl ?_
 refine sr (sa rfl (sn (sq (sr (sm rfl (s1 (len rfl rfl rfl (len_str un9)) (s1 (bi rfl rfl q_i64_gtr) (sn (cB h0 rfl (fun h0 => ?_) (fun h0 => ?_))))))))))
 ·have q := si h0; subst q
  exact sr (sa rfl (sn (SC.ret (finR (Wk.trans (wq (e' := [(4, .d (eB false))]) rfl) (Wk.trans (Wk.move (e' := [(4, .d (eB false))]) (os := [.box (.agg [.slc 2 1 0 p1.length none]), .row 1 (List.map eU8 p1) true]) (o := .row 1 (List.map eU8 p1) true) (σ' := [.box (.agg [.slc 2 1 0 p1.length none]), .dead, .row 1 (List.map eU8 p1) true]) 1 (Nat.le_of_ble_eq_true rfl) rfl rfl rfl rfl) (wq (e' := [(4, .d (eB false))]) rfl))) (lresT rfl lresN) rfl))))
 ·obtain ⟨r6, hq7, h0⟩ := ob h0; obtain ⟨hg8, h0⟩ := gd h0; have q := si h0; subst q
  refine sk (sr (sm rfl (sm rfl (s1 (len rfl rfl rfl (len_str un9)) (s1 (cvo rfl (cv_i64_u64 un3 un54 (p0.length : Int))) (cq [0, 1] [2] (ref01_Out_Num_1_ok (u64i (p0.length : Int)) (2 : Int) p1 _ hq7) wf rfl rfl rfl cb57 rfl rfl rfl rfl rfl rfl rfl rfl (sn (sr (sm rfl ?_)))))))))
  refine sm rfl (s1 (nkr rfl) (s1 (far (k := 0) rfl fo127_0 ts125 rfl) (s1 (lod rfl (ld_box ts125 ta125 rfl rfl)) (sm rfl (s1 (app rfl rfl rfl rfl bc9 (aF (f := eU8) (xs := r6) (k := 3) rfl un125 ei5 rfl el_str hg8 rfl)) (s1 (nkr rfl) (s1 (far (k := 0) rfl fo127_0 ts125 rfl) (s0 (sto rfl rfl (sB (d' := .agg [.slc 3 1 0 ((r6 ++ p0).length) none]) ts125 rfl rfl rfl rfl rfl rfl rfl)) (sn ?_)))))))))
  exact sr (sa rfl (sn (SC.ret (finR (Wk.trans (wq (e' := [(4, .d (eB true))]) rfl) (wc (e' := [(4, .d (eB true))]) [0, 1, 3] [0, 1] (by kernel_rfl) rfl (by kernel_rfl))) (lresT rfl lresN) rfl))))
noncomputable def ref08_put (p0 : ApiValue) (p1 : List UInt8) : Option ((List UInt8)) :=
 Option.bind (ref01_Out_Flag (p0.Kind == (0 : Int)) p1) fun r15 =>
 Option.bind (α := Bool)
 (bif (p0.Kind == (1 : Int)) then
 some (p0.Kind == (1 : Int))
 else
 some (p0.Kind == (2 : Int)))
 fun y17 =>
 bif y17 then
 Option.bind (ref01_Out_Num_1 p0.N (8 : Int) r15) fun r19 =>
 some r19
 else
 bif (p0.Kind == (3 : Int)) then
 Option.bind (ref01_Out_Num_1 p0.N (1 : Int) r15) fun r21 =>
 some r21
 else
 Option.bind (α := Bool)
 (bif (p0.Kind == (4 : Int)) then
 some (p0.Kind == (4 : Int))
 else
 some (p0.Kind == (5 : Int)))
 fun y23 =>
 bif y23 then
 Option.bind (ref01_Out_Text p0.S r15) fun (r25, r26) =>
 some r26
 else
 some r15
theorem ref08_put_ok (p0 : ApiValue) (p1 : List UInt8) (r : (List UInt8)) (h0 : ref08_put p0 p1 = some r) : CallAt Tryz.prog 58 [.ref 0 0 0, .d (eApiValue p0)] [.box (.agg [.slc 1 1 0 p1.length none]), .row 1 (List.map eU8 p1) true] (.tuple []) [.box (.agg [.slc 2 1 0 r.length none]), .dead, .row 1 (List.map eU8 r) true] := by
 unfold ref08_put at h0
 refine fn0 [0, 1] Tryz.func58 rfl rfl rfl rfl rfl ?_
 obtain ⟨r15, hq16, h0⟩ := ob h0
 refine sr (s1 (bxo (k := 2) rfl rfl rfl) (sn (sr (sm rfl (s1 (far (k := 0) rfl fo68_0 ts3 rfl) (s1 (lod rfl (ld_box ts3 ta3 rfl rfl)) (s1 (bi rfl rfl q_i64_eql) (cq [0, 1] [3] (ref01_Out_Flag_ok (p0.Kind == (0 : Int)) p1 _ hq16) wf rfl rfl rfl cb86 rfl rfl rfl rfl rfl rfl rfl rfl (sn ?_)))))))))
 refine sr (s1 (far (k := 0) rfl fo68_0 ts3 rfl) (s1 (lod rfl (ld_box ts3 ta3 rfl rfl)) (sn (SC.blk (SC.seqP h0 (fun y => ⟨mk 31 [(0, .ref 0 0 0), (3, .ref 2 0 0), (10, .d (eI p0.Kind)), (11, .d (eB y))], [.box (.agg [.slc 3 1 0 r15.length none]), .dead, .box (.d (eApiValue p0)), .row 1 (List.map eU8 r15) true]⟩) ?_ ?_)))))
 ·intro u1_18 h1
  refine sr (s1 (bi rfl rfl q_i64_eql) (sa rfl (sn (cB h1 rfl (fun h1 => ?_) (fun h1 => ?_)))))
  ·have q := si h1; subst q
   exact SC.skip ((wq rfl))
  ·have q := si h1; subst q
   exact SC.region (s1 (bi rfl rfl q_i64_eql) (sa rfl (SO.nil ((wq rfl)))))
 ·rintro y17 h0
  refine cB h0 rfl (fun h0 => ?_) (fun h0 => ?_)
  ·obtain ⟨r19, hq20, h0⟩ := ob h0; have q := si h0; subst q
   exact SC.region (sm rfl (s1 (far (k := 1) rfl fo68_1 ts54 rfl) (s1 (lod rfl (ld_box ts54 ta54 rfl rfl)) (cq [0, 3] [4] (ref01_Out_Num_1_ok p0.N (8 : Int) r15 _ hq20) wf rfl rfl rfl cb57 rfl rfl rfl rfl rfl rfl rfl rfl (SO.nil (finN (wc (e' := []) [0, 1, 4] [0, 1] (by kernel_rfl) rfl (by kernel_rfl)) lresN rfl))))))
  ·refine sr (s1 (bi rfl rfl q_i64_eql) (sa rfl (sn (cB h0 rfl (fun h0 => ?_) (fun h0 => ?_)))))
   ·obtain ⟨r21, hq22, h0⟩ := ob h0; have q := si h0; subst q
    exact SC.region (sm rfl (s1 (far (k := 1) rfl fo68_1 ts54 rfl) (s1 (lod rfl (ld_box ts54 ta54 rfl rfl)) (cq [0, 3] [4] (ref01_Out_Num_1_ok p0.N (1 : Int) r15 _ hq22) wf rfl rfl rfl cb57 rfl rfl rfl rfl rfl rfl rfl rfl (SO.nil (finN (wc (e' := []) [0, 1, 4] [0, 1] (by kernel_rfl) rfl (by kernel_rfl)) lresN rfl))))))
   ·refine SC.seqP h0 (fun y => ⟨mk 31 [(0, .ref 0 0 0), (3, .ref 2 0 0), (24, .d (eB y))], [.box (.agg [.slc 3 1 0 r15.length none]), .dead, .box (.d (eApiValue p0)), .row 1 (List.map eU8 r15) true]⟩) ?_ ?_
    ·intro u1_24 h1
     refine sr (s1 (bi rfl rfl q_i64_eql) (sa rfl (sn (cB h1 rfl (fun h1 => ?_) (fun h1 => ?_)))))
     ·have q := si h1; subst q
      exact SC.skip ((wq rfl))
     ·have q := si h1; subst q
      exact SC.region (s1 (bi rfl rfl q_i64_eql) (sa rfl (SO.nil ((wq rfl)))))
    ·rintro y23 h0
     refine cB h0 rfl (fun h0 => ?_) (fun h0 => ?_)
     ·obtain ⟨⟨r25, r26⟩, hq27, h0⟩ := ob h0; have q := si h0; subst q
      exact SC.region (sm rfl (s1 (far (k := 2) rfl fo68_2 ts9 rfl) (s1 (lod rfl (ld_box ts9 ta9 rfl rfl)) (cq [0, 3] [4] (ref01_Out_Text_ok p0.S r15 _ hq27) wf rfl rfl rfl cb87 rfl rfl rfl rfl rfl rfl rfl rfl (SO.nil (finN (wc (e' := []) [0, 1, 4] [0, 1] (by kernel_rfl) rfl (by kernel_rfl)) lresN rfl))))))
     ·have q := si h0; subst q
      exact SC.skip (finN (wc (e' := []) [0, 1, 3] [0, 1] (by kernel_rfl) rfl (by kernel_rfl)) lresN rfl)
noncomputable def ref08_Bytes (p0 : List ApiValue) : Option ((List UInt8)) :=
 Option.bind (ref01_Out_Num (u64i (p0.length : Int)) (1 : Int)) fun r38 =>
 Option.bind (α := (List UInt8))
 (Option.bind (α := (List UInt8))
 (loop (Y := Int × (List UInt8)) (W := (List UInt8)) (fun (y61, y62) =>
 bif (decide (y61 < (p0.length : Int))) then
 Option.bind (getI p0 y61) fun v70 =>
 Option.bind (ref08_put v70 y62) fun r71 =>
 some (Sum.inl ((w64 (y61 + (1 : Int))), r71))
 else
 some (Sum.inr y62)) ((0 : Int), r38))
 (fun e => some e))
 fun y56 =>
 some y56
theorem ref08_Bytes_ok (p0 : List ApiValue) (r : (List UInt8)) (h0 : ref08_Bytes p0 = some r) : CallAt Tryz.prog 18 [.d ((eL 3 eApiValue) p0)] [] (.d (eS r)) [] := by
 unfold ref08_Bytes at h0
 refine fn0 [0] Tryz.func18 rfl rfl rfl rfl rfl ?_
 obtain ⟨r38, hq39, h0⟩ := ob h0
 refine sr (s1 (asg (v := .d (eS ([] : List UInt8))) rfl) (sn (sr (s1 (bld rfl (bd127_ )) (s1 (bxo (k := 0) rfl rfl rfl) (sa rfl (sn (sr (sm rfl ?_)))))))))
 refine sm rfl (s1 (len rfl rfl rfl (len_lst un28)) (s1 (cvo rfl (cv_i64_u64 un3 un54 (p0.length : Int))) (cq [0] [1] (ref01_Out_Num_ok (u64i (p0.length : Int)) (1 : Int) _ hq39) wf rfl rfl rfl cb57 rfl rfl rfl rfl rfl rfl rfl rfl (sn (SC.seqP h0 (fun y => ⟨mk 29 [(3, .ref 0 0 0)], [.box (.agg [.slc 1 1 0 y.length none]), .row 1 (List.map eU8 y) true]⟩) ?_ ?_)))))
 ·intro u1_57 h1
  obtain ⟨u2_69, h2, h1⟩ := ob h1
  refine sr (sa rfl (sn (SC.blk (SC.loopB h2 (fun y => ⟨mk 29 [(0, .d ((eL 3 eApiValue) p0)), (3, .ref 0 0 0), (4, .d (eI y.1))], [.box (.agg [.slc 1 1 0 y.2.length none]), .row 1 (List.map eU8 y.2) true]⟩) (wq rfl) ?_))))
  intro n73
  rintro ⟨y61, y62⟩ w2_68 h3 hv3
  refine sq (sr (sm rfl (sm rfl (s1 (len rfl rfl rfl (len_lst un28)) (s1 (bi rfl rfl q_i64_lss) (sn (cB h3 rfl (fun h3 => ?_) (fun h3 => ?_))))))))
  ·obtain ⟨v70, hv70, h3⟩ := ob h3; obtain ⟨r71, hq72, h3⟩ := ob h3
   refine sk (sq (SC.blk (SC.region (sm rfl (sm rfl (sm rfl (s1 (ial rfl rfl un28 ts68 (getI_some hv70).1 (map_get (getI_some hv70).2) rfl) (s1 (lod (v := .d (eApiValue v70)) rfl (ld_rop ts68 ta68 rfl)) (cq [0, 1] [2] (ref08_put_ok v70 y62 _ hq72) wf rfl rfl rfl cb58 rfl rfl rfl rfl rfl rfl rfl rfl ?_)))))))))
   refine SO.nil ?_
   change SC _ _ _ _ _
   have q := si h3; subst q
   exact SC.region (sm rfl (s1 (bi rfl rfl q_i64_add) (sa rfl (SO.nil (lf (wc [0, 2] [0] (by kernel_rfl) rfl (by kernel_rfl)))))))
  ·have q := si h3; subst q; have q : _ = _ := hv3; subst q; have q := si h1; subst q
   exact SC.exit ((wq rfl))
 ·rintro y56 h0
  have q := si h0; subst q
  exact sr (sm rfl (s1 (nkr rfl) (s1 (far (k := 0) rfl fo127_0 ts125 rfl) (s1 (lod rfl (ld_box ts125 ta125 rfl rfl)) (s1 (cvo (v := .d (eS y56)) rfl (cv_bytes_str un125 un9 un5 (el_full (xs := y56) rfl) (fun _ hh => by cases hh))) (sa rfl (sn (SC.ret (finR (wc (e' := [(2, .d (eS y56))]) [] [] (by kernel_rfl) rfl (by kernel_rfl)) (lresT rfl lresN) rfl)))))))))
noncomputable def ref01_In_Left (p0 : List UInt8) (p1 : Int) (p2 : Bool) : Option Unit :=
 some ()
theorem ref01_In_Left_ok (p0 : List UInt8) (p1 : Int) (p2 : Bool) (r : Unit) (h0 : ref01_In_Left p0 p1 p2 = some r) : CallAt Tryz.prog 127 [.ref 0 0 0] [.box (.agg [.slc 1 1 0 p0.length none, .d (eI p1), .d (eB p2)]), .row 1 (List.map eU8 p0) true] (.d (eI (w64 ((p0.length : Int) - p1)))) [.box (.agg [.slc 1 1 0 p0.length none, .d (eI p1), .d (eB p2)]), .row 1 (List.map eU8 p0) true] := by
 unfold ref01_In_Left at h0
 refine fn0 [0] Tryz.func127 rfl rfl rfl rfl rfl ?_
 have q := si h0; subst q
 refine sr (sa rfl (sn (sd (by kernel_rfl) (t1 ([], false) (mv rfl) rfl (t1 ([], false) (nkr rfl) rfl (t1 ([], false) (far (k := 0) rfl fo182_0 ts125 rfl) rfl (t1 ([0], false) (lod rfl (ld_box ts125 ta125 rfl rfl)) rfl (t1 ([], false) (len rfl rfl rfl (len_slc un125)) rfl (t1 ([], false) (mv rfl) rfl ?_)))))))))
 exact t1 ([], false) (nkr rfl) rfl (t1 ([], false) (far (k := 1) rfl fo182_1 ts3 rfl) rfl (t1 ([0], false) (lod rfl (ld_box ts3 ta3 rfl rfl)) rfl (t1 ([], false) (bi rfl rfl q_i64_sub) rfl (t1 ([], false) (asg rfl) rfl (tn (by decide +kernel) (SC.ret (finR (Wk.refl _) (lresT rfl lresN) rfl)))))))
noncomputable def ref01_In_Num (p0 : Int) (p1 : List UInt8) (p2 : Int) (p3 : Bool) : Option (UInt64 × Int × Bool) :=
 Option.bind (α := Bool)
 (bif p3 then
 some true
 else
 Option.bind (ref01_In_Left p1 p2 p3) fun _ =>
 some (decide ((w64 ((p1.length : Int) - p2)) < p0)))
 fun y31 =>
 bif y31 then
 some ((0 : UInt64), p2, true)
 else
 Option.bind (α := UInt64)
 (Option.bind (α := UInt64)
 (loop (Y := UInt64 × Int) (W := UInt64) (fun (y47, y48) =>
 bif (decide (y48 < p0)) then
 Option.bind (getI p1 (w64 (p2 + y48))) fun v54 =>
 some (Sum.inl (((shl64 y47 8) + (v54.toUInt64)), (w64 (y48 + (1 : Int)))))
 else
 some (Sum.inr y47)) ((0 : UInt64), (0 : Int)))
 (fun e => some e))
 fun y44 =>
 some (y44, (w64 (p2 + p0)), p3)
theorem ref01_In_Num_ok (p0 : Int) (p1 : List UInt8) (p2 : Int) (p3 : Bool) (r : UInt64 × Int × Bool) (h0 : ref01_In_Num p0 p1 p2 p3 = some r) : CallAt Tryz.prog 108 [.ref 0 0 0, .d (eI p0)] [.box (.agg [.slc 1 1 0 p1.length none, .d (eI p2), .d (eB p3)]), .row 1 (List.map eU8 p1) true] (.d (eU64 r.1)) [.box (.agg [.slc 1 1 0 p1.length none, .d (eI r.2.1), .d (eB r.2.2)]), .row 1 (List.map eU8 p1) true] := by
 unfold ref01_In_Num at h0
 refine fn0 [0, 1] Tryz.func108 rfl rfl rfl rfl rfl ?_
 refine sr (s1 (asg (v := .d (eU64 (0 : UInt64))) rfl) (sn (sq (SC.seqP h0 (fun y => ⟨mk 50 [(0, .ref 0 0 0), (1, .d (eI p0)), (16, .d (eB y))], [.box (.agg [.slc 1 1 0 p1.length none, .d (eI p2), .d (eB p3)]), .row 1 (List.map eU8 p1) true]⟩) ?_ ?_))))
 ·intro u1_32 h1
  refine SC.region (sm rfl (s1 (nkr rfl) (s1 (far (k := 2) rfl fo182_2 ts4 rfl) (s1 (lod rfl (ld_box ts4 ta4 rfl rfl)) (sm rfl (sp h1 (fun h1 => ?_) (fun h1 => ?_)))))))
  ·have q := si h1; subst q
   exact kw rfl (kw rfl (kw rfl (kw rfl (s1 (pkt rfl rfl) (SO.nil ((wq rfl)))))))
  ·obtain ⟨_, hq33, h1⟩ := ob h1; have q := si h1; subst q
   exact gw rfl (mv rfl) (cq [0, 1] [] (ref01_In_Left_ok p1 p2 p3 _ hq33) (ww rfl) rfl rfl rfl cb127 rfl rfl rfl rfl rfl rfl rfl rfl (gw rfl (mv rfl) (gw rfl (bi rfl rfl q_i64_lss) (s1 (pkf rfl rfl) (SO.nil ((wq rfl)))))))
 ·rintro y31 h0
  refine cB h0 rfl (fun h0 => ?_) (fun h0 => ?_)
  ·have q := si h0; subst q
   refine sr (sm rfl (s1 (nkr rfl) (s1 (far (k := 2) rfl fo182_2 ts4 rfl) (s0 (sto (b := .d (eB true)) rfl rfl (sB (d' := .agg [.slc 1 1 0 p1.length none, .d (eI p2), .d (eB true)]) ts4 rfl rfl rfl rfl rfl rfl rfl)) (sn (sr (s1 (asg (v := .d (eU64 (0 : UInt64))) rfl) (sn (SC.ret ?_)))))))))
   exact finR (Wk.refl _) (lresT rfl lresN) rfl
  ·refine sk (sr (s1 (asg (v := .d (eU64 (0 : UInt64))) rfl) (sn (SC.seqP h0 (fun y => ⟨mk 50 [(0, .ref 0 0 0), (1, .d (eI p0)), (5, .d (eU64 y))], [.box (.agg [.slc 1 1 0 p1.length none, .d (eI p2), .d (eB p3)]), .row 1 (List.map eU8 p1) true]⟩) ?_ ?_))))
   ·intro u1_45 h1
    obtain ⟨u2_53, h2, h1⟩ := ob h1
    refine sr (sa rfl (sn (SC.blk (SC.loopB h2 (fun y => ⟨mk 50 [(0, .ref 0 0 0), (1, .d (eI p0)), (5, .d (eU64 y.1)), (6, .d (eI y.2))], [.box (.agg [.slc 1 1 0 p1.length none, .d (eI p2), .d (eB p3)]), .row 1 (List.map eU8 p1) true]⟩) (wq rfl) ?_))))
    intro n55
    rintro ⟨y47, y48⟩ w2_52 h3 hv3
    refine sq (sr (sm rfl (sm rfl (s1 (bi rfl rfl q_i64_lss) (sn (cB h3 rfl (fun h3 => ?_) (fun h3 => ?_)))))))
    ·obtain ⟨v54, hv54, h3⟩ := ob h3
     refine sk (sq (SC.blk (SC.draws (by kernel_rfl) (t1 ([], false) (mv rfl) rfl (t1 ([], false) (bi (v := .d (eU64 (shl64 y47 8))) rfl rfl (fun X Y => b_u64_shl _ X Y y47 _ (by decide))) rfl (t1 ([], false) (mv rfl) rfl (t1 ([], false) (nkr rfl) rfl (t1 ([], false) (far (k := 0) rfl fo182_0 ts125 rfl) rfl (t1 ([0], false) (lod rfl (ld_box ts125 ta125 rfl rfl)) rfl ?_)))))))))
     refine t1 ([], false) (mv rfl) rfl (t1 ([], false) (nkr rfl) rfl (t1 ([], false) (far (k := 1) rfl fo182_1 ts3 rfl) rfl (t1 ([0], false) (lod rfl (ld_box ts3 ta3 rfl rfl)) rfl (t1 ([], false) (mv rfl) rfl (t1 ([], false) (bi rfl rfl q_i64_add) rfl (t1 ([], false) (iaz rfl rfl un125 ts5 (getI_lt hv54)) rfl (t1 ([1], false) (lod rfl (ld_row ts5 ta5 rfl (map_get (getI_some hv54).2) rfl)) rfl (t1 ([], false) (cvo rfl (cv_u8_u64 un5 un54 v54)) rfl (t1 ([], false) (bi rfl rfl q_u64_add) rfl ?_)))))))))
     refine t1 ([], false) (asg rfl) rfl (ST.nil (And.intro (by decide +kernel) ?_))
     change SC _ _ _ _ _
     have q := si h3; subst q
     exact SC.region (sm rfl (s1 (bi rfl rfl q_i64_add) (sa rfl (SO.nil (lf (wq rfl))))))
    ·have q := si h3; subst q; have q : _ = _ := hv3; subst q; have q := si h1; subst q
     exact SC.exit ((wq rfl))
   ·rintro y44 h0
    have q := si h0; subst q
    refine sr (sm rfl (s1 (nkr rfl) (s1 (far (k := 1) rfl fo182_1 ts3 rfl) (s1 (lod rfl (ld_box ts3 ta3 rfl rfl)) (sm rfl (s1 (bi rfl rfl q_i64_add) (s1 (nkr rfl) (s1 (far (k := 1) rfl fo182_1 ts3 rfl) (s0 (sto rfl rfl (sB (d' := .agg [.slc 1 1 0 p1.length none, .d (eI (w64 (p2 + p0))), .d (eB p3)]) ts3 rfl rfl rfl rfl rfl rfl rfl)) ?_)))))))))
    exact sn (sr (sm rfl (sa rfl (sn (SC.ret (finR (Wk.refl _) (lresT rfl lresN) rfl))))))
noncomputable def ref01_In_Flag (p0 : List UInt8) (p1 : Int) (p2 : Bool) : Option (Bool × Int × Bool) :=
 Option.bind (α := Bool)
 (bif p2 then
 some true
 else
 Option.bind (ref01_In_Left p0 p1 p2) fun _ =>
 bif (decide ((w64 ((p0.length : Int) - p1)) < (1 : Int))) then
 some true
 else
 Option.bind (getI p0 p1) fun v16 =>
 some (decide ((1 : UInt8) < v16)))
 fun y13 =>
 bif y13 then
 some (false, p1, true)
 else
 Option.bind (getI p0 (w64 ((w64 (p1 + (1 : Int))) - (1 : Int)))) fun v17 =>
 some ((v17 == (1 : UInt8)), (w64 (p1 + (1 : Int))), p2)
theorem ref01_In_Flag_ok (p0 : List UInt8) (p1 : Int) (p2 : Bool) (r : Bool × Int × Bool) (h0 : ref01_In_Flag p0 p1 p2 = some r) : CallAt Tryz.prog 109 [.ref 0 0 0] [.box (.agg [.slc 1 1 0 p0.length none, .d (eI p1), .d (eB p2)]), .row 1 (List.map eU8 p0) true] (.d (eB r.1)) [.box (.agg [.slc 1 1 0 p0.length none, .d (eI r.2.1), .d (eB r.2.2)]), .row 1 (List.map eU8 p0) true] := by
 unfold ref01_In_Flag at h0
 refine fn0 [0] Tryz.func109 rfl rfl rfl rfl rfl ?_
 refine sr (sa rfl (sn (sq (SC.seqP h0 (fun y => ⟨mk 47 [(0, .ref 0 0 0), (24, .d (eB y))], [.box (.agg [.slc 1 1 0 p0.length none, .d (eI p1), .d (eB p2)]), .row 1 (List.map eU8 p0) true]⟩) ?_ ?_))))
 ·intro u1_14 h1
  refine SC.draws (by kernel_rfl) (t1 ([], false) (mv rfl) rfl (t1 ([], false) (nkr rfl) rfl (t1 ([], false) (far (k := 2) rfl fo182_2 ts4 rfl) rfl (t1 ([0], false) (lod rfl (ld_box ts4 ta4 rfl rfl)) rfl (t1 ([], false) (mv rfl) rfl (tp h1 (fun h1 => ?_) (fun h1 => ?_)))))))
  ·have q := si h1; subst q
   refine jw rfl (jw rfl (jw rfl (t1 ([], false) (pkt rfl rfl) rfl (t1 ([], false) (mv rfl) rfl (jw rfl (jw rfl (jw rfl (jw rfl (jw rfl ?_)))))))))
   refine jw rfl (jw rfl (jw rfl (jw rfl (jw rfl (jw rfl (t1 ([], false) (pkt rfl rfl) rfl (ST.nil (And.intro (by decide +kernel) ?_))))))))
   exact (wq rfl)
  ·obtain ⟨_, hq15, h1⟩ := ob h1
   refine u1 ([], false) (ww rfl) (mv rfl) rfl (tqr [0, 1] [0, 1] (ref01_In_Left_ok p0 p1 p2 _ hq15) (ww rfl) rfl rfl rfl cb127 rfl rfl rfl rfl rfl rfl rfl rfl (u1 ([], false) (ww rfl) (bi rfl rfl q_i64_lss) rfl (t1 ([], false) (pkf rfl rfl) rfl (t1 ([], false) (mv rfl) rfl (tp h1 (fun h1 => ?_) (fun h1 => ?_))))))
   ·have q := si h1; subst q
    refine jw rfl (jw rfl (jw rfl (jw rfl (jw rfl (jw rfl (jw rfl (jw rfl (jw rfl (jw rfl ?_)))))))))
    refine jw rfl (t1 ([], false) (pkt rfl rfl) rfl (ST.nil (And.intro (by decide +kernel) ?_)))
    exact (wq rfl)
   ·obtain ⟨v16, hv16, h1⟩ := ob h1; have q := si h1; subst q
    refine u1 ([], false) (ww rfl) (mv rfl) rfl (u1 ([], false) (ww rfl) (nkr rfl) rfl (u1 ([], false) (ww rfl) (far (k := 0) rfl fo182_0 ts125 rfl) rfl (u1 ([0], false) (ww rfl) (lod rfl (ld_box ts125 ta125 rfl rfl)) rfl (u1 ([], false) (ww rfl) (mv rfl) rfl (u1 ([], false) (ww rfl) (nkr rfl) rfl (u1 ([], false) (ww rfl) (far (k := 1) rfl fo182_1 ts3 rfl) rfl (u1 ([0], false) (ww rfl) (lod rfl (ld_box ts3 ta3 rfl rfl)) rfl (u1 ([], false) (ww rfl) (iaz rfl rfl un125 ts5 (getI_lt hv16)) rfl (u1 ([1], false) (ww rfl) (lod rfl (ld_row ts5 ta5 rfl (map_get (getI_some hv16).2) rfl)) rfl ?_)))))))))
    refine u1 ([], false) (ww rfl) (bi rfl rfl (q_u8_gtr (b := (1 : UInt8)))) rfl (t1 ([], false) (pkf rfl rfl) rfl (ST.nil (And.intro (by decide +kernel) ?_)))
    exact (wq rfl)
 ·rintro y13 h0
  refine cB h0 rfl (fun h0 => ?_) (fun h0 => ?_)
  ·have q := si h0; subst q
   refine sr (sm rfl (s1 (nkr rfl) (s1 (far (k := 2) rfl fo182_2 ts4 rfl) (s0 (sto (b := .d (eB true)) rfl rfl (sB (d' := .agg [.slc 1 1 0 p0.length none, .d (eI p1), .d (eB true)]) ts4 rfl rfl rfl rfl rfl rfl rfl)) (sn (sr (sa rfl (sn (SC.ret ?_)))))))))
   exact finR (Wk.refl _) (lresT rfl lresN) rfl
  ·obtain ⟨v17, hv17, h0⟩ := ob h0; have q := si h0; subst q
   refine sk (sr (sm rfl (s1 (nkr rfl) (s1 (far (k := 1) rfl fo182_1 ts3 rfl) (s1 (lod rfl (ld_box ts3 ta3 rfl rfl)) (s1 (bi rfl rfl q_i64_add) (s1 (nkr rfl) (s1 (far (k := 1) rfl fo182_1 ts3 rfl) (s0 (sto rfl rfl (sB (d' := .agg [.slc 1 1 0 p0.length none, .d (eI (w64 (p1 + (1 : Int)))), .d (eB p2)]) ts3 rfl rfl rfl rfl rfl rfl rfl)) ?_)))))))))
   refine sn (sd (by kernel_rfl) (t1 ([], false) (mv rfl) rfl (t1 ([], false) (nkr rfl) rfl (t1 ([], false) (far (k := 0) rfl fo182_0 ts125 rfl) rfl (t1 ([0], false) (lod rfl (ld_box ts125 ta125 rfl rfl)) rfl (t1 ([], false) (mv rfl) rfl (t1 ([], false) (nkr rfl) rfl (t1 ([], false) (far (k := 1) rfl fo182_1 ts3 rfl) rfl (t1 ([0], false) (lod rfl (ld_box ts3 ta3 rfl rfl)) rfl ?_)))))))))
   exact t1 ([], false) (bi rfl rfl q_i64_sub) rfl (t1 ([], false) (iaz rfl rfl un125 ts5 (getI_lt hv17)) rfl (t1 ([1], false) (lod rfl (ld_row ts5 ta5 rfl (map_get (getI_some hv17).2) rfl)) rfl (t1 ([], false) (bi rfl rfl (q_u8_eql (b := (1 : UInt8)))) rfl (t1 ([], false) (asg rfl) rfl (tn (by decide +kernel) (SC.ret (finR (Wk.refl _) (lresT rfl lresN) rfl)))))))
noncomputable def ref01_In_Text (p0 : List UInt8) (p1 : Int) (p2 : Bool) : Option ((List UInt8) × Int × Bool) :=
 Option.bind (α := Bool)
 (bif p2 then
 some true
 else
 Option.bind (ref01_In_Left p0 p1 p2) fun _ =>
 some (decide ((w64 ((p0.length : Int) - p1)) < (2 : Int))))
 fun y14 =>
 bif y14 then
 some (([] : List UInt8), p1, true)
 else
 Option.bind (getI p0 p1) fun v17 =>
 Option.bind (getI p0 (w64 (p1 + (1 : Int)))) fun v18 =>
 Option.bind (ref01_In_Left p0 p1 p2) fun _ =>
 bif (decide ((w64 ((p0.length : Int) - p1)) < (w64 ((2 : Int) + (w64 ((w64 ((v17.toNat : Int) * (256 : Int))) + (v18.toNat : Int))))))) then
 some (([] : List UInt8), p1, true)
 else
 bif decide (0 ≤ (w64 ((w64 (p1 + (w64 ((2 : Int) + (w64 ((w64 ((v17.toNat : Int) * (256 : Int))) + (v18.toNat : Int))))))) - (w64 ((w64 ((v17.toNat : Int) * (256 : Int))) + (v18.toNat : Int))))) ∧ (w64 ((w64 (p1 + (w64 ((2 : Int) + (w64 ((w64 ((v17.toNat : Int) * (256 : Int))) + (v18.toNat : Int))))))) - (w64 ((w64 ((v17.toNat : Int) * (256 : Int))) + (v18.toNat : Int))))) ≤ (w64 (p1 + (w64 ((2 : Int) + (w64 ((w64 ((v17.toNat : Int) * (256 : Int))) + (v18.toNat : Int))))))) ∧ (w64 (p1 + (w64 ((2 : Int) + (w64 ((w64 ((v17.toNat : Int) * (256 : Int))) + (v18.toNat : Int))))))) ≤ (p0.length : Int)) then
 bif decide ((0 + (w64 ((w64 (p1 + (w64 ((2 : Int) + (w64 ((w64 ((v17.toNat : Int) * (256 : Int))) + (v18.toNat : Int))))))) - (w64 ((w64 ((v17.toNat : Int) * (256 : Int))) + (v18.toNat : Int))))).toNat) + ((w64 (p1 + (w64 ((2 : Int) + (w64 ((w64 ((v17.toNat : Int) * (256 : Int))) + (v18.toNat : Int))))))).toNat - (w64 ((w64 (p1 + (w64 ((2 : Int) + (w64 ((w64 ((v17.toNat : Int) * (256 : Int))) + (v18.toNat : Int))))))) - (w64 ((w64 ((v17.toNat : Int) * (256 : Int))) + (v18.toNat : Int))))).toNat) ≤ p0.length) then
 some ((List.take ((w64 (p1 + (w64 ((2 : Int) + (w64 ((w64 ((v17.toNat : Int) * (256 : Int))) + (v18.toNat : Int))))))).toNat - (w64 ((w64 (p1 + (w64 ((2 : Int) + (w64 ((w64 ((v17.toNat : Int) * (256 : Int))) + (v18.toNat : Int))))))) - (w64 ((w64 ((v17.toNat : Int) * (256 : Int))) + (v18.toNat : Int))))).toNat) (List.drop (0 + (w64 ((w64 (p1 + (w64 ((2 : Int) + (w64 ((w64 ((v17.toNat : Int) * (256 : Int))) + (v18.toNat : Int))))))) - (w64 ((w64 ((v17.toNat : Int) * (256 : Int))) + (v18.toNat : Int))))).toNat) p0)), (w64 (p1 + (w64 ((2 : Int) + (w64 ((w64 ((v17.toNat : Int) * (256 : Int))) + (v18.toNat : Int))))))), p2)
 else none
 else none
theorem ref01_In_Text_ok (p0 : List UInt8) (p1 : Int) (p2 : Bool) (r : (List UInt8) × Int × Bool) (h0 : ref01_In_Text p0 p1 p2 = some r) : CallAt Tryz.prog 110 [.ref 0 0 0] [.box (.agg [.slc 1 1 0 p0.length none, .d (eI p1), .d (eB p2)]), .row 1 (List.map eU8 p0) true] (.d (eS r.1)) [.box (.agg [.slc 1 1 0 p0.length none, .d (eI r.2.1), .d (eB r.2.2)]), .row 1 (List.map eU8 p0) true] := by
 unfold ref01_In_Text at h0
 refine fn0 [0] Tryz.func110 rfl rfl rfl rfl rfl ?_
 refine sr (s1 (asg (v := .d (eS ([] : List UInt8))) rfl) (sn (sq (SC.seqP h0 (fun y => ⟨mk 74 [(0, .ref 0 0 0), (12, .d (eB y))], [.box (.agg [.slc 1 1 0 p0.length none, .d (eI p1), .d (eB p2)]), .row 1 (List.map eU8 p0) true]⟩) ?_ ?_))))
 ·intro u1_15 h1
  refine SC.region (sm rfl (s1 (nkr rfl) (s1 (far (k := 2) rfl fo182_2 ts4 rfl) (s1 (lod rfl (ld_box ts4 ta4 rfl rfl)) (sm rfl (sp h1 (fun h1 => ?_) (fun h1 => ?_)))))))
  ·have q := si h1; subst q
   exact kw rfl (kw rfl (kw rfl (s1 (pkt rfl rfl) (SO.nil ((wq rfl))))))
  ·obtain ⟨_, hq16, h1⟩ := ob h1; have q := si h1; subst q
   exact gw rfl (mv rfl) (cq [0, 1] [] (ref01_In_Left_ok p0 p1 p2 _ hq16) (ww rfl) rfl rfl rfl cb127 rfl rfl rfl rfl rfl rfl rfl rfl (gw rfl (bi rfl rfl q_i64_lss) (s1 (pkf rfl rfl) (SO.nil ((wq rfl))))))
 ·rintro y14 h0
  refine cB h0 rfl (fun h0 => ?_) (fun h0 => ?_)
  ·have q := si h0; subst q
   refine sr (sm rfl (s1 (nkr rfl) (s1 (far (k := 2) rfl fo182_2 ts4 rfl) (s0 (sto (b := .d (eB true)) rfl rfl (sB (d' := .agg [.slc 1 1 0 p0.length none, .d (eI p1), .d (eB true)]) ts4 rfl rfl rfl rfl rfl rfl rfl)) (sn (sr (s1 (asg (v := .d (eS ([] : List UInt8))) rfl) (sn (SC.ret ?_)))))))))
   exact finR (Wk.refl _) (lresT rfl lresN) rfl
  ·obtain ⟨v17, hv17, h0⟩ := ob h0; obtain ⟨v18, hv18, h0⟩ := ob h0; obtain ⟨_, hq19, h0⟩ := ob h0
   refine sk (sd (by kernel_rfl) (t1 ([], false) (mv rfl) rfl (t1 ([], false) (nkr rfl) rfl (t1 ([], false) (far (k := 0) rfl fo182_0 ts125 rfl) rfl (t1 ([0], false) (lod rfl (ld_box ts125 ta125 rfl rfl)) rfl (t1 ([], false) (mv rfl) rfl (t1 ([], false) (nkr rfl) rfl (t1 ([], false) (far (k := 1) rfl fo182_1 ts3 rfl) rfl (t1 ([0], false) (lod rfl (ld_box ts3 ta3 rfl rfl)) rfl ?_)))))))))
   refine t1 ([], false) (iaz rfl rfl un125 ts5 (getI_lt hv17)) rfl (t1 ([1], false) (lod rfl (ld_row ts5 ta5 rfl (map_get (getI_some hv17).2) rfl)) rfl (t1 ([], false) (cvo rfl (cv_u8_i64 un5 un3 v17)) rfl (t1 ([], false) (bi rfl rfl q_i64_mul) rfl (t1 ([], false) (mv rfl) rfl (t1 ([], false) (nkr rfl) rfl (t1 ([], false) (far (k := 0) rfl fo182_0 ts125 rfl) rfl (t1 ([0], false) (lod rfl (ld_box ts125 ta125 rfl rfl)) rfl (t1 ([], false) (mv rfl) rfl (t1 ([], false) (nkr rfl) rfl ?_)))))))))
   refine t1 ([], false) (far (k := 1) rfl fo182_1 ts3 rfl) rfl (t1 ([0], false) (lod rfl (ld_box ts3 ta3 rfl rfl)) rfl (t1 ([], false) (bi rfl rfl q_i64_add) rfl (t1 ([], false) (iaz rfl rfl un125 ts5 (getI_lt hv18)) rfl (t1 ([1], false) (lod rfl (ld_row ts5 ta5 rfl (map_get (getI_some hv18).2) rfl)) rfl (t1 ([], false) (cvo rfl (cv_u8_i64 un5 un3 v18)) rfl (t1 ([], false) (bi rfl rfl q_i64_add) rfl (t1 ([], false) (asg rfl) rfl (tn (by decide +kernel) (sq ?_)))))))))
   refine sr (sm rfl (cq [0, 1] [] (ref01_In_Left_ok p0 p1 p2 _ hq19) wf rfl rfl rfl cb127 rfl rfl rfl rfl rfl rfl rfl rfl (sm rfl (s1 (bi rfl rfl q_i64_add) (s1 (bi rfl rfl q_i64_lss) (sn (cB h0 rfl (fun h0 => ?_) (fun h0 => ?_))))))))
   ·have q := si h0; subst q
    refine sr (sm rfl (s1 (nkr rfl) (s1 (far (k := 2) rfl fo182_2 ts4 rfl) (s0 (sto (b := .d (eB true)) rfl rfl (sB (d' := .agg [.slc 1 1 0 p0.length none, .d (eI p1), .d (eB true)]) ts4 rfl rfl rfl rfl rfl rfl rfl)) (sn (sr (s1 (asg (v := .d (eS ([] : List UInt8))) rfl) (sn (SC.ret ?_)))))))))
    exact finR (Wk.refl _) (lresT rfl lresN) rfl
   ·obtain ⟨hg20, h0⟩ := gd h0; obtain ⟨hg21, h0⟩ := gd h0; have q := si h0; subst q
    refine sk (sr (sm rfl (s1 (nkr rfl) (s1 (far (k := 1) rfl fo182_1 ts3 rfl) (s1 (lod rfl (ld_box ts3 ta3 rfl rfl)) (sm rfl (s1 (bi rfl rfl q_i64_add) (s1 (bi rfl rfl q_i64_add) (s1 (nkr rfl) ?_)))))))))
    refine s1 (far (k := 1) rfl fo182_1 ts3 rfl) (s0 (sto rfl rfl (sB (d' := .agg [.slc 1 1 0 p0.length none, .d (eI (w64 (p1 + (w64 ((2 : Int) + (w64 ((w64 ((v17.toNat : Int) * (256 : Int))) + (v18.toNat : Int)))))))), .d (eB p2)]) ts3 rfl rfl rfl rfl rfl rfl rfl)) (sn (sd (by kernel_rfl) (t1 ([], false) (mv rfl) rfl (t1 ([], false) (nkr rfl) rfl (t1 ([], false) (far (k := 0) rfl fo182_0 ts125 rfl) rfl (t1 ([0], false) (lod rfl (ld_box ts125 ta125 rfl rfl)) rfl (t1 ([], false) (mv rfl) rfl (t1 ([], false) (nkr rfl) rfl ?_)))))))))
    refine t1 ([], false) (far (k := 1) rfl fo182_1 ts3 rfl) rfl (t1 ([0], false) (lod rfl (ld_box ts3 ta3 rfl rfl)) rfl (t1 ([], false) (mv rfl) rfl (t1 ([], false) (bi rfl rfl q_i64_sub) rfl (t1 ([], false) (mv rfl) rfl (t1 ([], false) (nkr rfl) rfl (t1 ([], false) (far (k := 1) rfl fo182_1 ts3 rfl) rfl (t1 ([0], false) (lod rfl (ld_box ts3 ta3 rfl rfl)) rfl (t1 ([], false) (slo rfl rfl rfl rfl (sl_slc un125 ts5 hg20)) rfl (t1 ([1], false) (cvo (v := .d (eS (List.take ((w64 (p1 + (w64 ((2 : Int) + (w64 ((w64 ((v17.toNat : Int) * (256 : Int))) + (v18.toNat : Int))))))).toNat - (w64 ((w64 (p1 + (w64 ((2 : Int) + (w64 ((w64 ((v17.toNat : Int) * (256 : Int))) + (v18.toNat : Int))))))) - (w64 ((w64 ((v17.toNat : Int) * (256 : Int))) + (v18.toNat : Int))))).toNat) (List.drop (0 + (w64 ((w64 (p1 + (w64 ((2 : Int) + (w64 ((w64 ((v17.toNat : Int) * (256 : Int))) + (v18.toNat : Int))))))) - (w64 ((w64 ((v17.toNat : Int) * (256 : Int))) + (v18.toNat : Int))))).toNat) p0)))) rfl (cv_bytes_str un125 un9 un5 (el_slc (xs := p0) rfl hg21) (fun _ hh => by cases hh))) rfl ?_)))))))))
    exact t1 ([], false) (asg rfl) rfl (tn (by decide +kernel) (SC.ret (finR (Wk.refl _) (lresT rfl lresN) rfl)))
noncomputable def ref01_In_Done (p0 : List UInt8) (p1 : Int) (p2 : Bool) : Option Bool :=
 Option.bind (α := Bool)
 (bif (!p2) then
 some (p1 == (p0.length : Int))
 else
 some false)
 fun y4 =>
 some y4
theorem ref01_In_Done_ok (p0 : List UInt8) (p1 : Int) (p2 : Bool) (r : Bool) (h0 : ref01_In_Done p0 p1 p2 = some r) : CallAt Tryz.prog 111 [.ref 0 0 0] [.box (.agg [.slc 1 1 0 p0.length none, .d (eI p1), .d (eB p2)]), .row 1 (List.map eU8 p0) true] (.d (eB r)) [.box (.agg [.slc 1 1 0 p0.length none, .d (eI p1), .d (eB p2)]), .row 1 (List.map eU8 p0) true] := by
 unfold ref01_In_Done at h0
 refine fn0 [0] Tryz.func111 rfl rfl rfl rfl rfl ?_
 refine sr (sa rfl (sn (SC.seqP h0 (fun y => ⟨mk 20 [(2, .d (eB y))], [.box (.agg [.slc 1 1 0 p0.length none, .d (eI p1), .d (eB p2)]), .row 1 (List.map eU8 p0) true]⟩) ?_ ?_)))
 ·intro u1_5 h1
  refine SC.draws (by kernel_rfl) (t1 ([], false) (mv rfl) rfl (t1 ([], false) (nkr rfl) rfl (t1 ([], false) (far (k := 2) rfl fo182_2 ts4 rfl) rfl (t1 ([0], false) (lod rfl (ld_box ts4 ta4 rfl rfl)) rfl (t1 ([], false) (nt rfl) rfl (t1 ([], false) (mv rfl) rfl (tp h1 (fun h1 => ?_) (fun h1 => ?_))))))))
  ·have q := si h1; subst q
   refine u1 ([], false) (ww rfl) (mv rfl) rfl (u1 ([], false) (ww rfl) (nkr rfl) rfl (u1 ([], false) (ww rfl) (far (k := 1) rfl fo182_1 ts3 rfl) rfl (u1 ([0], false) (ww rfl) (lod rfl (ld_box ts3 ta3 rfl rfl)) rfl (u1 ([], false) (ww rfl) (mv rfl) rfl (u1 ([], false) (ww rfl) (nkr rfl) rfl (u1 ([], false) (ww rfl) (far (k := 0) rfl fo182_0 ts125 rfl) rfl (u1 ([0], false) (ww rfl) (lod rfl (ld_box ts125 ta125 rfl rfl)) rfl (u1 ([], false) (ww rfl) (len rfl rfl rfl (len_slc un125)) rfl (u1 ([], false) (ww rfl) (bi rfl rfl q_i64_eql) rfl ?_)))))))))
   refine t1 ([], false) (pkt rfl rfl) rfl (t1 ([], false) (asg rfl) rfl (ST.nil (And.intro (by decide +kernel) ?_)))
   exact (wq rfl)
  ·have q := si h1; subst q
   refine jw rfl (jw rfl (jw rfl (jw rfl (jw rfl (jw rfl (jw rfl (jw rfl (jw rfl (jw rfl ?_)))))))))
   refine t1 ([], false) (pkf rfl rfl) rfl (t1 ([], false) (asg rfl) rfl (ST.nil (And.intro (by decide +kernel) ?_)))
   exact (wq rfl)
 ·rintro y4 h0
  have q := si h0; subst q
  exact SC.ret (finR (Wk.refl _) (lresT rfl lresN) rfl)
noncomputable def ref08_take (p0 : List ApiColumn) (p1 : List UInt8) : Option ((List ApiValue) × (List Int) × Bool) :=
 Option.bind (ref01_In_Num (1 : Int) p1 (0 : Int) false) fun (r355, r356, r357) =>
 Option.bind (α := Bool)
 (bif (decide ((i64u r355) < (1 : Int))) then
 some true
 else
 some (decide ((i64u r355) > (p0.length : Int))))
 fun y359 =>
 bif y359 then
 some (([] : List ApiValue), ([] : List Int), false)
 else
 bindE (Y := (List ApiValue) × (List Int) × Int × Bool) (E := (List ApiValue) × (List Int) × Bool)
 (Option.bind (α := ((List ApiValue) × (List Int) × Int × Bool) ⊕ ((List ApiValue) × (List Int) × Bool))
 (loop (Y := (List ApiValue) × (List Int) × Int × Int × Bool) (W := ((List ApiValue) × (List Int) × Int × Bool) ⊕ ((List ApiValue) × (List Int) × Bool)) (fun (y587, y588, y589, y590, y591) =>
 bif (decide (y589 < (i64u r355))) then
 bif decide ((y588.length + [y590].length) * 8 ≤ room) then
 Option.bind (α := Int × Bool × ApiValue)
 (Option.bind (ref01_In_Flag p1 y590 y591) fun (r675, r676, r677) =>
 bif (!r675) then
 Option.bind (getI p0 y589) fun v679 =>
 Option.bind (α := Bool)
 (bif (v679.Kind == (1 : Int)) then
 some (v679.Kind == (1 : Int))
 else
 some (v679.Kind == (2 : Int)))
 fun y680 =>
 bif y680 then
 Option.bind (ref01_In_Num (8 : Int) p1 r676 r677) fun (r682, r683, r684) =>
 some (r683, r684, (ApiValue.mk v679.Kind r682 ([] : List UInt8)))
 else
 bif (v679.Kind == (3 : Int)) then
 Option.bind (ref01_In_Num (1 : Int) p1 r676 r677) fun (r686, r687, r688) =>
 some (r687, r688, (ApiValue.mk v679.Kind r686 ([] : List UInt8)))
 else
 Option.bind (ref01_In_Text p1 r676 r677) fun (r690, r691, r692) =>
 some (r691, r692, (ApiValue.mk v679.Kind (0 : UInt64) r690))
 else
 some (r676, r677, (ApiValue.mk (0 : Int) (0 : UInt64) ([] : List UInt8))))
 fun (y671, y672, y673) =>
 Option.bind (α := Bool)
 (bif y672 then
 some true
 else
 Option.bind (getI p0 y589) fun v699 =>
 Option.bind (ref06_Fits v699 y673) fun r700 =>
 some (r700 != (0 : Int)))
 fun y697 =>
 bif y697 then
 some (Sum.inr (Sum.inr (([] : List ApiValue), ([] : List Int), false)))
 else
 bif decide ((y587.length + [y673].length) * 32 ≤ room) then
 some (Sum.inl ((y587 ++ [y673]), (y588 ++ [y590]), (w64 (y589 + (1 : Int))), y671, y672))
 else none
 else none
 else
 some (Sum.inr (Sum.inl (y587, y588, y590, y591)))) (([] : List ApiValue), ([] : List Int), (0 : Int), r356, r357))
 (Sum.elim (fun e => some (Sum.inl e)) (fun e => some (Sum.inr e))))
 (fun (y530, y531, y532, y533) =>
 Option.bind (ref01_In_Done p1 y532 y533) fun r704 =>
 some (y530, y531, r704))
 (fun e => some e)
theorem ref08_take_ok (p0 : List ApiColumn) (p1 : List UInt8) (r : (List ApiValue) × (List Int) × Bool) (h0 : ref08_take p0 p1 = some r) : CallAt Tryz.prog 84 [.d ((eL 7 eApiColumn) p0), .d (eS p1)] [] (.tuple [.slc 0 3 0 r.1.length none, .slc 1 1 0 r.2.1.length none, .d (eB r.2.2)]) [.row 3 (List.map eApiValue r.1) true, .row 1 (List.map eI r.2.1) true] := by
 unfold ref08_take at h0
 refine fn0 [0, 1] Tryz.func84 rfl rfl rfl rfl rfl ?_
 obtain ⟨⟨r355, r356, r357⟩, hq358, h0⟩ := ob h0
 refine sr (s1 (asg (v := .d .nils) rfl) (s1 (asg (v := .d .nils) rfl) (sa rfl (sn (sr (sm rfl (s1 (cvs (s := p1) (k := 0) rfl un9 un125 un5 ts5 rfl) (s1 (bld (v := .agg [.slc 0 1 0 p1.length none, .d (eI (0 : Int)), .d (eB false)]) rfl (by rfl)) (s1 (bxo (k := 1) rfl rfl rfl) ?_)))))))))
 refine sa rfl (sn (sr (sm rfl (cq [1, 0] [] (ref01_In_Num_ok (1 : Int) p1 (0 : Int) false _ hq358) wf rfl rfl rfl cb108 rfl rfl rfl rfl rfl rfl rfl rfl (s1 (cvo rfl (cv_u64_i64 un54 un3 r355)) (sa rfl (sn (sq (SC.seqP h0 (fun y => ⟨mk 87 [(0, .d ((eL 7 eApiColumn) p0)), (7, .ref 0 0 0), (8, .d (eI (i64u r355))), (27, .d (eB y))], [.box (.agg [.slc 1 1 0 p1.length none, .d (eI r356), .d (eB r357)]), .row 1 (List.map eU8 p1) true]⟩) ?_ ?_)))))))))
 ·intro u1_360 h1
  refine SC.region (sm rfl (s1 (bi rfl rfl q_i64_lss) (sm rfl (sp h1 (fun h1 => ?_) (fun h1 => ?_)))))
  ·have q := si h1; subst q
   exact kw rfl (kw rfl (kw rfl (kw rfl (s1 (pkt rfl rfl) (SO.nil ((wc [1, 0] [1] (by kernel_rfl) rfl (by kernel_rfl))))))))
  ·have q := si h1; subst q
   exact gw rfl (mv rfl) (gw rfl (mv rfl) (gw rfl (len rfl rfl rfl (len_lst un22)) (gw rfl (bi rfl rfl q_i64_gtr) (s1 (pkf rfl rfl) (SO.nil ((wc [1, 0] [1] (by kernel_rfl) rfl (by kernel_rfl))))))))
 ·rintro y359 h0
  refine cB h0 rfl (fun h0 => ?_) (fun h0 => ?_)
  ·have q := si h0; subst q
   exact sr (s1 (asg (v := .d .nils) rfl) (s1 (asg (v := .d .nils) rfl) (sa rfl (sn (SC.ret (finR (Wk.trans (Wk.pushE (σ' := [.box (.agg [.slc 1 1 0 p1.length none, .d (eI r356), .d (eB r357)]), .row 1 (List.map eU8 p1) true, .row 3 (List.map eApiValue ([] : List ApiValue)) true]) (.row 3 [] true) (fun _ hh => by cases hh) rfl) (Wk.trans (Wk.env (e' := [(4, .slc 2 3 0 (([] : List ApiValue).length) none), (5, .d .nils), (6, .d (eB false))]) (EW.cons (AW.slcn _ _ _) (EW.cons (AW.refl _) (EW.cons (AW.refl _) EW.nil)))) (Wk.trans (Wk.pushE (σ' := [.box (.agg [.slc 1 1 0 p1.length none, .d (eI r356), .d (eB r357)]), .row 1 (List.map eU8 p1) true, .row 3 (List.map eApiValue ([] : List ApiValue)) true, .row 1 (List.map eI ([] : List Int)) true]) (.row 1 [] true) (fun _ hh => by cases hh) rfl) (Wk.trans (Wk.env (e' := [(4, .slc 2 3 0 (([] : List ApiValue).length) none), (5, .slc 3 1 0 (([] : List Int).length) none), (6, .d (eB false))]) (EW.cons (AW.refl _) (EW.cons (AW.slcn _ _ _) (EW.cons (AW.refl _) EW.nil)))) (wc (e' := [(4, .slc 0 3 0 (([] : List ApiValue).length) none), (5, .slc 1 1 0 (([] : List Int).length) none), (6, .d (eB false))]) [2, 3] [2, 3] (by kernel_rfl) rfl (by kernel_rfl)))))) (lresT rfl (lresT rfl (lresT rfl lresN))) rfl))))))
  ·refine sk (sr (s1 (asg (v := .d .nils) rfl) (sn (sr (s1 (asg (v := .d .nils) rfl) (sn (SC.seqB h0 (fun y => ⟨mk 87 [(7, .ref 0 0 0), (9, .slc 1 3 0 y.1.length none), (10, .slc 2 1 0 y.2.1.length none)], [.box (.agg [.slc 3 1 0 p1.length none, .d (eI y.2.2.1), .d (eB y.2.2.2)]), .row 3 (List.map eApiValue y.1) true, .row 1 (List.map eI y.2.1) true, .row 1 (List.map eU8 p1) true]⟩) ?_ ?_)))))))
   ·intro u1_534 h1 h0
    obtain ⟨u2_650, h2, h1⟩ := ob h1
    refine sr (sa rfl (sn (SC.blk (SC.loopB h2 (fun y => ⟨mk 87 [(0, .d ((eL 7 eApiColumn) p0)), (7, .ref 0 0 0), (8, .d (eI (i64u r355))), (9, .slc 1 3 0 y.1.length none), (10, .slc 2 1 0 y.2.1.length none), (11, .d (eI y.2.2.1))], [.box (.agg [.slc 3 1 0 p1.length none, .d (eI y.2.2.2.1), .d (eB y.2.2.2.2)]), .row 3 (List.map eApiValue y.1) true, .row 1 (List.map eI y.2.1) true, .row 1 (List.map eU8 p1) true]⟩) (Wk.trans (Wk.pushE (σ' := [.box (.agg [.slc 1 1 0 p1.length none, .d (eI r356), .d (eB r357)]), .row 1 (List.map eU8 p1) true, .row 3 (List.map eApiValue ([] : List ApiValue)) true]) (.row 3 [] true) (fun _ hh => by cases hh) rfl) (Wk.trans (Wk.env (e' := [(0, .d ((eL 7 eApiColumn) p0)), (7, .ref 0 0 0), (8, .d (eI (i64u r355))), (9, .slc 2 3 0 (([] : List ApiValue).length) none), (10, .d .nils), (11, .d (eI (0 : Int)))]) (EW.cons (AW.refl _) (EW.cons (AW.refl _) (EW.cons (AW.refl _) (EW.cons (AW.slcn _ _ _) (EW.cons (AW.refl _) (EW.cons (AW.refl _) EW.nil))))))) (Wk.trans (Wk.pushE (σ' := [.box (.agg [.slc 1 1 0 p1.length none, .d (eI r356), .d (eB r357)]), .row 1 (List.map eU8 p1) true, .row 3 (List.map eApiValue ([] : List ApiValue)) true, .row 1 (List.map eI ([] : List Int)) true]) (.row 1 [] true) (fun _ hh => by cases hh) rfl) (Wk.trans (Wk.env (e' := [(0, .d ((eL 7 eApiColumn) p0)), (7, .ref 0 0 0), (8, .d (eI (i64u r355))), (9, .slc 2 3 0 (([] : List ApiValue).length) none), (10, .slc 3 1 0 (([] : List Int).length) none), (11, .d (eI (0 : Int)))]) (EW.cons (AW.refl _) (EW.cons (AW.refl _) (EW.cons (AW.refl _) (EW.cons (AW.refl _) (EW.cons (AW.slcn _ _ _) (EW.cons (AW.refl _) EW.nil))))))) (wc [0, 2, 3, 1] [0, 2, 3] (by kernel_rfl) rfl (by kernel_rfl)))))) ?_))))
    intro n703
    rintro ⟨y587, y588, y589, y590, y591⟩ w2_649 h3 hv3
    refine sq (sr (sm rfl (sm rfl (s1 (bi rfl rfl q_i64_lss) (sn (cB h3 rfl (fun h3 => ?_) (fun h3 => ?_)))))))
    ·obtain ⟨hg651, h3⟩ := gd h3
     refine sk (sq (SC.blk (sr (sm rfl (sm rfl (s1 (nkr rfl) (s1 (far (k := 1) rfl fo182_1 ts3 rfl) (s1 (lod rfl (ld_box ts3 ta3 rfl rfl)) (s1 (bsn (k := 4) (ds := List.map eI [y590]) (off := 0) (l' := [y590].length) rfl un23 ei3 rfl rfl (by rfl) rfl rfl rfl) ?_)))))))))
     refine s1 (app rfl rfl rfl rfl bc23 (aF (f := eI) (xs := y588) (k := 5) rfl un23 ei3 rfl (el_full (xs := [y590]) rfl) hg651 rfl)) (sa rfl (sn (sr (s1 (bld rfl (bd68_ )) (s1 (alo (k := 6) zo68 rfl) (s0 (sto rfl rfl (sB (d' := .d (eApiValue (ApiValue.mk (0 : Int) (0 : UInt64) ([] : List UInt8)))) ts68 rfl rfl rfl rfl rfl rfl rfl)) (sn (SC.seqP h3 (fun y => ⟨mk 87 [(0, .d ((eL 7 eApiColumn) p0)), (7, .ref 0 0 0), (8, .d (eI (i64u r355))), (9, .slc 1 3 0 y587.length none), (10, .slc 2 1 0 ((y588 ++ [y590]).length) none), (11, .d (eI y589)), (12, .ref 3 0 0)], [.box (.agg [.slc 4 1 0 p1.length none, .d (eI y.1), .d (eB y.2.1)]), .row 3 (List.map eApiValue y587) true, .row 1 (List.map eI (y588 ++ [y590])) true, .box (.d (eApiValue y.2.2)), .row 1 (List.map eU8 p1) true]⟩) ?_ ?_))))))))
     ·intro u4_674 h4
      obtain ⟨⟨r675, r676, r677⟩, hq678, h4⟩ := ob h4
      refine sr (sm rfl (cq [0, 3] [] (ref01_In_Flag_ok p1 y590 y591 _ hq678) wf rfl rfl rfl cb109 rfl rfl rfl rfl rfl rfl rfl rfl (s1 (nt rfl) (sn (cB h4 rfl (fun h4 => ?_) (fun h4 => ?_))))))
      ·obtain ⟨v679, hv679, h4⟩ := ob h4
       refine sr (sm rfl (sm rfl (s1 (ial rfl rfl un22 ts77 (getI_some hv679).1 (map_get (getI_some hv679).2) rfl) (s1 (fap rfl fo77_1 ts3 rfl) (s1 (lod rfl (ld_rop ts3 ta3 rfl)) (s1 (far (k := 0) rfl fo68_0 ts3 rfl) (s0 (sto rfl rfl (sB (d' := .d (eApiValue (ApiValue.mk v679.Kind (0 : UInt64) ([] : List UInt8)))) ts3 rfl rfl rfl rfl rfl rfl rfl)) (sn (sr ?_)))))))))
       refine s1 (far (k := 0) rfl fo68_0 ts3 rfl) (s1 (lod rfl (ld_box ts3 ta3 rfl rfl)) (sn (SC.blk (SC.seqP h4 (fun y => ⟨mk 87 [(0, .d ((eL 7 eApiColumn) p0)), (7, .ref 0 0 0), (8, .d (eI (i64u r355))), (9, .slc 1 3 0 y587.length none), (10, .slc 2 1 0 ((y588 ++ [y590]).length) none), (11, .d (eI y589)), (12, .ref 3 0 0), (51, .d (eI v679.Kind)), (55, .d (eB y))], [.box (.agg [.slc 4 1 0 p1.length none, .d (eI r676), .d (eB r677)]), .row 3 (List.map eApiValue y587) true, .row 1 (List.map eI (y588 ++ [y590])) true, .box (.d (eApiValue (ApiValue.mk v679.Kind (0 : UInt64) ([] : List UInt8)))), .row 1 (List.map eU8 p1) true]⟩) ?_ ?_))))
       ·intro u5_681 h5
        refine sr (s1 (bi rfl rfl q_i64_eql) (sa rfl (sn (cB h5 rfl (fun h5 => ?_) (fun h5 => ?_)))))
        ·have q := si h5; subst q
         exact SC.skip ((wc [0, 1, 5, 6, 3] [0, 1, 5, 6] (by kernel_rfl) rfl (by kernel_rfl)))
        ·have q := si h5; subst q
         exact SC.region (s1 (bi rfl rfl q_i64_eql) (sa rfl (SO.nil ((wc [0, 1, 5, 6, 3] [0, 1, 5, 6] (by kernel_rfl) rfl (by kernel_rfl))))))
       ·rintro y680 h4
        refine cB h4 rfl (fun h4 => ?_) (fun h4 => ?_)
        ·obtain ⟨⟨r682, r683, r684⟩, hq685, h4⟩ := ob h4; have q := si h4; subst q
         exact SC.region (sm rfl (cq [0, 4] [] (ref01_In_Num_ok (8 : Int) p1 r676 r677 _ hq685) wf rfl rfl rfl cb108 rfl rfl rfl rfl rfl rfl rfl rfl (s1 (far (k := 1) rfl fo68_1 ts54 rfl) (s0 (sto rfl rfl (sB (d' := .d (eApiValue (ApiValue.mk v679.Kind r682 ([] : List UInt8)))) ts54 rfl rfl rfl rfl rfl rfl rfl)) (SO.nil ((wq rfl)))))))
        ·refine sr (s1 (bi rfl rfl q_i64_eql) (sa rfl (sn (cB h4 rfl (fun h4 => ?_) (fun h4 => ?_)))))
         ·obtain ⟨⟨r686, r687, r688⟩, hq689, h4⟩ := ob h4; have q := si h4; subst q
          exact SC.region (sm rfl (cq [0, 4] [] (ref01_In_Num_ok (1 : Int) p1 r676 r677 _ hq689) wf rfl rfl rfl cb108 rfl rfl rfl rfl rfl rfl rfl rfl (s1 (far (k := 1) rfl fo68_1 ts54 rfl) (s0 (sto rfl rfl (sB (d' := .d (eApiValue (ApiValue.mk v679.Kind r686 ([] : List UInt8)))) ts54 rfl rfl rfl rfl rfl rfl rfl)) (SO.nil ((wq rfl)))))))
         ·obtain ⟨⟨r690, r691, r692⟩, hq693, h4⟩ := ob h4; have q := si h4; subst q
          exact SC.region (sm rfl (cq [0, 4] [] (ref01_In_Text_ok p1 r676 r677 _ hq693) wf rfl rfl rfl cb110 rfl rfl rfl rfl rfl rfl rfl rfl (s1 (far (k := 2) rfl fo68_2 ts9 rfl) (s0 (sto rfl rfl (sB (d' := .d (eApiValue (ApiValue.mk v679.Kind (0 : UInt64) r690))) ts9 rfl rfl rfl rfl rfl rfl rfl)) (SO.nil ((wq rfl)))))))
      ·have q := si h4; subst q
       exact SC.skip ((wc [0, 1, 5, 6, 3] [0, 1, 5, 6] (by kernel_rfl) rfl (by kernel_rfl)))
     ·rintro ⟨y671, y672, y673⟩ h3
      refine sq (SC.seqP h3 (fun y => ⟨mk 87 [(0, .d ((eL 7 eApiColumn) p0)), (7, .ref 0 0 0), (8, .d (eI (i64u r355))), (9, .slc 1 3 0 y587.length none), (10, .slc 2 1 0 ((y588 ++ [y590]).length) none), (11, .d (eI y589)), (12, .ref 3 0 0), (78, .d (eB y))], [.box (.agg [.slc 4 1 0 p1.length none, .d (eI y671), .d (eB y672)]), .row 3 (List.map eApiValue y587) true, .row 1 (List.map eI (y588 ++ [y590])) true, .box (.d (eApiValue y673)), .row 1 (List.map eU8 p1) true]⟩) ?_ ?_)
      ·intro u4_698 h4
       refine SC.draws (by kernel_rfl) (t1 ([], false) (mv rfl) rfl (t1 ([], false) (nkr rfl) rfl (t1 ([], false) (far (k := 2) rfl fo182_2 ts4 rfl) rfl (t1 ([0], false) (lod rfl (ld_box ts4 ta4 rfl rfl)) rfl (t1 ([], false) (mv rfl) rfl (tp h4 (fun h4 => ?_) (fun h4 => ?_)))))))
       ·have q := si h4; subst q
        refine jw rfl (jw rfl (jw rfl (jw rfl (jw rfl (jw rfl (jw rfl (t1 ([], false) (pkt rfl rfl) rfl (ST.nil (And.intro (by decide +kernel) ?_)))))))))
        exact (wq rfl)
       ·obtain ⟨v699, hv699, h4⟩ := ob h4; obtain ⟨r700, hq701, h4⟩ := ob h4; have q := si h4; subst q
        refine u1 ([], false) (ww rfl) (mv rfl) rfl (u1 ([], false) (ww rfl) (mv rfl) rfl (u1 ([], false) (ww rfl) (ial rfl rfl un22 ts77 (getI_some hv699).1 (map_get (getI_some hv699).2) rfl) rfl (u1 ([], false) (ww rfl) (lod (v := .d (eApiColumn v699)) rfl (ld_rop ts77 ta77 rfl)) rfl (u1 ([3], false) (ww rfl) (lod (v := .d (eApiValue y673)) rfl (ld_box ts68 ta68 rfl rfl)) rfl (tc0 (ref06_Fits_ok v699 y673 _ hq701) (ww rfl) rfl rfl rfl cb62 rfl (fun _ => rfl) (fun _ => rfl) (u1 ([], false) (ww rfl) (bi rfl rfl q_i64_neq) rfl (t1 ([], false) (pkf rfl rfl) rfl (ST.nil (And.intro (by decide +kernel) ?_)))))))))
        exact (wq rfl)
      ·rintro y697 h3
       refine cB h3 rfl (fun h3 => ?_) (fun h3 => ?_)
       ·have q := si h3; subst q; have q : _ = _ := hv3; subst q; have q := si h1; subst q; have q := si h0; subst q
        exact sr (s1 (asg (v := .d .nils) rfl) (s1 (asg (v := .d .nils) rfl) (sa rfl (sn (SC.ret (finR (Wk.trans (Wk.pushE (σ' := [.box (.agg [.slc 4 1 0 p1.length none, .d (eI y671), .d (eB y672)]), .row 3 (List.map eApiValue y587) true, .row 1 (List.map eI (y588 ++ [y590])) true, .box (.d (eApiValue y673)), .row 1 (List.map eU8 p1) true, .row 3 (List.map eApiValue ([] : List ApiValue)) true]) (.row 3 [] true) (fun _ hh => by cases hh) rfl) (Wk.trans (Wk.env (e' := [(4, .slc 5 3 0 (([] : List ApiValue).length) none), (5, .d .nils), (6, .d (eB false))]) (EW.cons (AW.slcn _ _ _) (EW.cons (AW.refl _) (EW.cons (AW.refl _) EW.nil)))) (Wk.trans (Wk.pushE (σ' := [.box (.agg [.slc 4 1 0 p1.length none, .d (eI y671), .d (eB y672)]), .row 3 (List.map eApiValue y587) true, .row 1 (List.map eI (y588 ++ [y590])) true, .box (.d (eApiValue y673)), .row 1 (List.map eU8 p1) true, .row 3 (List.map eApiValue ([] : List ApiValue)) true, .row 1 (List.map eI ([] : List Int)) true]) (.row 1 [] true) (fun _ hh => by cases hh) rfl) (Wk.trans (Wk.env (e' := [(4, .slc 5 3 0 (([] : List ApiValue).length) none), (5, .slc 6 1 0 (([] : List Int).length) none), (6, .d (eB false))]) (EW.cons (AW.refl _) (EW.cons (AW.slcn _ _ _) (EW.cons (AW.refl _) EW.nil)))) (wc (e' := [(4, .slc 0 3 0 (([] : List ApiValue).length) none), (5, .slc 1 1 0 (([] : List Int).length) none), (6, .d (eB false))]) [5, 6] [5, 6] (by kernel_rfl) rfl (by kernel_rfl)))))) (lresT rfl (lresT rfl (lresT rfl lresN))) rfl))))))
       ·obtain ⟨hg702, h3⟩ := gd h3
        refine sk (SC.region (sm rfl (s1 (lod (v := .d (eApiValue y673)) rfl (ld_box ts68 ta68 rfl rfl)) (s1 (bsn (k := 5) (ds := List.map eApiValue [y673]) (off := 0) (l' := [y673].length) rfl un28 ei68 rfl rfl (by rfl) rfl rfl rfl) (s1 (app rfl rfl rfl rfl bc28 (aF (f := eApiValue) (xs := y587) (k := 6) rfl un28 ei68 rfl (el_full (xs := [y673]) rfl) hg702 rfl)) (sa rfl (SO.nil ?_)))))))
        change SC _ _ _ _ _
        have q := si h3; subst q
        exact SC.region (sm rfl (s1 (bi rfl rfl q_i64_add) (sa rfl (SO.nil (lf (wc [0, 6, 2, 4] [0, 6, 2] (by kernel_rfl) rfl (by kernel_rfl)))))))
    ·have q := si h3; subst q; have q : _ = _ := hv3; subst q; have q := si h1; subst q
     exact SC.exit (lf (wq rfl))
   ·rintro ⟨y530, y531, y532, y533⟩ h0
    obtain ⟨r704, hq705, h0⟩ := ob h0; have q := si h0; subst q
    refine sr (sm rfl (sm rfl (sm rfl (cq [0, 3] [] (ref01_In_Done_ok p1 y532 y533 _ hq705) wf rfl rfl rfl cb111 rfl rfl rfl rfl rfl rfl rfl rfl (sa rfl (sa rfl (sa rfl (sn (SC.ret ?_)))))))))
    exact finR (wc (e' := [(4, .slc 0 3 0 y530.length none), (5, .slc 1 1 0 y531.length none), (6, .d (eB r704))]) [1, 2] [1, 2] (by kernel_rfl) rfl (by kernel_rfl)) (lresT rfl (lresT rfl (lresT rfl lresN))) rfl
noncomputable def ref08_Decode (p0 : List ApiColumn) (p1 : List UInt8) : Option ((List ApiValue) × Int) :=
 Option.bind (ref08_Columns p0) fun r39 =>
 bif (!r39) then
 some (([] : List ApiValue), (1 : Int))
 else
 Option.bind (ref08_take p0 p1) fun (r41, r42, r43) =>
 Option.bind (α := Bool)
 (bif (!r43) then
 some true
 else
 some (decide ((p1.length : Int) > (512 : Int))))
 fun y45 =>
 bif y45 then
 some (([] : List ApiValue), (2 : Int))
 else
 Option.bind (α := (List ApiValue))
 (Option.bind (α := (List ApiValue))
 (loop (Y := (List ApiValue) × Int) (W := (List ApiValue)) (fun (y64, y65) =>
 bif (decide (y65 < (p0.length : Int))) then
 Option.bind (getI p0 y65) fun v72 =>
 bif decide ((y64.length + [v72.Default].length) * 32 ≤ room) then
 some (Sum.inl ((y64 ++ [v72.Default]), (w64 (y65 + (1 : Int)))))
 else none
 else
 some (Sum.inr y64)) (r41, (r41.length : Int)))
 (fun e => some e))
 fun y60 =>
 some (y60, (0 : Int))
theorem ref08_Decode_ok (p0 : List ApiColumn) (p1 : List UInt8) (r : (List ApiValue) × Int) (h0 : ref08_Decode p0 p1 = some r) : CallAt Tryz.prog 83 [.d ((eL 7 eApiColumn) p0), .d (eS p1)] [] (.tuple [.d ((eL 3 eApiValue) r.1), .d (eI r.2)]) [] := by
 unfold ref08_Decode at h0
 refine fn0 [0, 1] Tryz.func83 rfl rfl rfl rfl rfl ?_
 obtain ⟨r39, hq40, h0⟩ := ob h0
 refine sr (s1 (asg (v := .d .nils) rfl) (sa rfl (sn (sq (sr (sm rfl (c0 (ref08_Columns_ok p0 _ hq40) wf rfl rfl rfl cb72 rfl (fun _ => rfl) (fun _ => rfl) (s1 (nt rfl) (sn ?_)))))))))
 refine cB h0 rfl (fun h0 => ?_) (fun h0 => ?_)
 ·have q := si h0; subst q
  exact sr (s1 (asg (v := .d .nils) rfl) (sa rfl (sn (SC.ret (finR (Wk.env (e' := [(4, .d ((eL 3 eApiValue) ([] : List ApiValue))), (5, .d (eI (1 : Int)))]) (EW.cons (AW.nl _) (EW.cons (AW.refl _) EW.nil))) (lresT rfl (lresT rfl lresN)) rfl)))))
 ·obtain ⟨⟨r41, r42, r43⟩, hq44, h0⟩ := ob h0
  refine sk (sr (sm rfl (sm rfl (cq [] [0, 1] (ref08_take_ok p0 p1 _ hq44) wf rfl rfl rfl cb84 rfl rfl rfl rfl rfl rfl rfl rfl (sm rfl (s1 (ext rfl rfl) (s1 (ext rfl rfl) (s1 (ext rfl rfl) (sa rfl ?_)))))))))
  refine sa rfl (sa rfl (sn (sq (SC.seqP h0 (fun y => ⟨mk 44 [(0, .d ((eL 7 eApiColumn) p0)), (6, .slc 0 3 0 r41.length none), (26, .d (eB y))], [.row 3 (List.map eApiValue r41) true]⟩) ?_ ?_))))
  ·intro u1_46 h1
   refine SC.region (sm rfl (s1 (nt rfl) (sm rfl (sp h1 (fun h1 => ?_) (fun h1 => ?_)))))
   ·have q := si h1; subst q
    exact kw rfl (kw rfl (kw rfl (s1 (pkt rfl rfl) (SO.nil ((wc [0] [0] (by kernel_rfl) rfl (by kernel_rfl)))))))
   ·have q := si h1; subst q
    exact gw rfl (mv rfl) (gw rfl (len rfl rfl rfl (len_str un9)) (gw rfl (bi rfl rfl q_i64_gtr) (s1 (pkf rfl rfl) (SO.nil ((wc [0] [0] (by kernel_rfl) rfl (by kernel_rfl)))))))
  ·rintro y45 h0
   refine cB h0 rfl (fun h0 => ?_) (fun h0 => ?_)
   ·have q := si h0; subst q
    exact sr (s1 (asg (v := .d .nils) rfl) (sa rfl (sn (SC.ret (finR (Wk.trans (Wk.env (e' := [(4, .d ((eL 3 eApiValue) ([] : List ApiValue))), (5, .d (eI (2 : Int)))]) (EW.cons (AW.nl _) (EW.cons (AW.refl _) EW.nil))) (wc (e' := [(4, .d ((eL 3 eApiValue) ([] : List ApiValue))), (5, .d (eI (2 : Int)))]) [] [] (by kernel_rfl) rfl (by kernel_rfl))) (lresT rfl (lresT rfl lresN)) rfl)))))
   ·refine sk (SC.seqP h0 (fun y => ⟨mk 44 [(6, .slc 0 3 0 y.length none)], [.row 3 (List.map eApiValue y) true]⟩) ?_ ?_)
    ·intro u1_61 h1
     obtain ⟨u2_71, h2, h1⟩ := ob h1
     refine sr (sm rfl (s1 (len rfl rfl rfl (len_slc un28)) (sa rfl (sn (SC.blk (SC.loopB h2 (fun y => ⟨mk 44 [(0, .d ((eL 7 eApiColumn) p0)), (6, .slc 0 3 0 y.1.length none), (9, .d (eI y.2))], [.row 3 (List.map eApiValue y.1) true]⟩) (wq rfl) ?_))))))
     intro n74
     rintro ⟨y64, y65⟩ w2_70 h3 hv3
     refine sq (sr (sm rfl (sm rfl (s1 (len rfl rfl rfl (len_lst un22)) (s1 (bi rfl rfl q_i64_lss) (sn (cB h3 rfl (fun h3 => ?_) (fun h3 => ?_))))))))
     ·obtain ⟨v72, hv72, h3⟩ := ob h3; obtain ⟨hg73, h3⟩ := gd h3
      refine sk (sq (SC.blk (SC.region (sm rfl (sm rfl (sm rfl (s1 (ial rfl rfl un22 ts77 (getI_some hv72).1 (map_get (getI_some hv72).2) rfl) (s1 (fap rfl fo77_4 ts68 rfl) (s1 (lod (v := .d (eApiValue v72.Default)) rfl (ld_rop ts68 ta68 rfl)) ?_)))))))))
      refine s1 (bsn (k := 1) (ds := List.map eApiValue [v72.Default]) (off := 0) (l' := [v72.Default].length) rfl un28 ei68 rfl rfl (by rfl) rfl rfl rfl) (s1 (app rfl rfl rfl rfl bc28 (aF (f := eApiValue) (xs := y64) (k := 2) rfl un28 ei68 rfl (el_full (xs := [v72.Default]) rfl) hg73 rfl)) (sa rfl (SO.nil ?_)))
      change SC _ _ _ _ _
      have q := si h3; subst q
      exact SC.region (sm rfl (s1 (bi rfl rfl q_i64_add) (sa rfl (SO.nil (lf (wc [2] [2] (by kernel_rfl) rfl (by kernel_rfl)))))))
     ·have q := si h3; subst q; have q : _ = _ := hv3; subst q; have q := si h1; subst q
      exact SC.exit ((wq rfl))
    ·rintro y60 h0
     have q := si h0; subst q
     exact sr (sm rfl (sa rfl (sa rfl (sn (SC.ret (finR (Wk.trans (Wk.frz (i := 4) (x := .slc 0 3 0 y60.length none) rfl rfl (fF rfl rfl rfl)) (wc (e' := [(4, .d ((eL 3 eApiValue) y60)), (5, .d (eI (0 : Int)))]) [] [] (by kernel_rfl) rfl (by kernel_rfl))) (lresT rfl (lresT rfl lresN)) rfl))))))
noncomputable def ref08_Place (p0 : List ApiColumn) (p1 : List UInt8) (p2 : Int) : Option (Int × Int) :=
 Option.bind (ref08_Decode p0 p1) fun (r19, r20) =>
 bif (r20 != (0 : Int)) then
 some ((0 : Int), r20)
 else
 Option.bind (α := Bool)
 (bif (decide (p2 < (0 : Int))) then
 some true
 else
 some (decide (p2 ≥ (p0.length : Int))))
 fun y22 =>
 bif y22 then
 some ((0 : Int), (1 : Int))
 else
 Option.bind (ref08_take p0 p1) fun (r24, r25, r26) =>
 Option.bind (α := Bool)
 (Option.bind (getI p0 p2) fun v32 =>
 bif (decide (v32.Kind > (2 : Int))) then
 some true
 else
 bif (decide (p2 ≥ (r24.length : Int))) then
 some true
 else
 Option.bind (getI r24 p2) fun v33 =>
 some (v33.Kind == (0 : Int)))
 fun y30 =>
 bif y30 then
 some ((0 : Int), (8 : Int))
 else
 Option.bind (getI r25 p2) fun v34 =>
 some ((w64 (v34 + (1 : Int))), (0 : Int))
theorem ref08_Place_ok (p0 : List ApiColumn) (p1 : List UInt8) (p2 : Int) (r : Int × Int) (h0 : ref08_Place p0 p1 p2 = some r) : CallAt Tryz.prog 54 [.d ((eL 7 eApiColumn) p0), .d (eS p1), .d (eI p2)] [] (.tuple [.d (eI r.1), .d (eI r.2)]) [] := by
 unfold ref08_Place at h0
 refine fn0 [0, 1, 2] Tryz.func54 rfl rfl rfl rfl rfl ?_
 obtain ⟨⟨r19, r20⟩, hq21, h0⟩ := ob h0
 refine sr (sa rfl (sa rfl (sn (sr (sm rfl (sm rfl (c0 (ref08_Decode_ok p0 p1 _ hq21) wf rfl rfl rfl cb83 rfl (fun _ => rfl) (fun _ => rfl) (sm rfl (s1 (ext rfl rfl) ?_)))))))))
 refine s1 (ext rfl rfl) (sa rfl (sa rfl (sn (sq (sr (sm rfl (s1 (bi rfl rfl q_i64_neq) (sn (cB h0 rfl (fun h0 => ?_) (fun h0 => ?_))))))))))
 ·have q := si h0; subst q
  exact sr (sm rfl (sa rfl (sa rfl (sn (SC.ret (finR (Wk.refl _) (lresT rfl (lresT rfl lresN)) rfl))))))
 ·refine sk (sq (SC.seqP h0 (fun y => ⟨mk 62 [(0, .d ((eL 7 eApiColumn) p0)), (1, .d (eS p1)), (2, .d (eI p2)), (29, .d (eB y))], []⟩) ?_ ?_))
  ·intro u1_23 h1
   refine SC.region (sm rfl (s1 (bi rfl rfl q_i64_lss) (sm rfl (sp h1 (fun h1 => ?_) (fun h1 => ?_)))))
   ·have q := si h1; subst q
    exact kw rfl (kw rfl (kw rfl (kw rfl (s1 (pkt rfl rfl) (SO.nil ((wq rfl)))))))
   ·have q := si h1; subst q
    exact gw rfl (mv rfl) (gw rfl (mv rfl) (gw rfl (len rfl rfl rfl (len_lst un22)) (gw rfl (bi rfl rfl q_i64_geq) (s1 (pkf rfl rfl) (SO.nil ((wq rfl)))))))
  ·rintro y22 h0
   refine cB h0 rfl (fun h0 => ?_) (fun h0 => ?_)
   ·have q := si h0; subst q
    exact sr (sa rfl (sa rfl (sn (SC.ret (finR (Wk.refl _) (lresT rfl (lresT rfl lresN)) rfl)))))
   ·obtain ⟨⟨r24, r25, r26⟩, hq27, h0⟩ := ob h0
    refine sk (sr (sm rfl (sm rfl (cq [] [0, 1] (ref08_take_ok p0 p1 _ hq27) wf rfl rfl rfl cb84 rfl rfl rfl rfl rfl rfl rfl rfl (sm rfl (s1 (ext rfl rfl) (s1 (ext rfl rfl) (s1 (ext rfl rfl) (sa rfl ?_)))))))))
    refine sa rfl (sa rfl (sn (sq (SC.seqP h0 (fun y => ⟨mk 62 [(2, .d (eI p2)), (11, .slc 0 1 0 r25.length none), (56, .d (eB y))], [.row 1 (List.map eI r25) true]⟩) ?_ ?_))))
    ·intro u1_31 h1
     obtain ⟨v32, hv32, h1⟩ := ob h1
     refine SC.region (sm rfl (sm rfl (s1 (ial rfl rfl un22 ts77 (getI_some hv32).1 (map_get (getI_some hv32).2) rfl) (s1 (fap rfl fo77_1 ts3 rfl) (s1 (lod rfl (ld_rop ts3 ta3 rfl)) (s1 (bi rfl rfl q_i64_gtr) (sm rfl (sp h1 (fun h1 => ?_) (fun h1 => ?_)))))))))
     ·have q := si h1; subst q
      refine kw rfl (kw rfl (kw rfl (kw rfl (s1 (pkt rfl rfl) (sm rfl (kw rfl (kw rfl (kw rfl (kw rfl ?_)))))))))
      exact kw rfl (kw rfl (s1 (pkt rfl rfl) (SO.nil ((wc [1] [1] (by kernel_rfl) rfl (by kernel_rfl))))))
     ·refine gw rfl (mv rfl) (gw rfl (mv rfl) (gw rfl (len rfl rfl rfl (len_slc un28)) (gw rfl (bi rfl rfl q_i64_geq) (s1 (pkf rfl rfl) (sm rfl (sp h1 (fun h1 => ?_) (fun h1 => ?_)))))))
      ·have q := si h1; subst q
       exact kw rfl (kw rfl (kw rfl (kw rfl (kw rfl (kw rfl (s1 (pkt rfl rfl) (SO.nil ((wc [1] [1] (by kernel_rfl) rfl (by kernel_rfl))))))))))
      ·obtain ⟨v33, hv33, h1⟩ := ob h1; have q := si h1; subst q
       exact gw rfl (mv rfl) (gw rfl (mv rfl) (gw rfl (iaz rfl rfl un28 ts68 (getI_lt hv33)) (gw rfl (far (k := 0) rfl fo68_0 ts3 rfl) (gw rfl (lod rfl (ld_row ts3 ta3 rfl (map_get (getI_some hv33).2) rfl)) (gw rfl (bi rfl rfl q_i64_eql) (s1 (pkf rfl rfl) (SO.nil ((wc [1] [1] (by kernel_rfl) rfl (by kernel_rfl))))))))))
    ·rintro y30 h0
     refine cB h0 rfl (fun h0 => ?_) (fun h0 => ?_)
     ·have q := si h0; subst q
      exact sr (sa rfl (sa rfl (sn (SC.ret (finR (wc (e' := [(6, .d (eI (0 : Int))), (7, .d (eI (8 : Int)))]) [] [] (by kernel_rfl) rfl (by kernel_rfl)) (lresT rfl (lresT rfl lresN)) rfl)))))
     ·obtain ⟨v34, hv34, h0⟩ := ob h0; have q := si h0; subst q
      refine sk (sr (sm rfl (sm rfl (s1 (iaz rfl rfl un23 ts3 (getI_lt hv34)) (s1 (lod rfl (ld_row ts3 ta3 rfl (map_get (getI_some hv34).2) rfl)) (s1 (bi rfl rfl q_i64_add) (sa rfl (sa rfl (sn ?_)))))))))
      exact SC.ret (finR (wc (e' := [(6, .d (eI (w64 (v34 + (1 : Int))))), (7, .d (eI (0 : Int)))]) [] [] (by kernel_rfl) rfl (by kernel_rfl)) (lresT rfl (lresT rfl lresN)) rfl)
noncomputable def ref07_part_1 (p0 : ApiValue) (p1 : Bool) : Option ((List UInt8)) :=
 Option.bind (α := (List UInt8))
 (bif (p0.Kind == (0 : Int)) then
 Option.bind (ref01_Out_Num (0 : UInt64) (1 : Int)) fun r280 =>
 some r280
 else
 Option.bind (ref01_Out_Num (1 : UInt64) (1 : Int)) fun r282 =>
 some r282)
 fun y278 =>
 Option.bind (α := (List UInt8))
 (bif (p0.Kind == (1 : Int)) then
 Option.bind (ref01_Out_Num_1 (p0.N ^^^ (9223372036854775808 : UInt64)) (8 : Int) y278) fun r396 =>
 some r396
 else
 bif (p0.Kind == (2 : Int)) then
 Option.bind (ref01_Out_Num_1 p0.N (8 : Int) y278) fun r398 =>
 some r398
 else
 bif (p0.Kind == (3 : Int)) then
 Option.bind (ref01_Out_Num_1 p0.N (1 : Int) y278) fun r400 =>
 some r400
 else
 Option.bind (α := Bool)
 (bif (p0.Kind == (4 : Int)) then
 some (p0.Kind == (4 : Int))
 else
 some (p0.Kind == (5 : Int)))
 fun y402 =>
 bif y402 then
 Option.bind (α := (List UInt8))
 (Option.bind (α := (List UInt8))
 (loop (Y := Int × (List UInt8)) (W := (List UInt8)) (fun (y469, y470) =>
 bif (decide (y469 < (p0.S.length : Int))) then
 Option.bind (α := (List UInt8))
 (Option.bind (getI p0.S y469) fun v497 =>
 Option.bind (ref01_Out_Num_1 (v497.toUInt64) (1 : Int) y470) fun r498 =>
 Option.bind (getI p0.S y469) fun v500 =>
 bif (v500 == (0 : UInt8)) then
 Option.bind (ref01_Out_Num_1 (255 : UInt64) (1 : Int) r498) fun r501 =>
 some r501
 else
 some r498)
 fun y495 =>
 some (Sum.inl ((w64 (y469 + (1 : Int))), y495))
 else
 some (Sum.inr y470)) ((0 : Int), y278))
 (fun e => some e))
 fun y453 =>
 Option.bind (ref01_Out_Num_1 (0 : UInt64) (2 : Int) y453) fun r504 =>
 some r504
 else
 some y278)
 fun y394 =>
 Option.bind (α := (List UInt8))
 (Option.bind (α := (List UInt8))
 (loop (Y := Int × (List UInt8)) (W := (List UInt8)) (fun (y531, y532) =>
 Option.bind (α := Bool)
 (bif (decide (y531 < (y532.length : Int))) then
 some p1
 else
 some false)
 fun y541 =>
 bif y541 then
 Option.bind (getI y532 y531) fun v543 =>
 Option.bind (getI y532 y531) fun v544 =>
 some (Sum.inl ((w64 (y531 + (1 : Int))), (List.set y532 y531.toNat ((255 : UInt8) - v543))))
 else
 some (Sum.inr y532)) ((0 : Int), y394))
 (fun e => some e))
 fun y525 =>
 some y525
theorem ref07_part_1_ok (p0 : ApiValue) (p1 : Bool) (r : (List UInt8)) (h0 : ref07_part_1 p0 p1 = some r) : CallAt Tryz.prog 123 [.d (eApiValue p0), .d (eB p1)] [] (.d ((eL 1 eU8) r)) [] := by
 unfold ref07_part_1 at h0
 refine fn0 [0, 1] Tryz.func123 rfl rfl rfl rfl rfl ?_
 refine sr (s1 (bxo (k := 0) rfl rfl rfl) (s1 (asg (v := .d .nils) rfl) (sn (sr (s1 (bld rfl (bd127_ )) (s1 (bxo (k := 1) rfl rfl rfl) (sa rfl (sn (SC.seqP h0 (fun y => ⟨mk 94 [(1, .d (eB p1)), (2, .ref 0 0 0), (5, .ref 1 0 0)], [.box (.d (eApiValue p0)), .box (.agg [.slc 2 1 0 y.length none]), .row 1 (List.map eU8 y) true]⟩) ?_ ?_)))))))))
 ·intro u1_279 h1
  refine sr (s1 (far (k := 0) rfl fo68_0 ts3 rfl) (s1 (lod rfl (ld_box ts3 ta3 rfl rfl)) (s1 (bi rfl rfl q_i64_eql) (sn (cB h1 rfl (fun h1 => ?_) (fun h1 => ?_))))))
  ·obtain ⟨r280, hq281, h1⟩ := ob h1; have q := si h1; subst q
   exact SC.region (sm rfl (cq [1] [2] (ref01_Out_Num_ok (0 : UInt64) (1 : Int) _ hq281) wf rfl rfl rfl cb57 rfl rfl rfl rfl rfl rfl rfl rfl (SO.nil ((wq rfl)))))
  ·obtain ⟨r282, hq283, h1⟩ := ob h1; have q := si h1; subst q
   exact SC.region (sm rfl (cq [1] [2] (ref01_Out_Num_ok (1 : UInt64) (1 : Int) _ hq283) wf rfl rfl rfl cb57 rfl rfl rfl rfl rfl rfl rfl rfl (SO.nil ((wq rfl)))))
 ·rintro y278 h0
  refine SC.seqP h0 (fun y => ⟨mk 94 [(1, .d (eB p1)), (5, .ref 0 0 0)], [.box (.agg [.slc 1 1 0 y.length none]), .row 1 (List.map eU8 y) true]⟩) ?_ ?_
  ·intro u1_395 h1
   refine sr (s1 (far (k := 0) rfl fo68_0 ts3 rfl) (s1 (lod rfl (ld_box ts3 ta3 rfl rfl)) (sn (SC.blk (sr (s1 (bi rfl rfl q_i64_eql) (sa rfl (sn (cB h1 rfl (fun h1 => ?_) (fun h1 => ?_))))))))))
   ·obtain ⟨r396, hq397, h1⟩ := ob h1; have q := si h1; subst q
    exact SC.region (sm rfl (s1 (far (k := 1) rfl fo68_1 ts54 rfl) (s1 (lod rfl (ld_box ts54 ta54 rfl rfl)) (s1 (bi rfl rfl (q_u64_xor (b := (9223372036854775808 : UInt64)))) (cq [1, 2] [3] (ref01_Out_Num_1_ok (p0.N ^^^ (9223372036854775808 : UInt64)) (8 : Int) y278 _ hq397) wf rfl rfl rfl cb57 rfl rfl rfl rfl rfl rfl rfl rfl (SO.nil ((wc [1, 3] [1] (by kernel_rfl) rfl (by kernel_rfl)))))))))
   ·refine sr (s1 (bi rfl rfl q_i64_eql) (sa rfl (sn (cB h1 rfl (fun h1 => ?_) (fun h1 => ?_)))))
    ·obtain ⟨r398, hq399, h1⟩ := ob h1; have q := si h1; subst q
     exact SC.region (sm rfl (s1 (far (k := 1) rfl fo68_1 ts54 rfl) (s1 (lod rfl (ld_box ts54 ta54 rfl rfl)) (cq [1, 2] [3] (ref01_Out_Num_1_ok p0.N (8 : Int) y278 _ hq399) wf rfl rfl rfl cb57 rfl rfl rfl rfl rfl rfl rfl rfl (SO.nil ((wc [1, 3] [1] (by kernel_rfl) rfl (by kernel_rfl))))))))
    ·refine sr (s1 (bi rfl rfl q_i64_eql) (sa rfl (sn (cB h1 rfl (fun h1 => ?_) (fun h1 => ?_)))))
     ·obtain ⟨r400, hq401, h1⟩ := ob h1; have q := si h1; subst q
      exact SC.region (sm rfl (s1 (far (k := 1) rfl fo68_1 ts54 rfl) (s1 (lod rfl (ld_box ts54 ta54 rfl rfl)) (cq [1, 2] [3] (ref01_Out_Num_1_ok p0.N (1 : Int) y278 _ hq401) wf rfl rfl rfl cb57 rfl rfl rfl rfl rfl rfl rfl rfl (SO.nil ((wc [1, 3] [1] (by kernel_rfl) rfl (by kernel_rfl))))))))
     ·refine SC.seqP h1 (fun y => ⟨mk 94 [(1, .d (eB p1)), (2, .ref 0 0 0), (5, .ref 1 0 0), (38, .d (eB y))], [.box (.d (eApiValue p0)), .box (.agg [.slc 2 1 0 y278.length none]), .row 1 (List.map eU8 y278) true]⟩) ?_ ?_
      ·intro u2_403 h2
       refine sr (s1 (bi rfl rfl q_i64_eql) (sa rfl (sn (cB h2 rfl (fun h2 => ?_) (fun h2 => ?_)))))
       ·have q := si h2; subst q
        exact SC.skip ((wq rfl))
       ·have q := si h2; subst q
        exact SC.region (s1 (bi rfl rfl q_i64_eql) (sa rfl (SO.nil ((wq rfl)))))
      ·rintro y402 h1
       refine cB h1 rfl (fun h1 => ?_) (fun h1 => ?_)
       ·refine SC.seqP h1 (fun y => ⟨mk 94 [(1, .d (eB p1)), (5, .ref 0 0 0)], [.box (.agg [.slc 1 1 0 y.length none]), .row 1 (List.map eU8 y) true]⟩) ?_ ?_
        ·intro u2_454 h2
         obtain ⟨u3_488, h3, h2⟩ := ob h2
         refine sr (sa rfl (sn (SC.blk (SC.loopB h3 (fun y => ⟨mk 94 [(1, .d (eB p1)), (2, .ref 0 0 0), (5, .ref 1 0 0), (6, .d (eI y.1))], [.box (.d (eApiValue p0)), .box (.agg [.slc 2 1 0 y.2.length none]), .row 1 (List.map eU8 y.2) true]⟩) (wq rfl) ?_))))
         intro n503
         rintro ⟨y469, y470⟩ w3_487 h4 hv4
         refine sq (sr (sm rfl (s1 (far (k := 2) rfl fo68_2 ts9 rfl) (s1 (lod rfl (ld_box ts9 ta9 rfl rfl)) (s1 (len rfl rfl rfl (len_str un9)) (s1 (bi rfl rfl q_i64_lss) (sn (cB h4 rfl (fun h4 => ?_) (fun h4 => ?_)))))))))
         ·refine sk (SC.seqP h4 (fun y => ⟨mk 94 [(1, .d (eB p1)), (2, .ref 0 0 0), (5, .ref 1 0 0), (6, .d (eI y469))], [.box (.d (eApiValue p0)), .box (.agg [.slc 2 1 0 y.length none]), .row 1 (List.map eU8 y) true]⟩) ?_ ?_)
          ·intro u5_496 h5
           obtain ⟨v497, hv497, h5⟩ := ob h5; obtain ⟨r498, hq499, h5⟩ := ob h5; obtain ⟨v500, hv500, h5⟩ := ob h5
           refine SC.blk (sr (sm rfl (s1 (far (k := 2) rfl fo68_2 ts9 rfl) (s1 (lod rfl (ld_box ts9 ta9 rfl rfl)) (sm rfl (s1 (ixs rfl rfl rfl rfl (ix_str un9 (getI_some hv497).1 (getI_some hv497).2)) (s1 (cvo rfl (cv_u8_u64 un5 un54 v497)) (cq [1, 2] [3] (ref01_Out_Num_1_ok (v497.toUInt64) (1 : Int) y470 _ hq499) wf rfl rfl rfl cb57 rfl rfl rfl rfl rfl rfl rfl rfl (sn ?_)))))))))
           refine sr (s1 (far (k := 2) rfl fo68_2 ts9 rfl) (s1 (lod rfl (ld_box ts9 ta9 rfl rfl)) (sm rfl (s1 (ixs rfl rfl rfl rfl (ix_str un9 (getI_some hv500).1 (getI_some hv500).2)) (s1 (bi rfl rfl (q_u8_eql (b := (0 : UInt8)))) (sn (cB h5 rfl (fun h5 => ?_) (fun h5 => ?_))))))))
           ·obtain ⟨r501, hq502, h5⟩ := ob h5; have q := si h5; subst q
            exact SC.region (sm rfl (cq [1, 3] [4] (ref01_Out_Num_1_ok (255 : UInt64) (1 : Int) r498 _ hq502) wf rfl rfl rfl cb57 rfl rfl rfl rfl rfl rfl rfl rfl (SO.nil ((wc [0, 1, 4] [0, 1] (by kernel_rfl) rfl (by kernel_rfl))))))
           ·have q := si h5; subst q
            exact SC.skip ((wc [0, 1, 3] [0, 1] (by kernel_rfl) rfl (by kernel_rfl)))
          ·rintro y495 h4
           have q := si h4; subst q
           exact SC.region (sm rfl (s1 (bi rfl rfl q_i64_add) (sa rfl (SO.nil (lf (wq rfl))))))
         ·have q := si h4; subst q; have q : _ = _ := hv4; subst q; have q := si h2; subst q
          exact SC.exit ((wc [1, 2] [1] (by kernel_rfl) rfl (by kernel_rfl)))
        ·rintro y453 h1
         obtain ⟨r504, hq505, h1⟩ := ob h1; have q := si h1; subst q
         exact SC.region (sm rfl (cq [0, 1] [2] (ref01_Out_Num_1_ok (0 : UInt64) (2 : Int) y453 _ hq505) wf rfl rfl rfl cb57 rfl rfl rfl rfl rfl rfl rfl rfl (SO.nil ((wc [0, 2] [0] (by kernel_rfl) rfl (by kernel_rfl))))))
       ·have q := si h1; subst q
        exact SC.skip ((wc [1, 2] [1] (by kernel_rfl) rfl (by kernel_rfl)))
  ·rintro y394 h0
   refine SC.seqP h0 (fun y => ⟨mk 94 [(5, .ref 0 0 0)], [.box (.agg [.slc 1 1 0 y.length none]), .row 1 (List.map eU8 y) true]⟩) ?_ ?_
   ·intro u1_526 h1
    obtain ⟨u2_540, h2, h1⟩ := ob h1
    refine sr (sa rfl (sn (SC.blk (SC.loopB h2 (fun y => ⟨mk 94 [(1, .d (eB p1)), (5, .ref 0 0 0), (7, .d (eI y.1))], [.box (.agg [.slc 1 1 0 y.2.length none]), .row 1 (List.map eU8 y.2) true]⟩) (wq rfl) ?_))))
    intro n545
    rintro ⟨y531, y532⟩ w2_539 h3 hv3
    refine sq (SC.seqP h3 (fun y => ⟨mk 94 [(1, .d (eB p1)), (5, .ref 0 0 0), (7, .d (eI y531)), (73, .d (eB y))], [.box (.agg [.slc 1 1 0 y532.length none]), .row 1 (List.map eU8 y532) true]⟩) ?_ ?_)
    ·intro u4_542 h4
     refine SC.region (sm rfl (sm rfl (s1 (nkr rfl) (s1 (far (k := 0) rfl fo127_0 ts125 rfl) (s1 (lod rfl (ld_box ts125 ta125 rfl rfl)) (s1 (len rfl rfl rfl (len_slc un125)) (s1 (bi rfl rfl q_i64_lss) (sm rfl (sp h4 (fun h4 => ?_) (fun h4 => ?_))))))))))
     ·have q := si h4; subst q
      exact gw rfl (mv rfl) (s1 (pkt rfl rfl) (SO.nil ((wq rfl))))
     ·have q := si h4; subst q
      exact kw rfl (s1 (pkf rfl rfl) (SO.nil ((wq rfl))))
    ·rintro y541 h3
     refine cB h3 rfl (fun h3 => ?_) (fun h3 => ?_)
     ·obtain ⟨v543, hv543, h3⟩ := ob h3; obtain ⟨v544, hv544, h3⟩ := ob h3
      refine sk (sq (SC.blk (SC.draws (by kernel_rfl) (t1 ([], false) (mv rfl) rfl (t1 ([], false) (nkr rfl) rfl (t1 ([], false) (far (k := 0) rfl fo127_0 ts125 rfl) rfl (t1 ([0], false) (lod rfl (ld_box ts125 ta125 rfl rfl)) rfl (t1 ([], false) (mv rfl) rfl (t1 ([], false) (mv rfl) rfl ?_)))))))))
      refine t1 ([], false) (nkr rfl) rfl (t1 ([], false) (far (k := 0) rfl fo127_0 ts125 rfl) rfl (t1 ([0], false) (lod rfl (ld_box ts125 ta125 rfl rfl)) rfl (t1 ([], false) (mv rfl) rfl (t1 ([], false) (iaz rfl rfl un125 ts5 (getI_lt hv543)) rfl (t1 ([1], false) (lod rfl (ld_row ts5 ta5 rfl (map_get (getI_some hv543).2) rfl)) rfl (t1 ([], false) (bi rfl rfl (q_u8_sub (a := (255 : UInt8)))) rfl (t1 ([], false) (iaz rfl rfl un125 ts5 (getI_lt hv544)) rfl (t0 ([1], true) (sto (b := .d (eU8 ((255 : UInt8) - v543))) rfl rfl (sR (f := eU8) (v := ((255 : UInt8) - v543)) ts5 rfl rfl rfl rfl (getI_some hv544).2 rfl rfl)) rfl (ST.nil (And.intro (by decide +kernel) ?_))))))))))
      change SC _ _ _ _ _
      have q := si h3; subst q
      exact SC.region (sm rfl (s1 (bi rfl rfl q_i64_add) (sa rfl (SO.nil (lf (Wk.trans (wq (e' := [(1, .d (eB p1)), (5, .ref 0 0 0), (7, .d (eI (w64 (y531 + (1 : Int)))))]) rfl) (Wk.boxE (id := 0) (y := .agg [.slc 1 1 0 ((List.set y532 y531.toNat ((255 : UInt8) - v543)).length) none]) (σ' := [.box (.agg [.slc 1 1 0 ((List.set y532 y531.toNat ((255 : UInt8) - v543)).length) none]), .row 1 (List.map eU8 (List.set y532 y531.toNat ((255 : UInt8) - v543))) true]) rfl (AWs.cons (AW.slc rfl (by simp)) AWs.nil) rfl)))))))
     ·have q := si h3; subst q; have q : _ = _ := hv3; subst q; have q := si h1; subst q
      exact SC.exit ((wq rfl))
   ·rintro y525 h0
    have q := si h0; subst q
    exact sr (sm rfl (s1 (nkr rfl) (s1 (far (k := 0) rfl fo127_0 ts125 rfl) (s1 (lod rfl (ld_box ts125 ta125 rfl rfl)) (sa rfl (sn (SC.ret (finR (Wk.trans (Wk.frz (i := 4) (x := .slc 1 1 0 y525.length none) rfl rfl (fF rfl rfl rfl)) (wc (e' := [(4, .d ((eL 1 eU8) y525))]) [] [] (by kernel_rfl) rfl (by kernel_rfl))) (lresT rfl lresN) rfl))))))))
noncomputable def ref07_Key_1 (p0 : List ApiValue) (p1 : List Bool) : Option ((List UInt8)) :=
 Option.bind (α := (List UInt8))
 (Option.bind (α := (List UInt8))
 (loop (Y := (List UInt8) × Int) (W := (List UInt8)) (fun (y77, y78) =>
 bif (decide (y78 < (p0.length : Int))) then
 Option.bind (getI p0 y78) fun v88 =>
 Option.bind (getI p1 y78) fun v89 =>
 Option.bind (ref07_part_1 v88 v89) fun r90 =>
 bif decide ((y77.length + r90.length) * 1 ≤ room) then
 some (Sum.inl ((y77 ++ r90), (w64 (y78 + (1 : Int)))))
 else none
 else
 some (Sum.inr y77)) (([] : List UInt8), (0 : Int)))
 (fun e => some e))
 fun y70 =>
 some y70
theorem ref07_Key_1_ok (p0 : List ApiValue) (p1 : List Bool) (r : (List UInt8)) (h0 : ref07_Key_1 p0 p1 = some r) : CallAt Tryz.prog 105 [.d ((eL 3 eApiValue) p0), .d ((eL 1 eB) p1)] [] (.d (eS r)) [] := by
 unfold ref07_Key_1 at h0
 refine fn0 [0, 1] Tryz.func105 rfl rfl rfl rfl rfl ?_
 refine sr (s1 (asg (v := .d (eS ([] : List UInt8))) rfl) (sn (sr (s1 (asg (v := .d .nils) rfl) (sn (SC.seqP h0 (fun y => ⟨mk 26 [(5, .slc 0 1 0 y.length none)], [.row 1 (List.map eU8 y) true]⟩) ?_ ?_))))))
 ·intro u1_71 h1
  obtain ⟨u2_87, h2, h1⟩ := ob h1
  refine sr (sa rfl (sn (SC.blk (SC.loopB h2 (fun y => ⟨mk 26 [(0, .d ((eL 3 eApiValue) p0)), (1, .d ((eL 1 eB) p1)), (5, .slc 0 1 0 y.1.length none), (6, .d (eI y.2))], [.row 1 (List.map eU8 y.1) true]⟩) (Wk.trans (Wk.pushE (σ' := [.row 1 (List.map eU8 ([] : List UInt8)) true]) (.row 1 [] true) (fun _ hh => by cases hh) rfl) (Wk.trans (Wk.env (e' := [(0, .d ((eL 3 eApiValue) p0)), (1, .d ((eL 1 eB) p1)), (5, .slc 0 1 0 (([] : List UInt8).length) none), (6, .d (eI (0 : Int)))]) (EW.cons (AW.refl _) (EW.cons (AW.refl _) (EW.cons (AW.slcn _ _ _) (EW.cons (AW.refl _) EW.nil))))) (wq rfl))) ?_))))
  intro n93
  rintro ⟨y77, y78⟩ w2_86 h3 hv3
  refine sq (sr (sm rfl (sm rfl (s1 (len rfl rfl rfl (len_lst un28)) (s1 (bi rfl rfl q_i64_lss) (sn (cB h3 rfl (fun h3 => ?_) (fun h3 => ?_))))))))
  ·obtain ⟨v88, hv88, h3⟩ := ob h3; obtain ⟨v89, hv89, h3⟩ := ob h3; obtain ⟨r90, hq91, h3⟩ := ob h3; obtain ⟨hg92, h3⟩ := gd h3
   refine sk (sq (SC.blk (SC.draws (by kernel_rfl) (t1 ([], false) (mv rfl) rfl (t1 ([], false) (mv rfl) rfl (t1 ([], false) (mv rfl) rfl (t1 ([], false) (ial rfl rfl un28 ts68 (getI_some hv88).1 (map_get (getI_some hv88).2) rfl) rfl (t1 ([], false) (lod (v := .d (eApiValue v88)) rfl (ld_rop ts68 ta68 rfl)) rfl (t1 ([], false) (mv rfl) rfl ?_)))))))))
   refine t1 ([], false) (mv rfl) rfl (t1 ([], false) (ial rfl rfl un177 ts4 (getI_some hv89).1 (map_get (getI_some hv89).2) rfl) rfl (t1 ([], false) (lod rfl (ld_rop ts4 ta4 rfl)) rfl (tc0 (ref07_part_1_ok v88 v89 _ hq91) wf rfl rfl rfl cb123 rfl (fun _ => rfl) (fun _ => rfl) (t1 ([0, 1], true) (app rfl rfl rfl rfl bc125 (aF (f := eU8) (xs := y77) (k := 1) rfl un125 ei5 rfl el_lst hg92 rfl)) rfl (t1 ([], false) (asg rfl) rfl (ST.nil (And.intro (by decide +kernel) ?_)))))))
   change SC _ _ _ _ _
   have q := si h3; subst q
   exact SC.region (sm rfl (s1 (bi rfl rfl q_i64_add) (sa rfl (SO.nil (lf (wc [1] [1] (by kernel_rfl) rfl (by kernel_rfl)))))))
  ·have q := si h3; subst q; have q : _ = _ := hv3; subst q; have q := si h1; subst q
   exact SC.exit ((wq rfl))
 ·rintro y70 h0
  have q := si h0; subst q
  exact sr (sm rfl (s1 (cvo (v := .d (eS y70)) rfl (cv_bytes_str un125 un9 un5 (el_full (xs := y70) rfl) (fun _ hh => by cases hh))) (sa rfl (sn (SC.ret (finR (wc (e' := [(4, .d (eS y70))]) [] [] (by kernel_rfl) rfl (by kernel_rfl)) (lresT rfl lresN) rfl))))))
noncomputable def ref17_keyed (p0 : List ApiPart) (p1 : List ApiValue) : Option ((List UInt8) × Bool) :=
 Option.bind (α := (List ApiValue) × (List Bool) × Bool)
 (Option.bind (α := (List ApiValue) × (List Bool) × Bool)
 (loop (Y := (List ApiValue) × (List Bool) × Bool × Int) (W := (List ApiValue) × (List Bool) × Bool) (fun (y96, y97, y98, y99) =>
 bif (decide (y99 < (p0.length : Int))) then
 Option.bind (getI p0 y99) fun v111 =>
 Option.bind (getI p1 v111.Col) fun v112 =>
 bif decide ((y96.length + [v112].length) * 32 ≤ room) then
 Option.bind (getI p0 y99) fun v114 =>
 bif decide ((y97.length + [v114.Down].length) * 1 ≤ room) then
 bif y98 then
 some (Sum.inl ((y96 ++ [v112]), (y97 ++ [v114.Down]), true, (w64 (y99 + (1 : Int)))))
 else
 some (Sum.inl ((y96 ++ [v112]), (y97 ++ [v114.Down]), (v112.Kind == (0 : Int)), (w64 (y99 + (1 : Int)))))
 else none
 else none
 else
 some (Sum.inr (y96, y97, y98))) (([] : List ApiValue), ([] : List Bool), false, (0 : Int)))
 (fun e => some e))
 fun (y87, y88, y89) =>
 Option.bind (ref07_Key_1 y87 y88) fun r117 =>
 some (r117, y89)
theorem ref17_keyed_ok (p0 : List ApiPart) (p1 : List ApiValue) (r : (List UInt8) × Bool) (h0 : ref17_keyed p0 p1 = some r) : CallAt Tryz.prog 73 [.d ((eL 2 eApiPart) p0), .d ((eL 3 eApiValue) p1)] [] (.tuple [.d (eS r.1), .d (eB r.2)]) [] := by
 unfold ref17_keyed at h0
 refine fn0 [0, 1] Tryz.func73 rfl rfl rfl rfl rfl ?_
 refine sr (s1 (asg (v := .d (eS ([] : List UInt8))) rfl) (sa rfl (sn (sr (s1 (asg (v := .d .nils) rfl) (sn (sr (s1 (asg (v := .d .nils) rfl) (sn ?_)))))))))
 refine sr (sa rfl (sn (SC.seqP h0 (fun y => ⟨mk 47 [(6, .slc 0 3 0 y.1.length none), (7, .slc 1 1 0 y.2.1.length none), (8, .d (eB y.2.2))], [.row 3 (List.map eApiValue y.1) true, .row 1 (List.map eB y.2.1) true]⟩) ?_ ?_)))
 ·intro u1_90 h1
  obtain ⟨u2_110, h2, h1⟩ := ob h1
  refine sr (sa rfl (sn (SC.blk (SC.loopB h2 (fun y => ⟨mk 47 [(0, .d ((eL 2 eApiPart) p0)), (1, .d ((eL 3 eApiValue) p1)), (6, .slc 0 3 0 y.1.length none), (7, .slc 1 1 0 y.2.1.length none), (8, .d (eB y.2.2.1)), (9, .d (eI y.2.2.2))], [.row 3 (List.map eApiValue y.1) true, .row 1 (List.map eB y.2.1) true]⟩) (Wk.trans (Wk.pushE (σ' := [.row 3 (List.map eApiValue ([] : List ApiValue)) true]) (.row 3 [] true) (fun _ hh => by cases hh) rfl) (Wk.trans (Wk.env (e' := [(0, .d ((eL 2 eApiPart) p0)), (1, .d ((eL 3 eApiValue) p1)), (6, .slc 0 3 0 (([] : List ApiValue).length) none), (7, .d .nils), (8, .d (eB false)), (9, .d (eI (0 : Int)))]) (EW.cons (AW.refl _) (EW.cons (AW.refl _) (EW.cons (AW.slcn _ _ _) (EW.cons (AW.refl _) (EW.cons (AW.refl _) (EW.cons (AW.refl _) EW.nil))))))) (Wk.trans (Wk.pushE (σ' := [.row 3 (List.map eApiValue ([] : List ApiValue)) true, .row 1 (List.map eB ([] : List Bool)) true]) (.row 1 [] true) (fun _ hh => by cases hh) rfl) (Wk.trans (Wk.env (e' := [(0, .d ((eL 2 eApiPart) p0)), (1, .d ((eL 3 eApiValue) p1)), (6, .slc 0 3 0 (([] : List ApiValue).length) none), (7, .slc 1 1 0 (([] : List Bool).length) none), (8, .d (eB false)), (9, .d (eI (0 : Int)))]) (EW.cons (AW.refl _) (EW.cons (AW.refl _) (EW.cons (AW.refl _) (EW.cons (AW.slcn _ _ _) (EW.cons (AW.refl _) (EW.cons (AW.refl _) EW.nil))))))) (wq rfl))))) ?_))))
  intro n116
  rintro ⟨y96, y97, y98, y99⟩ w2_109 h3 hv3
  refine sq (sr (sm rfl (sm rfl (s1 (len rfl rfl rfl (len_lst un80)) (s1 (bi rfl rfl q_i64_lss) (sn (cB h3 rfl (fun h3 => ?_) (fun h3 => ?_))))))))
  ·obtain ⟨v111, hv111, h3⟩ := ob h3; obtain ⟨v112, hv112, h3⟩ := ob h3; obtain ⟨hg113, h3⟩ := gd h3; obtain ⟨v114, hv114, h3⟩ := ob h3; obtain ⟨hg115, h3⟩ := gd h3
   refine sk (sq (SC.blk (sr (sm rfl (sm rfl (sm rfl (s1 (ial rfl rfl un80 ts79 (getI_some hv111).1 (map_get (getI_some hv111).2) rfl) (s1 (fap rfl fo79_0 ts3 rfl) (s1 (lod rfl (ld_rop ts3 ta3 rfl)) ?_)))))))))
   refine s1 (ial rfl rfl un28 ts68 (getI_some hv112).1 (map_get (getI_some hv112).2) rfl) (s1 (lod (v := .d (eApiValue v112)) rfl (ld_rop ts68 ta68 rfl)) (s1 (alo (k := 2) zo68 rfl) (s0 (sto rfl rfl (sB (d' := .d (eApiValue v112)) ts68 rfl rfl rfl rfl rfl rfl rfl)) (sn (sr (sm rfl (s1 (lod (v := .d (eApiValue v112)) rfl (ld_box ts68 ta68 rfl rfl)) (s1 (bsn (k := 3) (ds := List.map eApiValue [v112]) (off := 0) (l' := [v112].length) rfl un28 ei68 rfl rfl (by rfl) rfl rfl rfl) (s1 (app rfl rfl rfl rfl bc28 (aF (f := eApiValue) (xs := y96) (k := 4) rfl un28 ei68 rfl (el_full (xs := [v112]) rfl) hg113 rfl)) ?_)))))))))
   refine sa rfl (sn (sr (sm rfl (sm rfl (sm rfl (s1 (ial rfl rfl un80 ts79 (getI_some hv114).1 (map_get (getI_some hv114).2) rfl) (s1 (fap rfl fo79_1 ts4 rfl) (s1 (lod rfl (ld_rop ts4 ta4 rfl)) (s1 (bsn (k := 5) (ds := List.map eB [v114.Down]) (off := 0) (l' := [v114.Down].length) rfl un177 ei4 rfl rfl (by rfl) rfl rfl rfl) ?_)))))))))
   refine s1 (app rfl rfl rfl rfl bc177 (aF (f := eB) (xs := y97) (k := 6) rfl un177 ei4 rfl (el_full (xs := [v114.Down]) rfl) hg115 rfl)) (sa rfl (sn (SC.region (sm rfl (sm rfl (sp h3 (fun h3 => ?_) (fun h3 => ?_)))))))
   ·refine kw rfl (kw rfl (kw rfl (s1 (pkt rfl rfl) (sa rfl (SO.nil ?_)))))
    change SC _ _ _ _ _
    have q := si h3; subst q
    exact SC.region (sm rfl (s1 (bi rfl rfl q_i64_add) (sa rfl (SO.nil (lf (wc [4, 6] [4, 6] (by kernel_rfl) rfl (by kernel_rfl)))))))
   ·refine gw rfl (far (k := 0) rfl fo68_0 ts3 rfl) (gw rfl (lod rfl (ld_box ts3 ta3 rfl rfl)) (gw rfl (bi rfl rfl q_i64_eql) (s1 (pkf rfl rfl) (sa rfl (SO.nil ?_)))))
    change SC _ _ _ _ _
    have q := si h3; subst q
    exact SC.region (sm rfl (s1 (bi rfl rfl q_i64_add) (sa rfl (SO.nil (lf (wc [4, 6] [4, 6] (by kernel_rfl) rfl (by kernel_rfl)))))))
  ·have q := si h3; subst q; have q : _ = _ := hv3; subst q; have q := si h1; subst q
   exact SC.exit ((wq rfl))
 ·rintro ⟨y87, y88, y89⟩ h0
  obtain ⟨r117, hq118, h0⟩ := ob h0; have q := si h0; subst q
  exact sr (sm rfl (sm rfl (cq (args' := [.slc 0 3 0 y87.length none, .slc 1 1 0 y88.length none]) (σc := [.row 3 (List.map eApiValue y87) true, .row 1 (List.map eB y88) true]) [0, 1] [] (CallAt.frz (ArgF.frz (fF rfl rfl rfl) (ArgF.frz (fF rfl rfl rfl) (ArgF.nil _))) (fq [] [] (ref07_Key_1_ok y87 y88 _ hq118) rfl rfl rfl rfl rfl rfl rfl rfl)) wf rfl rfl rfl cb105 rfl rfl rfl rfl rfl rfl rfl rfl (sm rfl (sa rfl (sa rfl (sn (SC.ret (finR (wc (e' := [(4, .d (eS r117)), (5, .d (eB y89))]) [] [] (by kernel_rfl) rfl (by kernel_rfl)) (lresT rfl (lresT rfl lresN)) rfl)))))))))
noncomputable def ref17_Primary (p0 : ApiTable) (p1 : List ApiValue) : Option ((List UInt8)) :=
 Option.bind (ref17_Up p0.Primary) fun r7 =>
 Option.bind (ref17_keyed r7 p1) fun (r9, r10) =>
 some r9
theorem ref17_Primary_ok (p0 : ApiTable) (p1 : List ApiValue) (r : (List UInt8)) (h0 : ref17_Primary p0 p1 = some r) : CallAt Tryz.prog 37 [.d (eApiTable p0), .d ((eL 3 eApiValue) p1)] [] (.d (eS r)) [] := by
 unfold ref17_Primary at h0
 refine fn0 [0, 1] Tryz.func37 rfl rfl rfl rfl rfl ?_
 obtain ⟨r7, hq8, h0⟩ := ob h0; obtain ⟨⟨r9, r10⟩, hq11, h0⟩ := ob h0; have q := si h0; subst q
 refine sr (s1 (bxo (k := 0) rfl rfl rfl) (s1 (asg (v := .d (eS ([] : List UInt8))) rfl) (sn (sr (s1 (far (k := 2) rfl fo26_2 ts23 rfl) (s1 (lod rfl (ld_box ts23 ta23 rfl rfl)) (c0 (ref17_Up_ok p0.Primary _ hq8) wf rfl rfl rfl cb27 rfl (fun _ => rfl) (fun _ => rfl) (sm rfl (c0 (ref17_keyed_ok r7 p1 _ hq11) wf rfl rfl rfl cb73 rfl (fun _ => rfl) (fun _ => rfl) ?_)))))))))
 refine sm rfl (s1 (ext rfl rfl) (s1 (ext rfl rfl) (sa rfl (sa rfl (sn (sr (sm rfl (sa rfl (sn ?_)))))))))
 exact SC.ret (finR (wc (e' := [(4, .d (eS r9))]) [] [] (by kernel_rfl) rfl (by kernel_rfl)) (lresT rfl lresN) rfl)
noncomputable def ref19_Point (p0 : List UInt8) : Option Unit :=
 bif decide (p0.length + ([0] : List UInt8).length ≤ 9223372036854775807) then
 some ()
 else none
theorem ref19_Point_ok (p0 : List UInt8) (r : Unit) (h0 : ref19_Point p0 = some r) : CallAt Tryz.prog 7 [.d (eS p0)] [] (.d (eApiSpan (ApiSpan.mk p0 (p0 ++ ([0] : List UInt8)) false))) [.box (.d (eApiSpan (ApiSpan.mk p0 (p0 ++ ([0] : List UInt8)) false)))] := by
 unfold ref19_Point at h0
 refine fn0 [0] Tryz.func7 rfl rfl rfl rfl rfl ?_
 obtain ⟨hg2, h0⟩ := gd h0; have q := si h0; subst q
 refine sr (s1 (alo (k := 0) zo31 rfl) (sn (sr (sm rfl (sm rfl (s1 (bi (v := .d (eS (p0 ++ ([0] : List UInt8)))) rfl rfl (fun X Y => b_str_add _ X Y p0 ([0] : List UInt8) hg2)) (s1 (bld rfl (bd31_0_1 p0 (p0 ++ ([0] : List UInt8)))) (s0 (sto rfl rfl (sB (d' := .d (eApiSpan (ApiSpan.mk p0 (p0 ++ ([0] : List UInt8)) false))) ts31 rfl rfl rfl rfl rfl rfl rfl)) (sn ?_)))))))))
 exact SC.ret (finR (Wk.refl _) (lresC rfl (ld_box ts31 ta31 rfl rfl) lresN) rfl)
noncomputable def ref19_Work_own (p0 : Int) (p1 : List UInt8) : Option Unit :=
 Option.bind (ref19_Point p1) fun _ =>
 bif decide ([(ApiLock.mk p0 (ApiSpan.mk p1 (p1 ++ ([0] : List UInt8)) false) true)].length * 56 ≤ room) then
 some ()
 else none
theorem ref19_Work_own_ok (p0 : Int) (p1 : List UInt8) (r : Unit) (h0 : ref19_Work_own p0 p1 = some r) : CallAt Tryz.prog 38 [.ref 0 0 0, .d (eI p0), .d (eS p1)] [.box (.d (.agg [.nils, .nils, .nils]))] (.tuple []) [.box (.agg [.d .nils, .slc 1 5 0 ([(ApiLock.mk p0 (ApiSpan.mk p1 (p1 ++ ([0] : List UInt8)) false) true)].length) none, .d .nils]), .row 5 (List.map eApiLock [(ApiLock.mk p0 (ApiSpan.mk p1 (p1 ++ ([0] : List UInt8)) false) true)]) true] := by
 unfold ref19_Work_own at h0
 refine fn0 [0, 1, 2] Tryz.func38 rfl rfl rfl rfl rfl ?_
 obtain ⟨_, hq3, h0⟩ := ob h0; obtain ⟨hg4, h0⟩ := gd h0; have q := si h0; subst q
 refine SC.draws (by kernel_rfl) (t1 ([], false) (mv rfl) rfl (t1 ([], false) (mv rfl) rfl (t1 ([], false) (nkr rfl) rfl (t1 ([], false) (far (k := 1) rfl fo46_1 ts37 rfl) rfl (t1 ([0], false) (lod rfl (ld_box ts37 ta37 rfl rfl)) rfl (t1 ([], false) (mv rfl) rfl (t1 ([], false) (mv rfl) rfl (tq [] [1] ([1], true) (ref19_Point_ok p1 _ hq3) wf rfl rfl rfl cb7 rfl rfl rfl rfl rfl rfl rfl rfl rfl (t1 ([], false) (bld rfl (bd137_0_1_2 p0 (ApiSpan.mk p1 (p1 ++ ([0] : List UInt8)) false) true)) rfl ?_)))))))))
 refine t1 ([2], true) (bsn (k := 2) (ds := List.map eApiLock [(ApiLock.mk p0 (ApiSpan.mk p1 (p1 ++ ([0] : List UInt8)) false) true)]) (off := 0) (l' := [(ApiLock.mk p0 (ApiSpan.mk p1 (p1 ++ ([0] : List UInt8)) false) true)].length) rfl un37 ei137 rfl rfl (by rfl) rfl rfl rfl) rfl (t1 ([2, 3], true) (app rfl rfl rfl rfl bc37 (aN (f := eApiLock) (k := 3) un37 ei137 (el_full (xs := [(ApiLock.mk p0 (ApiSpan.mk p1 (p1 ++ ([0] : List UInt8)) false) true)]) rfl) hg4 rfl)) rfl (t1 ([], false) (nkr rfl) rfl (t1 ([], false) (far (k := 1) rfl fo46_1 ts37 rfl) rfl (t0 ([0, 3], true) (sto rfl rfl (sB (d' := .agg [.d .nils, .slc 3 5 0 ([(ApiLock.mk p0 (ApiSpan.mk p1 (p1 ++ ([0] : List UInt8)) false) true)].length) none, .d .nils]) ts37 rfl rfl rfl rfl rfl rfl rfl)) rfl (ST.nil (And.intro (by decide +kernel) ?_))))))
 exact finN (wc (e' := []) [0, 3] [0] (by kernel_rfl) rfl (by kernel_rfl)) lresN rfl
end Lv
