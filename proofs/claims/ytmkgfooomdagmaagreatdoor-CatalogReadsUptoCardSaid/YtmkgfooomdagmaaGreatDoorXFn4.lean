/- Part of the proof of a law: functions and their walks. -/
import Derived.Test.YtmkgfooomdagmaaGreatDoorXFn3
namespace Lv
open Go Go.Proofs
set_option linter.unusedVariables false
set_option linter.unusedSimpArgs false
set_option linter.unusedSectionVars false
set_option maxRecDepth 100000
variable [BaseTab] [TabOk]
noncomputable def ref18_Read (p0 : List ApiPair) : Option ((List ApiTable) × Int) :=
 bindE (Y := (List ApiTable)) (E := (List ApiTable) × Int)
 (Option.bind (α := ((List ApiTable)) ⊕ ((List ApiTable) × Int))
 (loop (Y := (List ApiPair) × (List ApiTable)) (W := ((List ApiTable)) ⊕ ((List ApiTable) × Int)) (fun (y384, y385) =>
 bif (decide ((y384.length : Int) > (0 : Int))) then
 Option.bind (ref18_readTable y384) fun (r413, r414, r415, r416, r417, r418) =>
 Option.bind (ref18_Pairs (ApiTable.mk r414 r415 r416 r417 r418)) fun (r420, r421) =>
 Option.bind (α := Bool)
 (bif (r421 != (0 : Int)) then
 some true
 else
 bif decide (0 ≤ r413 ∧ r413 ≤ (y384.length : Int)) then
 Option.bind (raw_Pairs r420 (List.take r413.toNat y384)) fun r430 =>
 bif (!r430) then
 some true
 else
 bif (decide ((y385.length : Int) > (0 : Int))) then
 Option.bind (getI y385 (w64 ((y385.length : Int) - (1 : Int)))) fun v431 =>
 some (!(ltS v431.Name r414))
 else
 some false
 else none)
 fun y426 =>
 bif y426 then
 some (Sum.inr (Sum.inr (([] : List ApiTable), (2 : Int))))
 else
 bif decide ((y385.length + [(ApiTable.mk r414 r415 r416 r417 r418)].length) * 96 ≤ room) then
 bif decide (0 ≤ r413 ∧ r413 ≤ (y384.length : Int)) then
 some (Sum.inl ((List.drop r413.toNat y384), (y385 ++ [(ApiTable.mk r414 r415 r416 r417 r418)])))
 else none
 else none
 else
 some (Sum.inr (Sum.inl y385))) (p0, ([] : List ApiTable)))
 (Sum.elim (fun e => some (Sum.inl e)) (fun e => some (Sum.inr e))))
 (fun y362 =>
 some (y362, (0 : Int)))
 (fun e => some e)
theorem ref18_Read_ok (p0 : List ApiPair) (r : (List ApiTable) × Int) (h0 : ref18_Read p0 = some r) : CallAt Tryz.prog 12 [.d ((eL 2 eApiPair) p0)] [] (.tuple [.d ((eL 5 eApiTable) r.1), .d (eI r.2)]) [] := by
 unfold ref18_Read at h0
 refine fn0 [0] Tryz.func12 rfl rfl rfl rfl rfl ?_
 refine sr (s1 (asg (v := .d .nils) rfl) (sa rfl (sn (sr (s1 (asg (v := .d .nils) rfl) (sn (SC.seqB h0 (fun y => ⟨mk 57 [(4, .slc 0 5 0 y.length none)], [.row 5 (List.map eApiTable y) true]⟩) ?_ ?_)))))))
 ·intro u1_363 h1 h0
  obtain ⟨u2_411, h2, h1⟩ := ob h1
  refine SC.blk (SC.loopB h2 (fun y => ⟨mk 57 [(0, .d ((eL 2 eApiPair) y.1)), (4, .slc 0 5 0 y.2.length none)], [.row 5 (List.map eApiTable y.2) true]⟩) (Wk.trans (Wk.pushE (σ' := [.row 5 (List.map eApiTable ([] : List ApiTable)) true]) (.row 5 [] true) (fun _ hh => by cases hh) rfl) (Wk.trans (Wk.env (e' := [(0, .d ((eL 2 eApiPair) p0)), (4, .slc 0 5 0 (([] : List ApiTable).length) none)]) (EW.cons (AW.refl _) (EW.cons (AW.slcn _ _ _) EW.nil))) (wq rfl))) ?_)
  intro n434
  rintro ⟨y384, y385⟩ w2_410 h3 hv3
  refine sq (sr (sm rfl (s1 (len rfl rfl rfl (len_lst un29)) (s1 (bi rfl rfl q_i64_gtr) (sn (cB h3 rfl (fun h3 => ?_) (fun h3 => ?_)))))))
  ·obtain ⟨⟨r413, r414, r415, r416, r417, r418⟩, hq412, h3⟩ := ob h3; obtain ⟨⟨r420, r421⟩, hq419, h3⟩ := ob h3
   refine sk (SC.blk (sr (sm rfl (cq [] [1, 2, 3, 4] (ref18_readTable_ok y384 _ hq412) wf rfl rfl rfl cb31 rfl rfl rfl rfl rfl rfl rfl rfl (sm rfl (s1 (ext rfl rfl) (s1 (ext rfl rfl) (s1 (alo (k := 5) zo26 rfl) (s0 (sto rfl rfl (sB (d' := .agg [.d (eS r414), .slc 2 7 0 r415.length none, .slc 3 1 0 r416.length none, .slc 4 6 0 r417.length none, .d (eI r418)]) ts26 rfl rfl rfl rfl rfl rfl rfl)) ?_)))))))))
   refine sa rfl (sn (sr (s1 (lod (v := .agg [.d (eS r414), .slc 2 7 0 r415.length none, .slc 3 1 0 r416.length none, .slc 4 6 0 r417.length none, .d (eI r418)]) rfl (ld_box ts26 ta26 rfl rfl)) (cq (args' := [.agg [.d (eS r414), .slc 0 7 0 r415.length none, .slc 1 1 0 r416.length none, .slc 2 6 0 r417.length none, .d (eI r418)]]) (σc := [.row 7 (List.map eApiColumn r415) true, .row 1 (List.map eI r416) true, .row 6 (List.map eApiIndex r417) true]) [2, 3, 4] [] (CallAt.frz (ArgF.frzw (y := .d (eApiTable (ApiTable.mk r414 r415 r416 r417 r418))) rfl (frzs_d rfl (frzs_slc (fF rfl rfl rfl) (frzs_slc (fF rfl rfl rfl) (frzs_slc (fF rfl rfl rfl) (frzs_d rfl frzs_nil))))) (AW.aggd rfl (AWs.cons (AW.refl _) (AWs.cons (AW.refl _) (AWs.cons (AW.refl _) (AWs.cons (AW.refl _) (AWs.cons (AW.refl _) AWs.nil)))))) (ArgF.nil _)) (fq [] [] (ref18_Pairs_ok (ApiTable.mk r414 r415 r416 r417 r418) _ hq419) rfl rfl rfl rfl rfl rfl rfl rfl)) wf rfl rfl rfl cb8 rfl rfl rfl rfl rfl rfl rfl rfl (sm rfl (s1 (ext rfl rfl) (s1 (ext rfl rfl) (sa rfl (sa rfl ?_)))))))))
   refine sn (sq (SC.seqP h3 (fun y => ⟨mk 57 [(0, .d ((eL 2 eApiPair) y384)), (4, .slc 0 5 0 y385.length none), (5, .ref 1 0 0), (6, .d (eI r413)), (48, .d (eB y))], [.row 5 (List.map eApiTable y385) true, .box (.agg [.d (eS r414), .slc 2 7 0 r415.length none, .slc 3 1 0 r416.length none, .slc 4 6 0 r417.length none, .d (eI r418)]), .row 7 (List.map eApiColumn r415) false, .row 1 (List.map eI r416) false, .row 6 (List.map eApiIndex r417) false]⟩) ?_ ?_))
   ·intro u4_427 h4
    refine SC.draws (by kernel_rfl) (t1 ([], false) (mv rfl) rfl (t1 ([], false) (bi rfl rfl q_i64_neq) rfl (t1 ([], false) (mv rfl) rfl (tp h4 (fun h4 => ?_) (fun h4 => ?_)))))
    ·have q := si h4; subst q
     refine jw rfl (jw rfl (jw rfl (jw rfl (jw rfl (jw rfl (t1 ([], false) (pkt rfl rfl) rfl (t1 ([], false) (mv rfl) rfl (jw rfl (jw rfl ?_)))))))))
     refine jw rfl (jw rfl (jw rfl (jw rfl (jw rfl (jw rfl (jw rfl (jw rfl (jw rfl (jw rfl ?_)))))))))
     refine jw rfl (jw rfl (jw rfl (t1 ([], false) (pkt rfl rfl) rfl (ST.nil (And.intro (by decide +kernel) ?_)))))
     exact (wc [0, 5, 2, 3, 4] [0, 5] (by kernel_rfl) rfl (by kernel_rfl))
    ·obtain ⟨hg428, h4⟩ := gd h4; obtain ⟨r430, hq429, h4⟩ := ob h4
     refine u1 ([], false) (ww rfl) (mv rfl) rfl (u1 ([], false) (ww rfl) (mv rfl) rfl (u1 ([], false) (ww rfl) (mv rfl) rfl (u1 ([], false) (ww rfl) (slo rfl rfl rfl rfl (sl_lst_hi un29 ts49 hg428)) rfl (tc0 (raw_Pairs_ok r420 (List.take r413.toNat y384) _ hq429) (ww rfl) rfl rfl rfl cb9 rfl (fun _ => rfl) (fun _ => rfl) (u1 ([], false) (ww rfl) (nt rfl) rfl (t1 ([], false) (pkf rfl rfl) rfl (t1 ([], false) (mv rfl) rfl (tp h4 (fun h4 => ?_) (fun h4 => ?_)))))))))
     ·have q := si h4; subst q
      refine jw rfl (jw rfl (jw rfl (jw rfl (jw rfl (jw rfl (jw rfl (jw rfl (jw rfl (jw rfl ?_)))))))))
      refine jw rfl (jw rfl (jw rfl (jw rfl (jw rfl (t1 ([], false) (pkt rfl rfl) rfl (ST.nil (And.intro (by decide +kernel) ?_)))))))
      exact (wc [0, 5, 2, 3, 4] [0, 5] (by kernel_rfl) rfl (by kernel_rfl))
     ·refine u1 ([], false) (ww rfl) (mv rfl) rfl (u1 ([], false) (ww rfl) (len rfl rfl rfl (len_slc un36)) rfl (u1 ([], false) (ww rfl) (bi rfl rfl q_i64_gtr) rfl (u1 ([], false) (ww rfl) (mv rfl) rfl (tp h4 (fun h4 => ?_) (fun h4 => ?_)))))
      ·obtain ⟨v431, hv431, h4⟩ := ob h4; have q := si h4; subst q
       refine u1 ([], false) (ww rfl) (mv rfl) rfl (u1 ([], false) (ww rfl) (mv rfl) rfl (u1 ([], false) (ww rfl) (len rfl rfl rfl (len_slc un36)) rfl (u1 ([], false) (ww rfl) (bi rfl rfl q_i64_sub) rfl (u1 ([], false) (ww rfl) (iaz rfl rfl un36 ts26 (getI_lt hv431)) rfl (u1 ([], false) (ww rfl) (far (k := 0) rfl fo26_0 ts9 rfl) rfl (u1 ([0], false) (ww rfl) (lod rfl (ld_row ts9 ta9 rfl (map_get (getI_some hv431).2) rfl)) rfl (u1 ([], false) (ww rfl) (far (k := 0) rfl fo26_0 ts9 rfl) rfl (u1 ([5], false) (ww rfl) (lod rfl (ld_box ts9 ta9 rfl rfl)) rfl (u1 ([], false) (ww rfl) (bi rfl rfl q_str_geq) rfl ?_)))))))))
       refine u1 ([], false) (ww rfl) (pkt rfl rfl) rfl (t1 ([], false) (pkf rfl rfl) rfl (ST.nil (And.intro (by decide +kernel) ?_)))
       exact (wc [0, 5, 2, 3, 4] [0, 5] (by kernel_rfl) rfl (by kernel_rfl))
      ·have q := si h4; subst q
       refine jw rfl (jw rfl (jw rfl (jw rfl (jw rfl (jw rfl (jw rfl (jw rfl (jw rfl (jw rfl ?_)))))))))
       refine u1 ([], false) (ww rfl) (pkf rfl rfl) rfl (t1 ([], false) (pkf rfl rfl) rfl (ST.nil (And.intro (by decide +kernel) ?_)))
       exact (wc [0, 5, 2, 3, 4] [0, 5] (by kernel_rfl) rfl (by kernel_rfl))
   ·rintro y426 h3
    refine cB h3 rfl (fun h3 => ?_) (fun h3 => ?_)
    ·have q := si h3; subst q; have q : _ = _ := hv3; subst q; have q := si h1; subst q; have q := si h0; subst q
     exact sr (s1 (asg (v := .d .nils) rfl) (sa rfl (sn (SC.ret (finR (Wk.trans (Wk.env (e' := [(2, .d ((eL 5 eApiTable) ([] : List ApiTable))), (3, .d (eI (2 : Int)))]) (EW.cons (AW.nl _) (EW.cons (AW.refl _) EW.nil))) (wc (e' := [(2, .d ((eL 5 eApiTable) ([] : List ApiTable))), (3, .d (eI (2 : Int)))]) [] [] (by kernel_rfl) rfl (by kernel_rfl))) (lresT rfl (lresT rfl lresN)) rfl)))))
    ·obtain ⟨hg432, h3⟩ := gd h3; obtain ⟨hg433, h3⟩ := gd h3; have q := si h3; subst q
     refine sk (sr (sm rfl (s1 (lod (v := .agg [.d (eS r414), .slc 2 7 0 r415.length none, .slc 3 1 0 r416.length none, .slc 4 6 0 r417.length none, .d (eI r418)]) rfl (ld_box ts26 ta26 rfl rfl)) (SO.wk (Wk.frzs (i := 50) (x := .agg [.d (eS r414), .slc 2 7 0 r415.length none, .slc 3 1 0 r416.length none, .slc 4 6 0 r417.length none, .d (eI r418)]) rfl rfl rfl (frzs_d rfl (frzs_slc (fF rfl rfl rfl) (frzs_slc (fF rfl rfl rfl) (frzs_slc (fF rfl rfl rfl) (frzs_d rfl frzs_nil)))))) (s1 (bsn (k := 5) (ds := List.map eApiTable [(ApiTable.mk r414 r415 r416 r417 r418)]) (off := 0) (l' := [(ApiTable.mk r414 r415 r416 r417 r418)].length) rfl un36 ei26 rfl rfl (by rfl) rfl rfl rfl) (s1 (app rfl rfl rfl rfl bc36 (aF (f := eApiTable) (xs := y385) (k := 6) rfl un36 ei26 rfl (el_full (xs := [(ApiTable.mk r414 r415 r416 r417 r418)]) rfl) hg432 rfl)) (sa rfl (sn (SC.region ?_)))))))))
     exact sm rfl (sm rfl (s1 (slo rfl rfl rfl rfl (sl_lst_lo un29 ts49 hg433)) (sa rfl (SO.nil (lf (wc [6] [6] (by kernel_rfl) rfl (by kernel_rfl)))))))
  ·have q := si h3; subst q; have q : _ = _ := hv3; subst q; have q := si h1; subst q
   exact SC.exit (lf (wq rfl))
 ·rintro y362 h0
  have q := si h0; subst q
  exact sr (sm rfl (sa rfl (sa rfl (sn (SC.ret (finR (Wk.trans (Wk.frz (i := 2) (x := .slc 0 5 0 y362.length none) rfl rfl (fF rfl rfl rfl)) (wc (e' := [(2, .d ((eL 5 eApiTable) y362)), (3, .d (eI (0 : Int)))]) [] [] (by kernel_rfl) rfl (by kernel_rfl))) (lresT rfl (lresT rfl lresN)) rfl))))))
noncomputable def law18_same (p0 : List ApiTable) (p1 : List ApiTable) : Option Bool :=
 bif ((p0.length : Int) != (p1.length : Int)) then
 some false
 else
 bindE (Y := Unit) (E := Bool)
 (Option.bind (α := Unit ⊕ Bool)
 (loop (Y := Int) (W := Unit ⊕ Bool) (fun y94 =>
 bif (decide (y94 < (p0.length : Int))) then
 Option.bind (getI p0 y94) fun v102 =>
 Option.bind (getI p1 y94) fun v103 =>
 Option.bind (ref17_Same v102 v103) fun r105 =>
 bif (!r105) then
 some (Sum.inr (Sum.inr false))
 else
 some (Sum.inl (w64 (y94 + (1 : Int))))
 else
 some (Sum.inr (Sum.inl ()))) (0 : Int))
 (Sum.elim (fun e => some (Sum.inl e)) (fun e => some (Sum.inr e))))
 (fun _ =>
 some true)
 (fun e => some e)
theorem law18_same_ok (p0 : List ApiTable) (p1 : List ApiTable) (r : Bool) (h0 : law18_same p0 p1 = some r) : CallAt Tryz.prog 13 [.d ((eL 5 eApiTable) p0), .d ((eL 5 eApiTable) p1)] [] (.d (eB r)) [] := by
 unfold law18_same at h0
 refine fn0 [0, 1] Tryz.func13 rfl rfl rfl rfl rfl ?_
 refine sr (sa rfl (sn (sq (sr (sm rfl (s1 (len rfl rfl rfl (len_lst un36)) (sm rfl (s1 (len rfl rfl rfl (len_lst un36)) (s1 (bi rfl rfl q_i64_neq) ?_)))))))))
 refine sn (cB h0 rfl (fun h0 => ?_) (fun h0 => ?_))
 ·have q := si h0; subst q
  exact sr (sa rfl (sn (SC.ret (finR (Wk.refl _) (lresT rfl lresN) rfl))))
 ·refine sk (SC.seqB h0 (fun y => ⟨mk 27 [], []⟩) ?_ ?_)
  ·intro u1_89 h1 h0
   obtain ⟨u2_101, h2, h1⟩ := ob h1
   refine sr (sa rfl (sn (SC.blk (SC.loopB h2 (fun y => ⟨mk 27 [(0, .d ((eL 5 eApiTable) p0)), (1, .d ((eL 5 eApiTable) p1)), (5, .d (eI y))], []⟩) (wq rfl) ?_))))
   intro n106
   rintro y94 w2_100 h3 hv3
   refine sq (sr (sm rfl (sm rfl (s1 (len rfl rfl rfl (len_lst un36)) (s1 (bi rfl rfl q_i64_lss) (sn (cB h3 rfl (fun h3 => ?_) (fun h3 => ?_))))))))
   ·obtain ⟨v102, hv102, h3⟩ := ob h3; obtain ⟨v103, hv103, h3⟩ := ob h3; obtain ⟨r105, hq104, h3⟩ := ob h3
    refine sk (sq (SC.blk (sd (by kernel_rfl) (t1 ([], false) (mv rfl) rfl (t1 ([], false) (mv rfl) rfl (t1 ([], false) (ial rfl rfl un36 ts26 (getI_some hv102).1 (map_get (getI_some hv102).2) rfl) rfl (t1 ([], false) (lod (v := .d (eApiTable v102)) rfl (ld_rop ts26 ta26 rfl)) rfl (t1 ([], false) (mv rfl) rfl (t1 ([], false) (mv rfl) rfl ?_)))))))))
    refine t1 ([], false) (ial rfl rfl un36 ts26 (getI_some hv103).1 (map_get (getI_some hv103).2) rfl) rfl (t1 ([], false) (lod (v := .d (eApiTable v103)) rfl (ld_rop ts26 ta26 rfl)) rfl (tc0 (ref17_Same_ok v102 v103 _ hq104) wf rfl rfl rfl cb10 rfl (fun _ => rfl) (fun _ => rfl) (t1 ([], false) (nt rfl) rfl (tn (by decide +kernel) (cB h3 rfl (fun h3 => ?_) (fun h3 => ?_))))))
    ·have q := si h3; subst q; have q : _ = _ := hv3; subst q; have q := si h1; subst q; have q := si h0; subst q
     exact sr (sa rfl (sn (SC.ret (finR (Wk.refl _) (lresT rfl lresN) rfl))))
    ·refine SC.skip ?_
     change SC _ _ _ _ _
     have q := si h3; subst q
     exact SC.region (sm rfl (s1 (bi rfl rfl q_i64_add) (sa rfl (SO.nil (lf (wq rfl))))))
   ·have q := si h3; subst q; have q : _ = _ := hv3; subst q; have q := si h1; subst q
    exact SC.exit (lf (wq rfl))
  ·intro _ h0
   have q := si h0; subst q
   exact sr (sa rfl (sn (SC.ret (finR (Wk.refl _) (lresT rfl lresN) rfl))))
noncomputable def law18_CatalogReads (p0 : List ApiPair) : Option Bool :=
 Option.bind law18_awake fun r145 =>
 bif (!r145) then
 some false
 else
 bif decide ((([] : List ApiPair).length + p0.length) * 32 ≤ room) then
 Option.bind (catalog_Read (([] : List ApiPair) ++ p0)) fun (r148, r149) =>
 Option.bind (ref18_Read p0) fun (r151, r152) =>
 Option.bind (α := Bool)
 (bif (r149 != r152) then
 some true
 else
 Option.bind (law18_same r148 r151) fun r160 =>
 bif (!r160) then
 some true
 else
 Option.bind (raw_Pairs (([] : List ApiPair) ++ p0) p0) fun r162 =>
 some (!r162))
 fun y157 =>
 bif y157 then
 some false
 else
 bindE (Y := (List ApiPair)) (E := Bool)
 (Option.bind (α := ((List ApiPair)) ⊕ Bool)
 (loop (Y := (List ApiPair) × Int) (W := ((List ApiPair)) ⊕ Bool) (fun (y192, y193) =>
 bif (decide (y193 < (r148.length : Int))) then
 Option.bind (getI r148 y193) fun v203 =>
 Option.bind (catalog_Pairs v203) fun (r205, r206) =>
 bif (r206 != (0 : Int)) then
 some (Sum.inr (Sum.inr false))
 else
 bif decide ((y192.length + r205.length) * 32 ≤ room) then
 some (Sum.inl ((y192 ++ r205), (w64 (y193 + (1 : Int)))))
 else none
 else
 some (Sum.inr (Sum.inl y192))) (([] : List ApiPair), (0 : Int)))
 (Sum.elim (fun e => some (Sum.inl e)) (fun e => some (Sum.inr e))))
 (fun y185 =>
 Option.bind (α := Bool)
 (bif (r149 != (0 : Int)) then
 some true
 else
 Option.bind (raw_Pairs y185 p0) fun r214 =>
 some r214)
 fun y211 =>
 some y211)
 (fun e => some e)
 else none
theorem law18_CatalogReads_ok (p0 : List ApiPair) (r : Bool) (h0 : law18_CatalogReads p0 = some r) : CallAt Tryz.prog 4 [.d ((eL 2 eApiPair) p0)] [] (.d (eB r)) [] := by
 unfold law18_CatalogReads at h0
 refine fn0 [0] Tryz.func4 rfl rfl rfl rfl rfl ?_
 obtain ⟨r145, hq144, h0⟩ := ob h0
 refine sr (sa rfl (sn (sq (sr (c0 (law18_awake_ok _ hq144) wf rfl rfl rfl cb5 rfl (fun _ => rfl) (fun _ => rfl) (s1 (nt rfl) (sn (cB h0 rfl (fun h0 => ?_) (fun h0 => ?_)))))))))
 ·have q := si h0; subst q
  exact sr (sa rfl (sn (SC.ret (finR (Wk.refl _) (lresT rfl lresN) rfl))))
 ·obtain ⟨hg146, h0⟩ := gd h0; obtain ⟨⟨r148, r149⟩, hq147, h0⟩ := ob h0; obtain ⟨⟨r151, r152⟩, hq150, h0⟩ := ob h0
  refine sk (sr (s1 (bsn (k := 0) (ds := List.map eApiPair ([] : List ApiPair)) (off := 0) (l' := ([] : List ApiPair).length) rfl un29 ei49 rfl rfl rfl rfl rfl rfl) (sm rfl (s1 (app rfl rfl rfl rfl bc29 (aF (f := eApiPair) (xs := ([] : List ApiPair)) (k := 1) rfl un29 ei49 rfl el_lst hg146 rfl)) (sa rfl (sn (sr (sm rfl (cq (args' := [.slc 0 2 0 ((([] : List ApiPair) ++ p0).length) none]) (σc := [.row 2 (List.map eApiPair (([] : List ApiPair) ++ p0)) true]) [1] [] (CallAt.frz (ArgF.frz (fF rfl rfl rfl) (ArgF.nil _)) (fq [] [] (catalog_Read_ok (([] : List ApiPair) ++ p0) _ hq147) rfl rfl rfl rfl rfl rfl rfl rfl)) wf rfl rfl rfl cb11 rfl rfl rfl rfl rfl rfl rfl rfl ?_)))))))))
  refine sm rfl (s1 (ext rfl rfl) (s1 (ext rfl rfl) (sa rfl (sa rfl (sn (sr (sm rfl (c0 (ref18_Read_ok p0 _ hq150) wf rfl rfl rfl cb12 rfl (fun _ => rfl) (fun _ => rfl) (sm rfl ?_)))))))))
  refine s1 (ext rfl rfl) (s1 (ext rfl rfl) (sa rfl (sa rfl (sn (sq (SC.seqP h0 (fun y => ⟨mk 68 [(0, .d ((eL 2 eApiPair) p0)), (4, .d ((eL 5 eApiTable) r148)), (5, .d (eI r149)), (41, .d (eB y))], []⟩) ?_ ?_))))))
  ·intro u1_158 h1
   refine SC.region (sm rfl (sm rfl (s1 (bi rfl rfl q_i64_neq) (sm rfl (sp h1 (fun h1 => ?_) (fun h1 => ?_))))))
   ·have q := si h1; subst q
    refine kw rfl (kw rfl (kw rfl (kw rfl (s1 (pkt rfl rfl) (sm rfl (kw rfl (kw rfl (kw rfl (kw rfl ?_)))))))))
    exact s1 (pkt rfl rfl) (SO.nil ((wc [] [] (by kernel_rfl) rfl (by kernel_rfl))))
   ·obtain ⟨r160, hq159, h1⟩ := ob h1
    refine gw rfl (mv rfl) (gw rfl (mv rfl) (c0 (law18_same_ok r148 r151 _ hq159) (ww rfl) rfl rfl rfl cb13 rfl (fun _ => rfl) (fun _ => rfl) (gw rfl (nt rfl) (s1 (pkf rfl rfl) (sm rfl (sp h1 (fun h1 => ?_) (fun h1 => ?_)))))))
    ·have q := si h1; subst q
     exact kw rfl (kw rfl (kw rfl (kw rfl (s1 (pkt rfl rfl) (SO.nil ((wc [] [] (by kernel_rfl) rfl (by kernel_rfl))))))))
    ·obtain ⟨r162, hq161, h1⟩ := ob h1; have q := si h1; subst q
     exact gw rfl (mv rfl) (gw rfl (mv rfl) (cq (args' := [.slc 0 2 0 ((([] : List ApiPair) ++ p0).length) none, .d ((eL 2 eApiPair) p0)]) (σc := [.row 2 (List.map eApiPair (([] : List ApiPair) ++ p0)) false]) [1] [] (CallAt.frz (ArgF.frz (fF rfl rfl rfl) (ArgF.keep (ArgF.nil _))) (fq [] [] (raw_Pairs_ok (([] : List ApiPair) ++ p0) p0 _ hq161) rfl rfl rfl rfl rfl rfl rfl rfl)) (ww rfl) rfl rfl rfl cb9 rfl rfl rfl rfl rfl rfl rfl rfl (gw rfl (nt rfl) (s1 (pkf rfl rfl) (SO.nil ((wc [] [] (by kernel_rfl) rfl (by kernel_rfl))))))))
  ·rintro y157 h0
   refine cB h0 rfl (fun h0 => ?_) (fun h0 => ?_)
   ·have q := si h0; subst q
    exact sr (sa rfl (sn (SC.ret (finR (Wk.refl _) (lresT rfl lresN) rfl))))
   ·refine sk (sr (s1 (asg (v := .d .nils) rfl) (sn (SC.seqB h0 (fun y => ⟨mk 68 [(0, .d ((eL 2 eApiPair) p0)), (5, .d (eI r149)), (8, .slc 0 2 0 y.length none)], [.row 2 (List.map eApiPair y) true]⟩) ?_ ?_))))
    ·intro u1_186 h1 h0
     obtain ⟨u2_202, h2, h1⟩ := ob h1
     refine sr (sa rfl (sn (SC.blk (SC.loopB h2 (fun y => ⟨mk 68 [(0, .d ((eL 2 eApiPair) p0)), (4, .d ((eL 5 eApiTable) r148)), (5, .d (eI r149)), (8, .slc 0 2 0 y.1.length none), (9, .d (eI y.2))], [.row 2 (List.map eApiPair y.1) true]⟩) (Wk.trans (Wk.pushE (σ' := [.row 2 (List.map eApiPair ([] : List ApiPair)) true]) (.row 2 [] true) (fun _ hh => by cases hh) rfl) (Wk.trans (Wk.env (e' := [(0, .d ((eL 2 eApiPair) p0)), (4, .d ((eL 5 eApiTable) r148)), (5, .d (eI r149)), (8, .slc 0 2 0 (([] : List ApiPair).length) none), (9, .d (eI (0 : Int)))]) (EW.cons (AW.refl _) (EW.cons (AW.refl _) (EW.cons (AW.refl _) (EW.cons (AW.slcn _ _ _) (EW.cons (AW.refl _) EW.nil)))))) (wq rfl))) ?_))))
     intro n208
     rintro ⟨y192, y193⟩ w2_201 h3 hv3
     refine sq (sr (sm rfl (sm rfl (s1 (len rfl rfl rfl (len_lst un36)) (s1 (bi rfl rfl q_i64_lss) (sn (cB h3 rfl (fun h3 => ?_) (fun h3 => ?_))))))))
     ·obtain ⟨v203, hv203, h3⟩ := ob h3; obtain ⟨⟨r205, r206⟩, hq204, h3⟩ := ob h3
      refine sk (sq (SC.blk (sr (sm rfl (sm rfl (s1 (ial rfl rfl un36 ts26 (getI_some hv203).1 (map_get (getI_some hv203).2) rfl) (s1 (lod (v := .d (eApiTable v203)) rfl (ld_rop ts26 ta26 rfl)) (c0 (catalog_Pairs_ok v203 _ hq204) wf rfl rfl rfl cb7 rfl (fun _ => rfl) (fun _ => rfl) (sm rfl ?_)))))))))
      refine s1 (ext rfl rfl) (s1 (ext rfl rfl) (sa rfl (sa rfl (sn (sq (sr (sm rfl (s1 (bi rfl rfl q_i64_neq) (sn ?_)))))))))
      refine cB h3 rfl (fun h3 => ?_) (fun h3 => ?_)
      ·have q := si h3; subst q; have q : _ = _ := hv3; subst q; have q := si h1; subst q; have q := si h0; subst q
       exact sr (sa rfl (sn (SC.ret (finR (wc (e' := [(2, .d (eB false))]) [] [] (by kernel_rfl) rfl (by kernel_rfl)) (lresT rfl lresN) rfl))))
      ·obtain ⟨hg207, h3⟩ := gd h3
       refine sk (SC.region (sm rfl (sm rfl (s1 (app rfl rfl rfl rfl bc29 (aF (f := eApiPair) (xs := y192) (k := 1) rfl un29 ei49 rfl el_lst hg207 rfl)) (sa rfl (SO.nil ?_))))))
       change SC _ _ _ _ _
       have q := si h3; subst q
       exact SC.region (sm rfl (s1 (bi rfl rfl q_i64_add) (sa rfl (SO.nil (lf (wc [1] [1] (by kernel_rfl) rfl (by kernel_rfl)))))))
     ·have q := si h3; subst q; have q : _ = _ := hv3; subst q; have q := si h1; subst q
      exact SC.exit (lf (wq rfl))
    ·rintro y185 h0
     refine SC.seqP h0 (fun y => ⟨mk 68 [(2, .d (eB y))], []⟩) ?_ ?_
     ·intro u1_212 h1
      refine SC.region (sm rfl (s1 (bi rfl rfl q_i64_neq) (sm rfl (sp h1 (fun h1 => ?_) (fun h1 => ?_)))))
      ·have q := si h1; subst q
       exact kw rfl (kw rfl (kw rfl (s1 (pkt rfl rfl) (sa rfl (SO.nil ((wc [] [] (by kernel_rfl) rfl (by kernel_rfl))))))))
      ·obtain ⟨r214, hq213, h1⟩ := ob h1; have q := si h1; subst q
       exact gw rfl (mv rfl) (gw rfl (mv rfl) (cq (args' := [.slc 0 2 0 y185.length none, .d ((eL 2 eApiPair) p0)]) (σc := [.row 2 (List.map eApiPair y185) true]) [0] [] (CallAt.frz (ArgF.frz (fF rfl rfl rfl) (ArgF.keep (ArgF.nil _))) (fq [] [] (raw_Pairs_ok y185 p0 _ hq213) rfl rfl rfl rfl rfl rfl rfl rfl)) (ww rfl) rfl rfl rfl cb9 rfl rfl rfl rfl rfl rfl rfl rfl (s1 (pkf rfl rfl) (sa rfl (SO.nil ((wc [] [] (by kernel_rfl) rfl (by kernel_rfl))))))))
     ·rintro y211 h0
      have q := si h0; subst q
      exact SC.ret (finR (Wk.refl _) (lresT rfl lresN) rfl)
end Lv
