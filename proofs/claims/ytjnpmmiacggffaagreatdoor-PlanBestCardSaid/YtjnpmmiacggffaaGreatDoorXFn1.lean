/- Part of the proof of a law: functions and their walks. -/
import Derived.Test.YtjnpmmiacggffaaGreatDoorXFn0
namespace Lv
open Go Go.Proofs
set_option linter.unusedVariables false
set_option linter.unusedSimpArgs false
set_option linter.unusedSectionVars false
set_option maxRecDepth 100000
variable [BaseTab] [TabOk]
noncomputable def plan_Plans (p0 : ApiTable) (p1 : PlanQuery) : Option ((List PlanPlan)) :=
 Option.bind (key_Under ([] : List UInt8)) fun r635 =>
 Option.bind (α := (List ApiPart))
 (Option.bind (α := (List ApiPart))
 (loop (Y := (List ApiPart) × Int) (W := (List ApiPart)) (fun (y653, y654) =>
 bif (decide (y654 < (p0.Primary.length : Int))) then
 Option.bind (getI p0.Primary y654) fun v661 =>
 bif decide ((y653.length + [(ApiPart.mk v661 false)].length) * 16 ≤ room) then
 some (Sum.inl ((y653 ++ [(ApiPart.mk v661 false)]), (w64 (y654 + (1 : Int)))))
 else none
 else
 some (Sum.inr y653)) (([] : List ApiPart), (0 : Int)))
 (fun e => some e))
 fun y649 =>
 Option.bind (pred_Bounds y649 p1.Pred) fun (r665, r666, r667) =>
 Option.bind (α := (List PlanPlan))
 (Option.bind (α := Bool)
 (bif (decide (r665 > (0 : Int))) then
 some true
 else
 some r666)
 fun y675 =>
 bif y675 then
 Option.bind (plan_rows (PlanPlan.mk (-2 : Int) r667 r665 r666 false (0 : Int)) (r665 == (y649.length : Int))) fun r678 =>
 bif decide (([(PlanPlan.mk (-1 : Int) r635 (0 : Int) false false (2000 : Int))].length + [(PlanPlan.mk (-2 : Int) r667 r665 r666 false (w64 ((1 : Int) + (w64 ((2 : Int) * r678)))))].length) * 72 ≤ room) then
 some ([(PlanPlan.mk (-1 : Int) r635 (0 : Int) false false (2000 : Int))] ++ [(PlanPlan.mk (-2 : Int) r667 r665 r666 false (w64 ((1 : Int) + (w64 ((2 : Int) * r678)))))])
 else none
 else
 some [(PlanPlan.mk (-1 : Int) r635 (0 : Int) false false (2000 : Int))])
 fun y673 =>
 Option.bind (plan_Needs p1) fun r681 =>
 Option.bind (α := (List PlanPlan))
 (Option.bind (α := (List PlanPlan))
 (loop (Y := (List PlanPlan) × Int) (W := (List PlanPlan)) (fun (y859, y860) =>
 bif (decide (y860 < (p0.Indexes.length : Int))) then
 Option.bind (α := (List PlanPlan))
 (Option.bind (getI p0.Indexes y860) fun v929 =>
 bif (!v929.Ready) then
 some y859
 else
 Option.bind (plan_tells p0 v929 r681) fun r931 =>
 Option.bind (pred_Bounds v929.Parts p1.Pred) fun (r933, r934, r935) =>
 Option.bind (α := Int)
 (bif v929.Unique then
 Option.bind (plan_rows (PlanPlan.mk y860 r935 r933 r934 r931 (0 : Int)) (r933 == (v929.Parts.length : Int))) fun r943 =>
 some r943
 else
 Option.bind (plan_rows (PlanPlan.mk y860 r935 r933 r934 r931 (0 : Int)) false) fun r945 =>
 some r945)
 fun y940 =>
 Option.bind (α := PlanPlan)
 (bif r931 then
 some (PlanPlan.mk y860 r935 r933 r934 r931 (w64 ((1 : Int) + y940)))
 else
 some (PlanPlan.mk y860 r935 r933 r934 r931 (w64 ((2 : Int) + (w64 ((4 : Int) * y940))))))
 fun y946 =>
 bif decide ((y859.length + [y946].length) * 72 ≤ room) then
 some (y859 ++ [y946])
 else none)
 fun y927 =>
 some (Sum.inl (y927, (w64 (y860 + (1 : Int)))))
 else
 some (Sum.inr y859)) (y673, (0 : Int)))
 (fun e => some e))
 fun y815 =>
 some y815
theorem plan_Plans_ok (p0 : ApiTable) (p1 : PlanQuery) (r : (List PlanPlan)) (h0 : plan_Plans p0 p1 = some r) : CallAt Tryz.prog 13 [.d (eApiTable p0), .d (ePlanQuery p1)] [] (.d ((eL 8 ePlanPlan) r)) [] := by
 unfold plan_Plans at h0
 refine fn0 [0, 1] Tryz.func13 rfl rfl rfl rfl rfl ?_
 obtain ⟨r635, hq634, h0⟩ := ob h0
 refine sr (s1 (bxo (k := 0) rfl rfl rfl) (s1 (bxo (k := 1) rfl rfl rfl) (s1 (asg (v := .d .nils) rfl) (sn (sr (cq [] [2] (key_Under_ok ([] : List UInt8) _ hq634) wf rfl rfl rfl cb42 rfl rfl rfl rfl rfl rfl rfl rfl (s1 (bld rfl (bd52_0_1_5 (-1 : Int) r635 (2000 : Int))) (s1 (bsn (k := 3) (ds := List.map ePlanPlan [(PlanPlan.mk (-1 : Int) r635 (0 : Int) false false (2000 : Int))]) (off := 0) (l' := [(PlanPlan.mk (-1 : Int) r635 (0 : Int) false false (2000 : Int))].length) rfl un41 ei52 rfl rfl (by rfl) rfl rfl rfl) (sa rfl ?_)))))))))
 refine sn (sr (s1 (asg (v := .d .nils) rfl) (sn (SC.seqP h0 (fun y => ⟨mk 122 [(2, .ref 0 0 0), (3, .ref 1 0 0), (5, .slc 2 8 0 ([(PlanPlan.mk (-1 : Int) r635 (0 : Int) false false (2000 : Int))].length) none), (6, .slc 3 2 0 y.length none)], [.box (.d (eApiTable p0)), .box (.d (ePlanQuery p1)), .row 8 (List.map ePlanPlan [(PlanPlan.mk (-1 : Int) r635 (0 : Int) false false (2000 : Int))]) true, .row 2 (List.map eApiPart y) true]⟩) ?_ ?_))))
 ·intro u1_650 h1
  obtain ⟨u2_660, h2, h1⟩ := ob h1
  refine sr (s1 (far (k := 2) rfl fo26_2 ts23 rfl) (s1 (lod rfl (ld_box ts23 ta23 rfl rfl)) (s1 (len rfl rfl rfl (len_lst un23)) (sm rfl (sn (SC.blk (SC.loopB h2 (fun y => ⟨mk 122 [(2, .ref 0 0 0), (3, .ref 1 0 0), (5, .slc 2 8 0 ([(PlanPlan.mk (-1 : Int) r635 (0 : Int) false false (2000 : Int))].length) none), (6, .slc 3 2 0 y.1.length none), (19, .d ((eL 1 eI) p0.Primary)), (20, .d (eI (p0.Primary.length : Int))), (21, .d (eI y.2))], [.box (.d (eApiTable p0)), .box (.d (ePlanQuery p1)), .row 8 (List.map ePlanPlan [(PlanPlan.mk (-1 : Int) r635 (0 : Int) false false (2000 : Int))]) true, .row 2 (List.map eApiPart y.1) true]⟩) (Wk.trans (Wk.pushE (σ' := [.box (.d (eApiTable p0)), .box (.d (ePlanQuery p1)), .box (.d (eApiSpan r635)), .row 8 (List.map ePlanPlan [(PlanPlan.mk (-1 : Int) r635 (0 : Int) false false (2000 : Int))]) true, .row 2 (List.map eApiPart ([] : List ApiPart)) true]) (.row 2 [] true) (fun _ hh => by cases hh) rfl) (Wk.trans (Wk.env (e' := [(2, .ref 0 0 0), (3, .ref 1 0 0), (5, .slc 3 8 0 ([(PlanPlan.mk (-1 : Int) r635 (0 : Int) false false (2000 : Int))].length) none), (6, .slc 4 2 0 (([] : List ApiPart).length) none), (19, .d ((eL 1 eI) p0.Primary)), (20, .d (eI (p0.Primary.length : Int))), (21, .d (eI (0 : Int)))]) (EW.cons (AW.refl _) (EW.cons (AW.refl _) (EW.cons (AW.refl _) (EW.cons (AW.slcn _ _ _) (EW.cons (AW.refl _) (EW.cons (AW.refl _) (EW.cons (AW.refl _) EW.nil)))))))) (wc [0, 1, 3, 4] [0, 1, 3, 4] (by kernel_rfl) rfl (by kernel_rfl)))) ?_)))))))
  intro n663
  rintro ⟨y653, y654⟩ w2_659 h3 hv3
  refine sr (s1 (bi rfl rfl q_i64_lss) (sn (sq (cB h3 rfl (fun h3 => ?_) (fun h3 => ?_)))))
  ·obtain ⟨v661, hv661, h3⟩ := ob h3; obtain ⟨hg662, h3⟩ := gd h3
   refine sk (sq (SC.blk (sr (s1 (ial rfl rfl un23 ts3 (getI_some hv661).1 (map_get (getI_some hv661).2) rfl) (s1 (lod rfl (ld_rop ts3 ta3 rfl)) (sa rfl (sn (SC.region (sm rfl ?_)))))))))
   refine sm rfl (s1 (bld rfl (bd78_0 v661)) (s1 (bsn (k := 4) (ds := List.map eApiPart [(ApiPart.mk v661 false)]) (off := 0) (l' := [(ApiPart.mk v661 false)].length) rfl un28 ei78 rfl rfl (by rfl) rfl rfl rfl) (s1 (app rfl rfl rfl rfl bc28 (aF (f := eApiPart) (xs := y653) (k := 5) rfl un28 ei78 rfl (el_full (xs := [(ApiPart.mk v661 false)]) rfl) hg662 rfl)) (sa rfl (SO.nil ?_)))))
   change SC _ _ _ _ _
   have q := si h3; subst q
   exact SC.region (s1 (bi rfl rfl q_i64_add) (sm rfl (SO.nil (lf (wc [0, 1, 2, 5] [0, 1, 2, 5] (by kernel_rfl) rfl (by kernel_rfl))))))
  ·have q := si h3; subst q; have q : _ = _ := hv3; subst q; have q := si h1; subst q
   exact SC.exit ((wq rfl))
 ·rintro y649 h0
  obtain ⟨⟨r665, r666, r667⟩, hq664, h0⟩ := ob h0
  refine sr (s1 (bld rfl (bd52_0 (-2 : Int))) (s1 (alo (k := 4) zo52 rfl) (s0 (sto rfl rfl (sB (d' := .d (ePlanPlan (PlanPlan.mk (-2 : Int) (ApiSpan.mk ([] : List UInt8) ([] : List UInt8) false) (0 : Int) false false (0 : Int)))) ts52 rfl rfl rfl rfl rfl rfl rfl)) (sn (sr (sm rfl (s1 (far (k := 0) rfl fo30_0 ts27 rfl) (s1 (lod rfl (ld_box ts27 ta27 rfl rfl)) (cq (args' := [.slc 0 2 0 y649.length none, .d ((eL 6 ePredNode) p1.Pred)]) (σc := [.row 2 (List.map eApiPart y649) true]) [3] [5] (CallAt.frz (ArgF.frz (fF rfl rfl rfl) (ArgF.keep (ArgF.nil _))) (fq [] [1] (pred_Bounds_ok y649 p1.Pred _ hq664) rfl rfl rfl rfl rfl rfl rfl rfl)) wf rfl rfl rfl cb43 rfl rfl rfl rfl rfl rfl rfl rfl ?_)))))))))
  refine sm rfl (s1 (ext rfl rfl) (s1 (ext rfl rfl) (s1 (ext rfl rfl) (s1 (far (k := 1) rfl fo52_1 ts50 rfl) (s0 (sto rfl rfl (sB (d' := .d (ePlanPlan (PlanPlan.mk (-2 : Int) r667 (0 : Int) false false (0 : Int)))) ts50 rfl rfl rfl rfl rfl rfl rfl)) (s1 (far (k := 4) rfl fo52_2 ts3 rfl) (s0 (sto rfl rfl (sB (d' := .d (ePlanPlan (PlanPlan.mk (-2 : Int) r667 r665 false false (0 : Int)))) ts3 rfl rfl rfl rfl rfl rfl rfl)) (s1 (far (k := 5) rfl fo52_3 ts4 rfl) (s0 (sto rfl rfl (sB (d' := .d (ePlanPlan (PlanPlan.mk (-2 : Int) r667 r665 r666 false (0 : Int)))) ts4 rfl rfl rfl rfl rfl rfl rfl)) ?_)))))))))
  refine sn (SC.seqP h0 (fun y => ⟨mk 122 [(2, .ref 0 0 0), (3, .ref 1 0 0), (5, .slc 2 8 0 y.length none)], [.box (.d (eApiTable p0)), .box (.d (ePlanQuery p1)), .row 8 (List.map ePlanPlan y) true]⟩) ?_ ?_)
  ·intro u1_674 h1
   refine SC.seqP h1 (fun y => ⟨mk 122 [(2, .ref 0 0 0), (3, .ref 1 0 0), (5, .slc 2 8 0 ([(PlanPlan.mk (-1 : Int) r635 (0 : Int) false false (2000 : Int))].length) none), (6, .slc 3 2 0 y649.length none), (9, .ref 4 0 0), (49, .d (eB y))], [.box (.d (eApiTable p0)), .box (.d (ePlanQuery p1)), .row 8 (List.map ePlanPlan [(PlanPlan.mk (-1 : Int) r635 (0 : Int) false false (2000 : Int))]) true, .row 2 (List.map eApiPart y649) false, .box (.d (ePlanPlan (PlanPlan.mk (-2 : Int) r667 r665 r666 false (0 : Int))))]⟩) ?_ ?_
   ·intro u2_676 h2
    refine SC.region (s1 (far (k := 4) rfl fo52_2 ts3 rfl) (s1 (lod rfl (ld_box ts3 ta3 rfl rfl)) (s1 (bi rfl rfl q_i64_gtr) (sm rfl (sp h2 (fun h2 => ?_) (fun h2 => ?_))))))
    ·have q := si h2; subst q
     exact kw rfl (kw rfl (s1 (pkt rfl rfl) (SO.nil ((wc [0, 1, 2, 3, 4] [0, 1, 2, 3, 4] (by kernel_rfl) rfl (by kernel_rfl))))))
    ·have q := si h2; subst q
     exact gw rfl (far (k := 5) rfl fo52_3 ts4 rfl) (gw rfl (lod rfl (ld_box ts4 ta4 rfl rfl)) (s1 (pkf rfl rfl) (SO.nil ((wc [0, 1, 2, 3, 4] [0, 1, 2, 3, 4] (by kernel_rfl) rfl (by kernel_rfl))))))
   ·rintro y675 h1
    refine cB h1 rfl (fun h1 => ?_) (fun h1 => ?_)
    ·obtain ⟨r678, hq677, h1⟩ := ob h1; obtain ⟨hg679, h1⟩ := gd h1; have q := si h1; subst q
     refine sr (s1 (lod (v := .d (ePlanPlan (PlanPlan.mk (-2 : Int) r667 r665 r666 false (0 : Int)))) rfl (ld_box ts52 ta52 rfl rfl)) (s1 (far (k := 4) rfl fo52_2 ts3 rfl) (s1 (lod rfl (ld_box ts3 ta3 rfl rfl)) (sm rfl (s1 (len rfl rfl rfl (len_slc un28)) (s1 (bi rfl rfl q_i64_eql) (c0 (plan_rows_ok (PlanPlan.mk (-2 : Int) r667 r665 r666 false (0 : Int)) (r665 == (y649.length : Int)) _ hq677) wf rfl rfl rfl cb44 rfl (fun _ => rfl) (fun _ => rfl) (s1 (bi rfl rfl q_i64_mul) (s1 (bi rfl rfl q_i64_add) ?_)))))))))
     refine s1 (far (k := 7) rfl fo52_5 ts3 rfl) (s0 (sto rfl rfl (sB (d' := .d (ePlanPlan (PlanPlan.mk (-2 : Int) r667 r665 r666 false (w64 ((1 : Int) + (w64 ((2 : Int) * r678))))))) ts3 rfl rfl rfl rfl rfl rfl rfl)) (sn (SC.region (sm rfl (s1 (lod (v := .d (ePlanPlan (PlanPlan.mk (-2 : Int) r667 r665 r666 false (w64 ((1 : Int) + (w64 ((2 : Int) * r678))))))) rfl (ld_box ts52 ta52 rfl rfl)) (s1 (bsn (k := 5) (ds := List.map ePlanPlan [(PlanPlan.mk (-2 : Int) r667 r665 r666 false (w64 ((1 : Int) + (w64 ((2 : Int) * r678)))))]) (off := 0) (l' := [(PlanPlan.mk (-2 : Int) r667 r665 r666 false (w64 ((1 : Int) + (w64 ((2 : Int) * r678)))))].length) rfl un41 ei52 rfl rfl (by rfl) rfl rfl rfl) (s1 (app rfl rfl rfl rfl bc41 (aF (f := ePlanPlan) (xs := [(PlanPlan.mk (-1 : Int) r635 (0 : Int) false false (2000 : Int))]) (k := 6) rfl un41 ei52 rfl (el_full (xs := [(PlanPlan.mk (-2 : Int) r667 r665 r666 false (w64 ((1 : Int) + (w64 ((2 : Int) * r678)))))]) rfl) hg679 rfl)) (sa rfl (SO.nil ?_)))))))))
     exact (wc [0, 1, 6] [0, 1, 6] (by kernel_rfl) rfl (by kernel_rfl))
    ·have q := si h1; subst q
     exact SC.skip ((wc [0, 1, 2] [0, 1, 2] (by kernel_rfl) rfl (by kernel_rfl)))
  ·rintro y673 h0
   obtain ⟨r681, hq680, h0⟩ := ob h0
   refine sr (s1 (lod (v := .d (ePlanQuery p1)) rfl (ld_box ts30 ta30 rfl rfl)) (c0 (plan_Needs_ok p1 _ hq680) wf rfl rfl rfl cb16 rfl (fun _ => rfl) (fun _ => rfl) (sa rfl (sn (SC.seqP h0 (fun y => ⟨mk 122 [(5, .slc 0 8 0 y.length none)], [.row 8 (List.map ePlanPlan y) true]⟩) ?_ ?_)))))
   ·intro u1_816 h1
    obtain ⟨u2_906, h2, h1⟩ := ob h1
    refine sr (s1 (far (k := 3) rfl fo26_3 ts24 rfl) (s1 (lod rfl (ld_box ts24 ta24 rfl rfl)) (s1 (len rfl rfl rfl (len_lst un24)) (sm rfl (sn (SC.blk (SC.loopB h2 (fun y => ⟨mk 122 [(2, .ref 0 0 0), (3, .ref 1 0 0), (5, .slc 2 8 0 y.1.length none), (10, .d ((eL 1 eI) r681)), (67, .d ((eL 6 eApiIndex) p0.Indexes)), (68, .d (eI (p0.Indexes.length : Int))), (69, .d (eI y.2))], [.box (.d (eApiTable p0)), .box (.d (ePlanQuery p1)), .row 8 (List.map ePlanPlan y.1) true]⟩) (wq rfl) ?_)))))))
    intro n949
    rintro ⟨y859, y860⟩ w2_905 h3 hv3
    refine sr (s1 (bi rfl rfl q_i64_lss) (sn (sq (cB h3 rfl (fun h3 => ?_) (fun h3 => ?_)))))
    ·refine sk (SC.seqP h3 (fun y => ⟨mk 122 [(2, .ref 0 0 0), (3, .ref 1 0 0), (5, .slc 2 8 0 y.length none), (10, .d ((eL 1 eI) r681)), (67, .d ((eL 6 eApiIndex) p0.Indexes)), (68, .d (eI (p0.Indexes.length : Int))), (69, .d (eI y860))], [.box (.d (eApiTable p0)), .box (.d (ePlanQuery p1)), .row 8 (List.map ePlanPlan y) true]⟩) ?_ ?_)
     ·intro u4_928 h4
      obtain ⟨v929, hv929, h4⟩ := ob h4
      refine SC.blk (sr (sm rfl (s1 (ial rfl rfl un24 ts60 (getI_some hv929).1 (map_get (getI_some hv929).2) rfl) (s1 (lod (v := .d (eApiIndex v929)) rfl (ld_rop ts60 ta60 rfl)) (s1 (alo (k := 3) zo60 rfl) (sa rfl (s0 (sto rfl rfl (sB (d' := .d (eApiIndex v929)) ts60 rfl rfl rfl rfl rfl rfl rfl)) (sn (sq ?_)))))))))
      refine sr (s1 (far (k := 4) rfl fo60_4 ts4 rfl) (s1 (lod rfl (ld_box ts4 ta4 rfl rfl)) (s1 (nt rfl) (sn (cB h4 rfl (fun h4 => ?_) (fun h4 => ?_))))))
      ·have q := si h4; subst q
       exact SC.exit ((wc [0, 1, 2] [0, 1, 2] (by kernel_rfl) rfl (by kernel_rfl)))
      ·obtain ⟨r931, hq930, h4⟩ := ob h4; obtain ⟨⟨r933, r934, r935⟩, hq932, h4⟩ := ob h4
       refine sk (sr (sm rfl (s1 (lod (v := .d (eApiTable p0)) rfl (ld_box ts26 ta26 rfl rfl)) (s1 (lod (v := .d (eApiIndex v929)) rfl (ld_box ts60 ta60 rfl rfl)) (sm rfl (c0 (plan_tells_ok p0 v929 r681 _ hq930) wf rfl rfl rfl cb45 rfl (fun _ => rfl) (fun _ => rfl) (s1 (bld rfl (bd52_0_4 y860 r931)) (s1 (alo (k := 4) zo52 rfl) (s0 (sto rfl rfl (sB (d' := .d (ePlanPlan (PlanPlan.mk y860 (ApiSpan.mk ([] : List UInt8) ([] : List UInt8) false) (0 : Int) false r931 (0 : Int)))) ts52 rfl rfl rfl rfl rfl rfl rfl)) ?_)))))))))
       refine sn (sr (s1 (far (k := 1) rfl fo60_1 ts28 rfl) (s1 (lod rfl (ld_box ts28 ta28 rfl rfl)) (s1 (far (k := 0) rfl fo30_0 ts27 rfl) (s1 (lod rfl (ld_box ts27 ta27 rfl rfl)) (cq [] [5] (pred_Bounds_ok v929.Parts p1.Pred _ hq932) wf rfl rfl rfl cb43 rfl rfl rfl rfl rfl rfl rfl rfl (sm rfl (s1 (ext rfl rfl) (s1 (ext rfl rfl) ?_)))))))))
       refine s1 (ext rfl rfl) (s1 (far (k := 1) rfl fo52_1 ts50 rfl) (s0 (sto rfl rfl (sB (d' := .d (ePlanPlan (PlanPlan.mk y860 r935 (0 : Int) false r931 (0 : Int)))) ts50 rfl rfl rfl rfl rfl rfl rfl)) (s1 (far (k := 4) rfl fo52_2 ts3 rfl) (s0 (sto rfl rfl (sB (d' := .d (ePlanPlan (PlanPlan.mk y860 r935 r933 false r931 (0 : Int)))) ts3 rfl rfl rfl rfl rfl rfl rfl)) (s1 (far (k := 5) rfl fo52_3 ts4 rfl) (s0 (sto rfl rfl (sB (d' := .d (ePlanPlan (PlanPlan.mk y860 r935 r933 r934 r931 (0 : Int)))) ts4 rfl rfl rfl rfl rfl rfl rfl)) (sn (SC.seqP h4 (fun y => ⟨mk 122 [(2, .ref 0 0 0), (3, .ref 1 0 0), (5, .slc 2 8 0 y859.length none), (10, .d ((eL 1 eI) r681)), (13, .ref 3 0 0), (14, .d (eI y)), (67, .d ((eL 6 eApiIndex) p0.Indexes)), (68, .d (eI (p0.Indexes.length : Int))), (69, .d (eI y860))], [.box (.d (eApiTable p0)), .box (.d (ePlanQuery p1)), .row 8 (List.map ePlanPlan y859) true, .box (.d (ePlanPlan (PlanPlan.mk y860 r935 r933 r934 r931 (0 : Int))))]⟩) ?_ ?_))))))))
       ·intro u5_941 h5
        refine SC.region (s1 (lod (v := .d (ePlanPlan (PlanPlan.mk y860 r935 r933 r934 r931 (0 : Int)))) rfl (ld_box ts52 ta52 rfl rfl)) (s1 (far (k := 3) rfl fo60_3 ts4 rfl) (s1 (lod rfl (ld_box ts4 ta4 rfl rfl)) (sm rfl (sp h5 (fun h5 => ?_) (fun h5 => ?_))))))
        ·obtain ⟨r943, hq942, h5⟩ := ob h5; have q := si h5; subst q
         refine gw rfl (far (k := 4) rfl fo52_2 ts3 rfl) (gw rfl (lod rfl (ld_box ts3 ta3 rfl rfl)) (gw rfl (far (k := 1) rfl fo60_1 ts28 rfl) (gw rfl (lod rfl (ld_box ts28 ta28 rfl rfl)) (gw rfl (len rfl rfl rfl (len_lst un28)) (gw rfl (bi rfl rfl q_i64_eql) (s1 (pkt rfl rfl) (c0 (plan_rows_ok (PlanPlan.mk y860 r935 r933 r934 r931 (0 : Int)) (r933 == (v929.Parts.length : Int)) _ hq942) wf rfl rfl rfl cb44 rfl (fun _ => rfl) (fun _ => rfl) (sa rfl (SO.nil ?_)))))))))
         exact (wc [0, 1, 2, 4] [0, 1, 2, 4] (by kernel_rfl) rfl (by kernel_rfl))
        ·obtain ⟨r945, hq944, h5⟩ := ob h5; have q := si h5; subst q
         refine kw rfl (kw rfl (kw rfl (kw rfl (kw rfl (kw rfl (s1 (pkf rfl rfl) (c0 (plan_rows_ok (PlanPlan.mk y860 r935 r933 r934 r931 (0 : Int)) false _ hq944) wf rfl rfl rfl cb44 rfl (fun _ => rfl) (fun _ => rfl) (sa rfl (SO.nil ?_)))))))))
         exact (wc [0, 1, 2, 4] [0, 1, 2, 4] (by kernel_rfl) rfl (by kernel_rfl))
       ·rintro y940 h4
        refine SC.seqP h4 (fun y => ⟨mk 122 [(2, .ref 0 0 0), (3, .ref 1 0 0), (5, .slc 2 8 0 y859.length none), (10, .d ((eL 1 eI) r681)), (13, .ref 3 0 0), (67, .d ((eL 6 eApiIndex) p0.Indexes)), (68, .d (eI (p0.Indexes.length : Int))), (69, .d (eI y860))], [.box (.d (eApiTable p0)), .box (.d (ePlanQuery p1)), .row 8 (List.map ePlanPlan y859) true, .box (.d (ePlanPlan y))]⟩) ?_ ?_
        ·intro u5_947 h5
         refine sr (s1 (far (k := 6) rfl fo52_4 ts4 rfl) (s1 (lod rfl (ld_box ts4 ta4 rfl rfl)) (sn (cB h5 rfl (fun h5 => ?_) (fun h5 => ?_)))))
         ·have q := si h5; subst q
          exact SC.region (sm rfl (s1 (bi rfl rfl q_i64_add) (s1 (far (k := 7) rfl fo52_5 ts3 rfl) (s0 (sto rfl rfl (sB (d' := .d (ePlanPlan (PlanPlan.mk y860 r935 r933 r934 r931 (w64 ((1 : Int) + y940))))) ts3 rfl rfl rfl rfl rfl rfl rfl)) (SO.nil ((wq rfl)))))))
         ·have q := si h5; subst q
          exact SC.region (sm rfl (s1 (bi rfl rfl q_i64_mul) (s1 (bi rfl rfl q_i64_add) (s1 (far (k := 7) rfl fo52_5 ts3 rfl) (s0 (sto rfl rfl (sB (d' := .d (ePlanPlan (PlanPlan.mk y860 r935 r933 r934 r931 (w64 ((2 : Int) + (w64 ((4 : Int) * y940))))))) ts3 rfl rfl rfl rfl rfl rfl rfl)) (SO.nil ((wq rfl))))))))
        ·rintro y946 h4
         obtain ⟨hg948, h4⟩ := gd h4; have q := si h4; subst q
         exact SC.region (sm rfl (s1 (lod (v := .d (ePlanPlan y946)) rfl (ld_box ts52 ta52 rfl rfl)) (s1 (bsn (k := 4) (ds := List.map ePlanPlan [y946]) (off := 0) (l' := [y946].length) rfl un41 ei52 rfl rfl (by rfl) rfl rfl rfl) (s1 (app rfl rfl rfl rfl bc41 (aF (f := ePlanPlan) (xs := y859) (k := 5) rfl un41 ei52 rfl (el_full (xs := [y946]) rfl) hg948 rfl)) (sa rfl (SO.nil ((wc [0, 1, 5] [0, 1, 5] (by kernel_rfl) rfl (by kernel_rfl)))))))))
     ·rintro y927 h3
      have q := si h3; subst q
      exact SC.region (s1 (bi rfl rfl q_i64_add) (sm rfl (SO.nil (lf (wq rfl)))))
    ·have q := si h3; subst q; have q : _ = _ := hv3; subst q; have q := si h1; subst q
     exact SC.exit ((wc [2] [2] (by kernel_rfl) rfl (by kernel_rfl)))
   ·rintro y815 h0
    have q := si h0; subst q
    exact sr (sm rfl (sa rfl (sn (SC.ret (finR (Wk.trans (Wk.frz (i := 4) (x := .slc 0 8 0 y815.length none) rfl rfl (fF rfl rfl rfl)) (wc (e' := [(4, .d ((eL 8 ePlanPlan) y815))]) [] [] (by kernel_rfl) rfl (by kernel_rfl))) (lresT rfl lresN) rfl)))))
noncomputable def pred_Node_form (p0 : PredNode) (p1 : Int) : Option Bool :=
 bif (p0.Kind == (2 : Int)) then
 Option.bind (α := Bool)
 (bif (decide (p0.Col ≥ (0 : Int))) then
 bif (decide (p0.Col < p1)) then
 bif (decide (p0.Op ≥ (1 : Int))) then
 some (decide (p0.Op ≤ (6 : Int)))
 else
 some false
 else
 some false
 else
 some false)
 fun y14 =>
 some y14
 else
 bif (p0.Kind == (3 : Int)) then
 Option.bind (α := Bool)
 (bif (decide (p0.Col ≥ (0 : Int))) then
 bif (decide (p0.Col < p1)) then
 bif (p0.Op == (0 : Int)) then
 some (eqApiValue p0.Val (ApiValue.mk (0 : Int) (0 : UInt64) ([] : List UInt8)))
 else
 some false
 else
 some false
 else
 some false)
 fun y16 =>
 some y16
 else
 Option.bind (α := Bool)
 (bif (p0.Kind == (1 : Int)) then
 some (p0.Kind == (1 : Int))
 else
 bif (p0.Kind == (4 : Int)) then
 some (p0.Kind == (4 : Int))
 else
 bif (p0.Kind == (5 : Int)) then
 some (p0.Kind == (5 : Int))
 else
 some (p0.Kind == (6 : Int)))
 fun y18 =>
 bif y18 then
 some (eqPredNode p0 (PredNode.mk p0.Kind (0 : Int) (0 : Int) (ApiValue.mk (0 : Int) (0 : UInt64) ([] : List UInt8))))
 else
 some false
theorem pred_Node_form_ok (p0 : PredNode) (p1 : Int) (r : Bool) (h0 : pred_Node_form p0 p1 = some r) : CallAt Tryz.prog 65 [.d (ePredNode p0), .d (eI p1)] [] (.d (eB r)) [] := by
 unfold pred_Node_form at h0
 refine fn0 [0, 1] Tryz.func65 rfl rfl rfl rfl rfl ?_
 refine sr (s1 (bxo (k := 0) rfl rfl rfl) (sa rfl (sn (sq (sr (s1 (far (k := 0) rfl fo80_0 ts3 rfl) (s1 (lod rfl (ld_box ts3 ta3 rfl rfl)) (sn (SC.blk ?_)))))))))
 refine sr (s1 (bi rfl rfl q_i64_eql) (sa rfl (sn (cB h0 rfl (fun h0 => ?_) (fun h0 => ?_)))))
 ·refine SC.seqP h0 (fun y => ⟨mk 60 [(4, .d (eB y))], []⟩) ?_ ?_
  ·intro u1_15 h1
   refine SC.region (s1 (far (k := 1) rfl fo80_1 ts3 rfl) (s1 (lod rfl (ld_box ts3 ta3 rfl rfl)) (s1 (bi rfl rfl q_i64_geq) (sm rfl (sp h1 (fun h1 => ?_) (fun h1 => ?_))))))
   ·refine gw rfl (far (k := 1) rfl fo80_1 ts3 rfl) (gw rfl (lod rfl (ld_box ts3 ta3 rfl rfl)) (gw rfl (mv rfl) (gw rfl (bi rfl rfl q_i64_lss) (s1 (pkt rfl rfl) (sm rfl (sp h1 (fun h1 => ?_) (fun h1 => ?_)))))))
    ·refine gw rfl (far (k := 2) rfl fo80_2 ts3 rfl) (gw rfl (lod rfl (ld_box ts3 ta3 rfl rfl)) (gw rfl (bi rfl rfl q_i64_geq) (s1 (pkt rfl rfl) (sm rfl (sp h1 (fun h1 => ?_) (fun h1 => ?_))))))
     ·have q := si h1; subst q
      exact gw rfl (far (k := 2) rfl fo80_2 ts3 rfl) (gw rfl (lod rfl (ld_box ts3 ta3 rfl rfl)) (gw rfl (bi rfl rfl q_i64_leq) (s1 (pkt rfl rfl) (sa rfl (SO.nil ((wc [] [] (by kernel_rfl) rfl (by kernel_rfl))))))))
     ·have q := si h1; subst q
      exact kw rfl (kw rfl (kw rfl (s1 (pkf rfl rfl) (sa rfl (SO.nil ((wc [] [] (by kernel_rfl) rfl (by kernel_rfl))))))))
    ·have q := si h1; subst q
     refine kw rfl (kw rfl (kw rfl (s1 (pkf rfl rfl) (sm rfl (kw rfl (kw rfl (kw rfl (s1 (pkf rfl rfl) (sa rfl ?_)))))))))
     exact SO.nil ((wc [] [] (by kernel_rfl) rfl (by kernel_rfl)))
   ·have q := si h1; subst q
    refine kw rfl (kw rfl (kw rfl (kw rfl (s1 (pkf rfl rfl) (sm rfl (kw rfl (kw rfl (kw rfl (s1 (pkf rfl rfl) ?_)))))))))
    exact sm rfl (kw rfl (kw rfl (kw rfl (s1 (pkf rfl rfl) (sa rfl (SO.nil ((wc [] [] (by kernel_rfl) rfl (by kernel_rfl)))))))))
  ·rintro y14 h0
   have q := si h0; subst q
   exact SC.ret (finR (Wk.refl _) (lresT rfl lresN) rfl)
 ·refine sr (s1 (bi rfl rfl q_i64_eql) (sa rfl (sn (cB h0 rfl (fun h0 => ?_) (fun h0 => ?_)))))
  ·refine SC.seqP h0 (fun y => ⟨mk 60 [(4, .d (eB y))], []⟩) ?_ ?_
   ·intro u1_17 h1
    refine SC.region (s1 (far (k := 1) rfl fo80_1 ts3 rfl) (s1 (lod rfl (ld_box ts3 ta3 rfl rfl)) (s1 (bi rfl rfl q_i64_geq) (sm rfl (sp h1 (fun h1 => ?_) (fun h1 => ?_))))))
    ·refine gw rfl (far (k := 1) rfl fo80_1 ts3 rfl) (gw rfl (lod rfl (ld_box ts3 ta3 rfl rfl)) (gw rfl (mv rfl) (gw rfl (bi rfl rfl q_i64_lss) (s1 (pkt rfl rfl) (sm rfl (sp h1 (fun h1 => ?_) (fun h1 => ?_)))))))
     ·refine gw rfl (far (k := 2) rfl fo80_2 ts3 rfl) (gw rfl (lod rfl (ld_box ts3 ta3 rfl rfl)) (gw rfl (bi rfl rfl q_i64_eql) (s1 (pkt rfl rfl) (sm rfl (sp h1 (fun h1 => ?_) (fun h1 => ?_))))))
      ·have q := si h1; subst q
       exact gw rfl (far (k := 3) rfl fo80_3 ts74 rfl) (gw rfl (lod (v := .d (eApiValue p0.Val)) rfl (ld_box ts74 ta74 rfl rfl)) (gw rfl (bld rfl (bd74_ )) (gw rfl (bi (v := .d (eB (eqApiValue p0.Val (ApiValue.mk (0 : Int) (0 : UInt64) ([] : List UInt8))))) rfl rfl (fun X Y => eqApiValue_eql_74 X Y p0.Val (ApiValue.mk (0 : Int) (0 : UInt64) ([] : List UInt8)))) (s1 (pkt rfl rfl) (sa rfl (SO.nil ((wc [] [] (by kernel_rfl) rfl (by kernel_rfl)))))))))
      ·have q := si h1; subst q
       exact kw rfl (kw rfl (kw rfl (kw rfl (s1 (pkf rfl rfl) (sa rfl (SO.nil ((wc [] [] (by kernel_rfl) rfl (by kernel_rfl)))))))))
     ·have q := si h1; subst q
      refine kw rfl (kw rfl (kw rfl (s1 (pkf rfl rfl) (sm rfl (kw rfl (kw rfl (kw rfl (kw rfl (s1 (pkf rfl rfl) ?_)))))))))
      exact sa rfl (SO.nil ((wc [] [] (by kernel_rfl) rfl (by kernel_rfl))))
    ·have q := si h1; subst q
     refine kw rfl (kw rfl (kw rfl (kw rfl (s1 (pkf rfl rfl) (sm rfl (kw rfl (kw rfl (kw rfl (s1 (pkf rfl rfl) ?_)))))))))
     exact sm rfl (kw rfl (kw rfl (kw rfl (kw rfl (s1 (pkf rfl rfl) (sa rfl (SO.nil ((wc [] [] (by kernel_rfl) rfl (by kernel_rfl))))))))))
   ·rintro y16 h0
    have q := si h0; subst q
    exact SC.ret (finR (Wk.refl _) (lresT rfl lresN) rfl)
  ·refine SC.seqP h0 (fun y => ⟨mk 60 [(2, .ref 0 0 0), (50, .d (eB y))], [.box (.d (ePredNode p0))]⟩) ?_ ?_
   ·intro u1_19 h1
    refine sr (s1 (bi rfl rfl q_i64_eql) (sa rfl (sn (cB h1 rfl (fun h1 => ?_) (fun h1 => ?_)))))
    ·have q := si h1; subst q
     exact SC.skip ((wq rfl))
    ·refine sr (s1 (bi rfl rfl q_i64_eql) (sa rfl (sn (cB h1 rfl (fun h1 => ?_) (fun h1 => ?_)))))
     ·have q := si h1; subst q
      exact SC.skip ((wq rfl))
     ·refine sr (s1 (bi rfl rfl q_i64_eql) (sa rfl (sn (cB h1 rfl (fun h1 => ?_) (fun h1 => ?_)))))
      ·have q := si h1; subst q
       exact SC.skip ((wq rfl))
      ·have q := si h1; subst q
       exact SC.region (s1 (bi rfl rfl q_i64_eql) (sa rfl (SO.nil ((wq rfl)))))
   ·rintro y18 h0
    refine cB h0 rfl (fun h0 => ?_) (fun h0 => ?_)
    ·have q := si h0; subst q
     exact sr (s1 (lod (v := .d (ePredNode p0)) rfl (ld_box ts80 ta80 rfl rfl)) (s1 (far (k := 0) rfl fo80_0 ts3 rfl) (s1 (lod rfl (ld_box ts3 ta3 rfl rfl)) (s1 (bld rfl (bd80_0 p0.Kind)) (s1 (bi (v := .d (eB (eqPredNode p0 (PredNode.mk p0.Kind (0 : Int) (0 : Int) (ApiValue.mk (0 : Int) (0 : UInt64) ([] : List UInt8)))))) rfl rfl (fun X Y => eqPredNode_eql_80 X Y p0 (PredNode.mk p0.Kind (0 : Int) (0 : Int) (ApiValue.mk (0 : Int) (0 : UInt64) ([] : List UInt8))))) (sa rfl (sn (SC.ret (finR (wc (e' := [(4, .d (eB (eqPredNode p0 (PredNode.mk p0.Kind (0 : Int) (0 : Int) (ApiValue.mk (0 : Int) (0 : UInt64) ([] : List UInt8))))))]) [] [] (by kernel_rfl) rfl (by kernel_rfl)) (lresT rfl lresN) rfl)))))))))
    ·refine SC.skip ?_
     change SC _ _ _ _ _
     have q := si h0; subst q
     exact sr (sa rfl (sn (SC.ret (finR (wc (e' := [(4, .d (eB false))]) [] [] (by kernel_rfl) rfl (by kernel_rfl)) (lresT rfl lresN) rfl))))
noncomputable def pred_Check (p0 : List ApiColumn) (p1 : List PredNode) : Option Int :=
 bif (decide ((p1.length : Int) > (200 : Int))) then
 some (7 : Int)
 else
 bindE (Y := (List Int)) (E := Int)
 (Option.bind (α := ((List Int)) ⊕ Int)
 (loop (Y := (List Int) × Int) (W := ((List Int)) ⊕ Int) (fun (y1287, y1288) =>
 bif (decide (y1288 < (p1.length : Int))) then
 bindE (Y := (List Int)) (E := Int)
 (Option.bind (getI p1 y1288) fun v1429 =>
 Option.bind (pred_Node_takes v1429) fun r1431 =>
 Option.bind (α := Bool)
 (Option.bind (pred_Node_form v1429 (p0.length : Int)) fun r1437 =>
 bif (!r1437) then
 some true
 else
 some (decide ((w64 ((y1287.length : Int) - r1431)) < (0 : Int))))
 fun y1434 =>
 bif y1434 then
 some (Sum.inr (1 : Int))
 else
 Option.bind (α := Bool)
 (bif (v1429.Kind == (2 : Int)) then
 Option.bind (value_Valid v1429.Val) fun r1444 =>
 bif (!r1444) then
 some true
 else
 bif (v1429.Val.Kind == (0 : Int)) then
 some true
 else
 Option.bind (getI p0 v1429.Col) fun v1445 =>
 some (v1429.Val.Kind != v1445.Kind)
 else
 some false)
 fun y1441 =>
 bif y1441 then
 some (Sum.inr (8 : Int))
 else
 Option.bind (α := Int)
 (bif decide (0 ≤ (w64 ((y1287.length : Int) - r1431)) ∧ (w64 ((y1287.length : Int) - r1431)) ≤ (y1287.length : Int)) then
 Option.bind (α := Int)
 (loop (Y := Int × Int) (W := Int) (fun (y1461, y1462) =>
 bif (decide (y1462 < ((y1287.length - (w64 ((y1287.length : Int) - r1431)).toNat : Nat) : Int))) then
 Option.bind (getS y1287 (0 + (w64 ((y1287.length : Int) - r1431)).toNat) (y1287.length - (w64 ((y1287.length : Int) - r1431)).toNat) y1462) fun v1468 =>
 some (Sum.inl ((max y1461 v1468), (w64 (y1462 + (1 : Int)))))
 else
 some (Sum.inr y1461)) ((0 : Int), (0 : Int)))
 (fun e => some e)
 else none)
 fun y1457 =>
 bif decide (0 ≤ (w64 ((y1287.length : Int) - r1431)) ∧ (w64 ((y1287.length : Int) - r1431)) ≤ (y1287.length : Int)) then
 bif decide (0 + ((w64 ((y1287.length : Int) - r1431)).toNat) ≤ y1287.length) then
 bif decide ((((w64 ((y1287.length : Int) - r1431)).toNat) + [(w64 (y1457 + (1 : Int)))].length) * 8 ≤ room) then
 some (Sum.inl (List.take ((w64 ((y1287.length : Int) - r1431)).toNat) (List.drop 0 y1287) ++ [(w64 (y1457 + (1 : Int)))]))
 else none
 else none
 else none)
 (fun y1427 =>
 some (Sum.inl (y1427, (w64 (y1288 + (1 : Int))))))
 (fun e => some (Sum.inr (Sum.inr e)))
 else
 some (Sum.inr (Sum.inl y1287))) (([] : List Int), (0 : Int)))
 (Sum.elim (fun e => some (Sum.inl e)) (fun e => some (Sum.inr e))))
 (fun y1228 =>
 bif ((y1228.length : Int) != (1 : Int)) then
 some (1 : Int)
 else
 Option.bind (getI y1228 (0 : Int)) fun v1474 =>
 bif (decide (v1474 > (24 : Int))) then
 some (7 : Int)
 else
 some (0 : Int))
 (fun e => some e)
theorem pred_Check_ok (p0 : List ApiColumn) (p1 : List PredNode) (r : Int) (h0 : pred_Check p0 p1 = some r) : CallAt Tryz.prog 33 [.d ((eL 7 eApiColumn) p0), .d ((eL 6 ePredNode) p1)] [] (.d (eI r)) [] := by
 unfold pred_Check at h0
 refine fn0 [0, 1] Tryz.func33 rfl rfl rfl rfl rfl ?_
 refine sr (sa rfl (sn (sq (sr (sm rfl (s1 (len rfl rfl rfl (len_lst un27)) (s1 (bi rfl rfl q_i64_gtr) (sn (cB h0 rfl (fun h0 => ?_) (fun h0 => ?_))))))))))
 ·have q := si h0; subst q
  exact sr (sa rfl (sn (SC.ret (finR (Wk.refl _) (lresT rfl lresN) rfl))))
 ·refine sk (sr (s1 (asg (v := .d .nils) rfl) (sn (SC.seqB h0 (fun y => ⟨mk 91 [(5, .slc 0 1 0 y.length none)], [.row 1 (List.map eI y) true]⟩) ?_ ?_))))
  ·intro u1_1229 h1 h0
   obtain ⟨u2_1382, h2, h1⟩ := ob h1
   refine sr (sm rfl (s1 (len rfl rfl rfl (len_lst un27)) (sm rfl (sn (SC.blk (SC.loopB h2 (fun y => ⟨mk 91 [(0, .d ((eL 7 eApiColumn) p0)), (5, .slc 0 1 0 y.1.length none), (15, .d ((eL 6 ePredNode) p1)), (16, .d (eI (p1.length : Int))), (17, .d (eI y.2))], [.row 1 (List.map eI y.1) true]⟩) (Wk.trans (Wk.pushE (σ' := [.row 1 (List.map eI ([] : List Int)) true]) (.row 1 [] true) (fun _ hh => by cases hh) rfl) (Wk.trans (Wk.env (e' := [(0, .d ((eL 7 eApiColumn) p0)), (5, .slc 0 1 0 (([] : List Int).length) none), (15, .d ((eL 6 ePredNode) p1)), (16, .d (eI (p1.length : Int))), (17, .d (eI (0 : Int)))]) (EW.cons (AW.refl _) (EW.cons (AW.slcn _ _ _) (EW.cons (AW.refl _) (EW.cons (AW.refl _) (EW.cons (AW.refl _) EW.nil)))))) (wq rfl))) ?_))))))
   intro n1473
   rintro ⟨y1287, y1288⟩ w2_1381 h3 hv3
   refine sr (s1 (bi rfl rfl q_i64_lss) (sn (sq (cB h3 rfl (fun h3 => ?_) (fun h3 => ?_)))))
   ·refine sk (SC.seqB h3 (fun y => ⟨mk 91 [(0, .d ((eL 7 eApiColumn) p0)), (5, .slc 0 1 0 y.length none), (15, .d ((eL 6 ePredNode) p1)), (16, .d (eI (p1.length : Int))), (17, .d (eI y1288))], [.row 1 (List.map eI y) true]⟩) ?_ ?_)
    ·intro u4_1428 h4 h3
     obtain ⟨v1429, hv1429, h4⟩ := ob h4; obtain ⟨r1431, hq1430, h4⟩ := ob h4
     refine SC.blk (sr (s1 (ial rfl rfl un27 ts80 (getI_some hv1429).1 (map_get (getI_some hv1429).2) rfl) (s1 (lod (v := .d (ePredNode v1429)) rfl (ld_rop ts80 ta80 rfl)) (s1 (alo (k := 1) zo80 rfl) (s0 (sto rfl rfl (sB (d' := .d (ePredNode v1429)) ts80 rfl rfl rfl rfl rfl rfl rfl)) (sn (sr (sm rfl (s1 (len rfl rfl rfl (len_slc un23)) ?_)))))))))
     refine s1 (lod (v := .d (ePredNode v1429)) rfl (ld_box ts80 ta80 rfl rfl)) (c0 (pred_Node_takes_ok v1429 _ hq1430) wf rfl rfl rfl cb57 rfl (fun _ => rfl) (fun _ => rfl) (s1 (bi rfl rfl q_i64_sub) (sa rfl (sn (sq (SC.seqP h4 (fun y => ⟨mk 91 [(0, .d ((eL 7 eApiColumn) p0)), (5, .slc 0 1 0 y1287.length none), (7, .ref 1 0 0), (8, .d (eI (w64 ((y1287.length : Int) - r1431)))), (15, .d ((eL 6 ePredNode) p1)), (16, .d (eI (p1.length : Int))), (17, .d (eI y1288)), (34, .d (eB y))], [.row 1 (List.map eI y1287) true, .box (.d (ePredNode v1429))]⟩) ?_ ?_))))))
     ·intro u5_1435 h5
      obtain ⟨r1437, hq1436, h5⟩ := ob h5
      refine SC.region (s1 (lod (v := .d (ePredNode v1429)) rfl (ld_box ts80 ta80 rfl rfl)) (sm rfl (s1 (len rfl rfl rfl (len_lst un22)) (c0 (pred_Node_form_ok v1429 (p0.length : Int) _ hq1436) wf rfl rfl rfl cb65 rfl (fun _ => rfl) (fun _ => rfl) (s1 (nt rfl) (sm rfl (sp h5 (fun h5 => ?_) (fun h5 => ?_))))))))
      ·have q := si h5; subst q
       exact kw rfl (kw rfl (s1 (pkt rfl rfl) (SO.nil ((wq rfl)))))
      ·have q := si h5; subst q
       exact gw rfl (mv rfl) (gw rfl (bi rfl rfl q_i64_lss) (s1 (pkf rfl rfl) (SO.nil ((wq rfl)))))
     ·rintro y1434 h4
      refine cB h4 rfl (fun h4 => ?_) (fun h4 => ?_)
      ·have q := si h4; subst q; have q := si h3; subst q; have q : _ = _ := hv3; subst q; have q := si h1; subst q; have q := si h0; subst q
       exact sr (sa rfl (sn (SC.ret (finR (wc (e' := [(4, .d (eI (1 : Int)))]) [] [] (by kernel_rfl) rfl (by kernel_rfl)) (lresT rfl lresN) rfl))))
      ·refine sk (sq (SC.seqP h4 (fun y => ⟨mk 91 [(0, .d ((eL 7 eApiColumn) p0)), (5, .slc 0 1 0 y1287.length none), (8, .d (eI (w64 ((y1287.length : Int) - r1431)))), (15, .d ((eL 6 ePredNode) p1)), (16, .d (eI (p1.length : Int))), (17, .d (eI y1288)), (61, .d (eB y))], [.row 1 (List.map eI y1287) true]⟩) ?_ ?_))
       ·intro u5_1442 h5
        refine SC.draws (by kernel_rfl) (t1 ([], false) (far (k := 0) rfl fo80_0 ts3 rfl) rfl (t1 ([1], false) (lod rfl (ld_box ts3 ta3 rfl rfl)) rfl (t1 ([], false) (bi rfl rfl q_i64_eql) rfl (t1 ([], false) (mv rfl) rfl (tp h5 (fun h5 => ?_) (fun h5 => ?_))))))
        ·obtain ⟨r1444, hq1443, h5⟩ := ob h5
         refine u1 ([], false) (ww rfl) (far (k := 3) rfl fo80_3 ts74 rfl) rfl (u1 ([1], false) (ww rfl) (lod (v := .d (eApiValue v1429.Val)) rfl (ld_box ts74 ta74 rfl rfl)) rfl (tc0 (value_Valid_ok v1429.Val _ hq1443) (ww rfl) rfl rfl rfl cb66 rfl (fun _ => rfl) (fun _ => rfl) (u1 ([], false) (ww rfl) (nt rfl) rfl (u1 ([], false) (ww rfl) (mv rfl) rfl (tp h5 (fun h5 => ?_) (fun h5 => ?_))))))
         ·have q := si h5; subst q
          refine jw rfl (jw rfl (jw rfl (jw rfl (u1 ([], false) (ww rfl) (pkt rfl rfl) rfl (u1 ([], false) (ww rfl) (mv rfl) rfl (jw rfl (jw rfl (jw rfl (jw rfl ?_)))))))))
          refine jw rfl (jw rfl (jw rfl (jw rfl (jw rfl (jw rfl (u1 ([], false) (ww rfl) (pkt rfl rfl) rfl (t1 ([], false) (pkt rfl rfl) rfl (ST.nil (And.intro (by decide +kernel) ?_)))))))))
          exact (wc [0] [0] (by kernel_rfl) rfl (by kernel_rfl))
         ·refine u1 ([], false) (ww rfl) (far (k := 3) rfl fo80_3 ts74 rfl) rfl (u1 ([], false) (ww rfl) (far (k := 3) rfl fo74_0 ts3 rfl) rfl (u1 ([1], false) (ww rfl) (lod rfl (ld_box ts3 ta3 rfl rfl)) rfl (u1 ([], false) (ww rfl) (bi rfl rfl q_i64_eql) rfl (u1 ([], false) (ww rfl) (pkf rfl rfl) rfl (u1 ([], false) (ww rfl) (mv rfl) rfl (tp h5 (fun h5 => ?_) (fun h5 => ?_)))))))
          ·have q := si h5; subst q
           refine jw rfl (jw rfl (jw rfl (jw rfl (jw rfl (jw rfl (jw rfl (jw rfl (jw rfl (jw rfl ?_)))))))))
           refine u1 ([], false) (ww rfl) (pkt rfl rfl) rfl (t1 ([], false) (pkt rfl rfl) rfl (ST.nil (And.intro (by decide +kernel) ?_)))
           exact (wc [0] [0] (by kernel_rfl) rfl (by kernel_rfl))
          ·obtain ⟨v1445, hv1445, h5⟩ := ob h5; have q := si h5; subst q
           refine u1 ([], false) (ww rfl) (far (k := 3) rfl fo80_3 ts74 rfl) rfl (u1 ([], false) (ww rfl) (far (k := 3) rfl fo74_0 ts3 rfl) rfl (u1 ([1], false) (ww rfl) (lod rfl (ld_box ts3 ta3 rfl rfl)) rfl (u1 ([], false) (ww rfl) (mv rfl) rfl (u1 ([], false) (ww rfl) (far (k := 1) rfl fo80_1 ts3 rfl) rfl (u1 ([1], false) (ww rfl) (lod rfl (ld_box ts3 ta3 rfl rfl)) rfl (u1 ([], false) (ww rfl) (ial rfl rfl un22 ts76 (getI_some hv1445).1 (map_get (getI_some hv1445).2) rfl) rfl (u1 ([], false) (ww rfl) (fap rfl fo76_1 ts3 rfl) rfl (u1 ([], false) (ww rfl) (lod rfl (ld_rop ts3 ta3 rfl)) rfl (u1 ([], false) (ww rfl) (bi rfl rfl q_i64_neq) rfl ?_)))))))))
           refine u1 ([], false) (ww rfl) (pkf rfl rfl) rfl (t1 ([], false) (pkt rfl rfl) rfl (ST.nil (And.intro (by decide +kernel) ?_)))
           exact (wc [0] [0] (by kernel_rfl) rfl (by kernel_rfl))
        ·have q := si h5; subst q
         refine jw rfl (jw rfl (jw rfl (jw rfl (jw rfl (jw rfl (jw rfl (jw rfl (jw rfl (jw rfl ?_)))))))))
         refine jw rfl (jw rfl (jw rfl (jw rfl (jw rfl (jw rfl (jw rfl (jw rfl (jw rfl (jw rfl ?_)))))))))
         refine jw rfl (jw rfl (t1 ([], false) (pkf rfl rfl) rfl (ST.nil (And.intro (by decide +kernel) ?_))))
         exact (wc [0] [0] (by kernel_rfl) rfl (by kernel_rfl))
       ·rintro y1441 h4
        refine cB h4 rfl (fun h4 => ?_) (fun h4 => ?_)
        ·have q := si h4; subst q; have q := si h3; subst q; have q : _ = _ := hv3; subst q; have q := si h1; subst q; have q := si h0; subst q
         exact sr (sa rfl (sn (SC.ret (finR (wc (e' := [(4, .d (eI (8 : Int)))]) [] [] (by kernel_rfl) rfl (by kernel_rfl)) (lresT rfl lresN) rfl))))
        ·refine sk (sr (sa rfl (sn (SC.seqP h4 (fun y => ⟨mk 91 [(0, .d ((eL 7 eApiColumn) p0)), (5, .slc 0 1 0 y1287.length none), (8, .d (eI (w64 ((y1287.length : Int) - r1431)))), (9, .d (eI y)), (15, .d ((eL 6 ePredNode) p1)), (16, .d (eI (p1.length : Int))), (17, .d (eI y1288))], [.row 1 (List.map eI y1287) true]⟩) ?_ ?_))))
         ·intro u5_1458 h5
          obtain ⟨hg1459, h5⟩ := gd h5; obtain ⟨u6_1467, h6, h5⟩ := ob h5
          refine sr (sm rfl (sm rfl (s1 (slo rfl rfl rfl rfl (sl_slc_lo un23 ts3 hg1459)) (s1 (len rfl rfl rfl (len_slc un23)) (sm rfl (sn (SC.blk (SC.loopB h6 (fun y => ⟨mk 91 [(0, .d ((eL 7 eApiColumn) p0)), (5, .slc 0 1 0 y1287.length none), (8, .d (eI (w64 ((y1287.length : Int) - r1431)))), (9, .d (eI y.1)), (15, .d ((eL 6 ePredNode) p1)), (16, .d (eI (p1.length : Int))), (17, .d (eI y1288)), (64, .slc 0 1 (0 + (w64 ((y1287.length : Int) - r1431)).toNat) (y1287.length - (w64 ((y1287.length : Int) - r1431)).toNat) none), (65, .d (eI ((y1287.length - (w64 ((y1287.length : Int) - r1431)).toNat : Nat) : Int))), (66, .d (eI y.2))], [.row 1 (List.map eI y1287) true]⟩) (wq rfl) ?_))))))))
          intro n1469
          rintro ⟨y1461, y1462⟩ w6_1466 h7 hv7
          refine sr (s1 (bi rfl rfl q_i64_lss) (sn (sq (cB h7 rfl (fun h7 => ?_) (fun h7 => ?_)))))
          ·obtain ⟨v1468, hv1468, h7⟩ := ob h7
           refine sk (sq (SC.blk (sr (s1 (ias rfl rfl un23 ts3 (getS_some hv1468).1) (s1 (lod rfl (ld_row ts3 ta3 rfl (map_get (getS_some hv1468).2) rfl)) (sa rfl (sn (SC.region (sm rfl ?_)))))))))
           refine sm rfl (s1 (mxo (v := .d (eI (max y1461 v1468))) rfl rfl rfl (by_max_i64 un3 y1461 v1468)) (sa rfl (SO.nil ?_)))
           change SC _ _ _ _ _
           have q := si h7; subst q
           exact SC.region (s1 (bi rfl rfl q_i64_add) (sm rfl (SO.nil (lf (wq rfl)))))
          ·have q := si h7; subst q; have q : _ = _ := hv7; subst q; have q := si h5; subst q
           exact SC.exit ((wq rfl))
         ·rintro y1457 h4
          obtain ⟨hg1470, h4⟩ := gd h4; obtain ⟨hg1472, h4⟩ := gd h4; obtain ⟨hg1471, h4⟩ := gd h4; have q := si h4; subst q
          refine SC.region (sm rfl (sm rfl (s1 (slo rfl rfl rfl rfl (sl_slc_hi un23 ts3 hg1470)) (sm rfl (s1 (bi rfl rfl q_i64_add) (s1 (bsn (k := 1) (ds := List.map eI [(w64 (y1457 + (1 : Int)))]) (off := 0) (l' := [(w64 (y1457 + (1 : Int)))].length) rfl un23 ei3 rfl rfl (by rfl) rfl rfl rfl) (s1 (app rfl rfl rfl rfl bc23 (aS (f := eI) (xs := y1287) (k := 2) un23 ei3 rfl hg1472 (el_full (xs := [(w64 (y1457 + (1 : Int)))]) rfl) hg1471 rfl)) (sa rfl (SO.nil ?_)))))))))
          exact lf (wc [2] [2] (by kernel_rfl) rfl (by kernel_rfl))
    ·rintro y1427 h3
     have q := si h3; subst q
     exact SC.region (s1 (bi rfl rfl q_i64_add) (sm rfl (SO.nil (lf (wq rfl)))))
   ·have q := si h3; subst q; have q : _ = _ := hv3; subst q; have q := si h1; subst q
    exact SC.exit (lf (wq rfl))
  ·rintro y1228 h0
   refine sq (SC.blk (sr (sm rfl (s1 (len rfl rfl rfl (len_slc un23)) (s1 (bi rfl rfl q_i64_neq) (sa rfl (sn (cB h0 rfl (fun h0 => ?_) (fun h0 => ?_)))))))))
   ·have q := si h0; subst q
    exact sr (sa rfl (sn (SC.ret (finR (wc (e' := [(4, .d (eI (1 : Int)))]) [] [] (by kernel_rfl) rfl (by kernel_rfl)) (lresT rfl lresN) rfl))))
   ·obtain ⟨v1474, hv1474, h0⟩ := ob h0
    refine sr (sm rfl (s1 (iaz rfl rfl un23 ts3 (getI_lt hv1474)) (s1 (lod rfl (ld_row ts3 ta3 rfl (map_get (getI_some hv1474).2) rfl)) (s1 (bi rfl rfl q_i64_gtr) (sa rfl (sn (cB h0 rfl (fun h0 => ?_) (fun h0 => ?_))))))))
    ·have q := si h0; subst q
     exact sr (sa rfl (sn (SC.ret (finR (wc (e' := [(4, .d (eI (7 : Int)))]) [] [] (by kernel_rfl) rfl (by kernel_rfl)) (lresT rfl lresN) rfl))))
    ·refine SC.skip ?_
     change SC _ _ _ _ _
     have q := si h0; subst q
     exact sr (sa rfl (sn (SC.ret (finR (wc (e' := [(4, .d (eI (0 : Int)))]) [] [] (by kernel_rfl) rfl (by kernel_rfl)) (lresT rfl lresN) rfl))))
theorem plan_Query_order_ok1 (p0 : PlanQuery) (r : (List Int)) (h0 : plan_Query_order p0 = some r) : CallAt Tryz.prog 35 [.d (ePlanQuery p0)] [] (.slc 0 1 0 r.length none) [.row 1 (List.map eI r) true] := by
 unfold plan_Query_order at h0
 refine fn0 [0] Tryz.func35 rfl rfl rfl rfl rfl ?_
 refine sr (s1 (bxo (k := 0) rfl rfl rfl) (s1 (asg (v := .d .nils) rfl) (sn (sr (s1 (asg (v := .d .nils) rfl) (sn (SC.seqP h0 (fun y => ⟨mk 20 [(3, .slc 0 1 0 y.length none)], [.row 1 (List.map eI y) true]⟩) ?_ ?_)))))))
 ·intro u1_72 h1
  obtain ⟨u2_82, h2, h1⟩ := ob h1
  refine sr (s1 (far (k := 2) rfl fo30_2 ts28 rfl) (s1 (lod rfl (ld_box ts28 ta28 rfl rfl)) (s1 (len rfl rfl rfl (len_lst un28)) (sm rfl (sn (SC.blk (SC.loopB h2 (fun y => ⟨mk 20 [(3, .slc 0 1 0 y.1.length none), (7, .d ((eL 2 eApiPart) p0.Order)), (8, .d (eI (p0.Order.length : Int))), (9, .d (eI y.2))], [.row 1 (List.map eI y.1) true]⟩) (Wk.trans (Wk.pushE (σ' := [.box (.d (ePlanQuery p0)), .row 1 (List.map eI ([] : List Int)) true]) (.row 1 [] true) (fun _ hh => by cases hh) rfl) (Wk.trans (Wk.env (e' := [(3, .slc 1 1 0 (([] : List Int).length) none), (7, .d ((eL 2 eApiPart) p0.Order)), (8, .d (eI (p0.Order.length : Int))), (9, .d (eI (0 : Int)))]) (EW.cons (AW.slcn _ _ _) (EW.cons (AW.refl _) (EW.cons (AW.refl _) (EW.cons (AW.refl _) EW.nil))))) (wc [1] [1] (by kernel_rfl) rfl (by kernel_rfl)))) ?_)))))))
  intro n85
  rintro ⟨y75, y76⟩ w2_81 h3 hv3
  refine sr (s1 (bi rfl rfl q_i64_lss) (sn (sq (cB h3 rfl (fun h3 => ?_) (fun h3 => ?_)))))
  ·obtain ⟨v83, hv83, h3⟩ := ob h3; obtain ⟨hg84, h3⟩ := gd h3
   refine sk (sq (SC.blk (sr (s1 (ial rfl rfl un28 ts78 (getI_some hv83).1 (map_get (getI_some hv83).2) rfl) (s1 (lod (v := .d (eApiPart v83)) rfl (ld_rop ts78 ta78 rfl)) (s1 (alo (k := 1) zo78 rfl) (s0 (sto rfl rfl (sB (d' := .d (eApiPart v83)) ts78 rfl rfl rfl rfl rfl rfl rfl)) (sn (SC.region ?_)))))))))
   refine sm rfl (s1 (far (k := 0) rfl fo78_0 ts3 rfl) (s1 (lod rfl (ld_box ts3 ta3 rfl rfl)) (s1 (bsn (k := 2) (ds := List.map eI [v83.Col]) (off := 0) (l' := [v83.Col].length) rfl un23 ei3 rfl rfl (by rfl) rfl rfl rfl) (s1 (app rfl rfl rfl rfl bc23 (aF (f := eI) (xs := y75) (k := 3) rfl un23 ei3 rfl (el_full (xs := [v83.Col]) rfl) hg84 rfl)) (sa rfl (SO.nil ?_))))))
   change SC _ _ _ _ _
   have q := si h3; subst q
   exact SC.region (s1 (bi rfl rfl q_i64_add) (sm rfl (SO.nil (lf (wc [3] [3] (by kernel_rfl) rfl (by kernel_rfl))))))
  ·have q := si h3; subst q; have q : _ = _ := hv3; subst q; have q := si h1; subst q
   exact SC.exit ((wq rfl))
 ·rintro y71 h0
  have q := si h0; subst q
  exact sr (sm rfl (sa rfl (sn (SC.ret (finR (Wk.refl _) (lresT rfl lresN) rfl)))))
noncomputable def plan_Check_1 (p0 : Int) (p1 : ApiTable) : Option Bool :=
 Option.bind (α := Bool)
 (bif (decide (p0 < (0 : Int))) then
 some true
 else
 some (decide (p0 ≥ (p1.Cols.length : Int))))
 fun y6 =>
 some y6
theorem plan_Check_1_ok (p0 : Int) (p1 : ApiTable) (r : Bool) (h0 : plan_Check_1 p0 p1 = some r) : CallAt Tryz.prog 34 [.d (eI p0), .ref 0 0 0] [.box (.d (eApiTable p1))] (.d (eB r)) [.box (.d (eApiTable p1))] := by
 unfold plan_Check_1 at h0
 refine fn0 [0, 1] Tryz.func34 rfl rfl rfl rfl rfl ?_
 refine sr (sa rfl (sn (SC.seqP h0 (fun y => ⟨mk 13 [(3, .d (eB y))], [.box (.d (eApiTable p1))]⟩) ?_ ?_)))
 ·intro u1_7 h1
  refine SC.region (sm rfl (s1 (bi rfl rfl q_i64_lss) (sm rfl (sp h1 (fun h1 => ?_) (fun h1 => ?_)))))
  ·have q := si h1; subst q
   exact kw rfl (kw rfl (kw rfl (kw rfl (kw rfl (s1 (pkt rfl rfl) (sa rfl (SO.nil ((wq rfl)))))))))
  ·have q := si h1; subst q
   exact gw rfl (mv rfl) (gw rfl (far (k := 1) rfl fo26_1 ts22 rfl) (gw rfl (lod rfl (ld_box ts22 ta22 rfl rfl)) (gw rfl (len rfl rfl rfl (len_lst un22)) (gw rfl (bi rfl rfl q_i64_geq) (s1 (pkf rfl rfl) (sa rfl (SO.nil ((wq rfl)))))))))
 ·rintro y6 h0
  have q := si h0; subst q
  exact SC.ret (finR (Wk.refl _) (lresT rfl lresN) rfl)
noncomputable def slices_IndexFunc_int_int_4 (p0 : List Int) (p1 : ApiTable) : Option Int :=
 bindE (Y := Unit) (E := Int)
 (Option.bind (α := Unit ⊕ Int)
 (loop (Y := Int) (W := Unit ⊕ Int) (fun y78 =>
 bif (decide (y78 < (p0.length : Int))) then
 Option.bind (getI p0 y78) fun v85 =>
 Option.bind (plan_Check_1 v85 p1) fun r87 =>
 bif r87 then
 some (Sum.inr (Sum.inr y78))
 else
 some (Sum.inl (w64 (y78 + (1 : Int))))
 else
 some (Sum.inr (Sum.inl ()))) (0 : Int))
 (Sum.elim (fun e => some (Sum.inl e)) (fun e => some (Sum.inr e))))
 (fun _ =>
 some (-1 : Int))
 (fun e => some e)
theorem slices_IndexFunc_int_int_4_ok (p0 : List Int) (p1 : ApiTable) (r : Int) (h0 : slices_IndexFunc_int_int_4 p0 p1 = some r) : CallAt Tryz.prog 67 [.d ((eL 1 eI) p0), .fn (.func 34) [] [.ref 0 0 0]] [.box (.d (eApiTable p1))] (.d (eI r)) [.box (.d (eApiTable p1))] := by
 unfold slices_IndexFunc_int_int_4 at h0
 refine fn0 [0, 1] Tryz.func67 rfl rfl rfl rfl rfl ?_
 refine sr (sa rfl (sn (SC.seqB h0 (fun y => ⟨mk 19 [], [.box (.d (eApiTable p1))]⟩) ?_ ?_)))
 ·intro u1_74 h1 h0
  obtain ⟨u2_84, h2, h1⟩ := ob h1
  refine sr (sm rfl (s1 (len rfl rfl rfl (len_lst un23)) (sm rfl (sn (SC.blk (SC.loopB h2 (fun y => ⟨mk 19 [(0, .d ((eL 1 eI) p0)), (1, .fn (.func 34) [] [.ref 0 0 0]), (7, .d (eI (p0.length : Int))), (8, .d (eI y))], [.box (.d (eApiTable p1))]⟩) (wq rfl) ?_))))))
  intro n88
  rintro y78 w2_83 h3 hv3
  refine sr (s1 (bi rfl rfl q_i64_lss) (sn (sq (cB h3 rfl (fun h3 => ?_) (fun h3 => ?_)))))
  ·obtain ⟨v85, hv85, h3⟩ := ob h3; obtain ⟨r87, hq86, h3⟩ := ob h3
   refine sk (sq (SC.blk (sr (sm rfl (sa rfl (sn (sr (sm rfl (sm rfl ?_)))))))))
   refine sm rfl (s1 (ial rfl rfl un23 ts3 (getI_some hv85).1 (map_get (getI_some hv85).2) rfl) (s1 (lod rfl (ld_rop ts3 ta3 rfl)) (cq [0] [] (plan_Check_1_ok v85 p1 _ hq86) wf rfl rfl rfl cb34 rfl rfl rfl rfl rfl rfl rfl rfl (sn (cB h3 rfl (fun h3 => ?_) (fun h3 => ?_))))))
   ·have q := si h3; subst q; have q : _ = _ := hv3; subst q; have q := si h1; subst q; have q := si h0; subst q
    exact sr (sm rfl (sa rfl (sn (SC.ret (finR (Wk.refl _) (lresT rfl lresN) rfl)))))
   ·refine SC.skip ?_
    change SC _ _ _ _ _
    have q := si h3; subst q
    exact SC.region (s1 (bi rfl rfl q_i64_add) (sm rfl (SO.nil (lf (wq rfl)))))
  ·have q := si h3; subst q; have q : _ = _ := hv3; subst q; have q := si h1; subst q
   exact SC.exit (lf (wq rfl))
 ·intro _ h0
  have q := si h0; subst q
  exact sr (sa rfl (sn (SC.ret (finR (Wk.refl _) (lresT rfl lresN) rfl))))
noncomputable def slices_ContainsFunc_int_int_4 (p0 : List Int) (p1 : ApiTable) : Option Bool :=
 Option.bind (slices_IndexFunc_int_int_4 p0 p1) fun r7 =>
 some (decide (r7 ≥ (0 : Int)))
theorem slices_ContainsFunc_int_int_4_ok (p0 : List Int) (p1 : ApiTable) (r : Bool) (h0 : slices_ContainsFunc_int_int_4 p0 p1 = some r) : CallAt Tryz.prog 36 [.d ((eL 1 eI) p0), .fn (.func 34) [] [.ref 0 0 0]] [.box (.d (eApiTable p1))] (.d (eB r)) [.box (.d (eApiTable p1))] := by
 unfold slices_ContainsFunc_int_int_4 at h0
 refine fn0 [0, 1] Tryz.func36 rfl rfl rfl rfl rfl ?_
 obtain ⟨r7, hq6, h0⟩ := ob h0; have q := si h0; subst q
 refine sr (sa rfl (sn (sr (sm rfl (sm rfl (cq [0] [] (slices_IndexFunc_int_int_4_ok p0 p1 _ hq6) wf rfl rfl rfl cb67 rfl rfl rfl rfl rfl rfl rfl rfl (s1 (bi rfl rfl q_i64_geq) (sa rfl (sn ?_)))))))))
 exact SC.ret (finR (Wk.refl _) (lresT rfl lresN) rfl)
theorem slices_IndexFunc_int_int_4_ok1 (p0 : List Int) (p1 : ApiTable) (r : Int) (h0 : slices_IndexFunc_int_int_4 p0 p1 = some r) : CallAt Tryz.prog 67 [.slc 0 1 0 p0.length none, .fn (.func 34) [] [.ref 1 0 0]] [.row 1 (List.map eI p0) true, .box (.d (eApiTable p1))] (.d (eI r)) [.row 1 (List.map eI p0) true, .box (.d (eApiTable p1))] := by
 unfold slices_IndexFunc_int_int_4 at h0
 refine fn0 [0, 1] Tryz.func67 rfl rfl rfl rfl rfl ?_
 refine sr (sa rfl (sn (SC.seqB h0 (fun y => ⟨mk 19 [], [.row 1 (List.map eI p0) true, .box (.d (eApiTable p1))]⟩) ?_ ?_)))
 ·intro u1_74 h1 h0
  obtain ⟨u2_84, h2, h1⟩ := ob h1
  refine sr (sm rfl (s1 (len rfl rfl rfl (len_slc un23)) (sm rfl (sn (SC.blk (SC.loopB h2 (fun y => ⟨mk 19 [(0, .slc 0 1 0 p0.length none), (1, .fn (.func 34) [] [.ref 1 0 0]), (7, .d (eI (p0.length : Int))), (8, .d (eI y))], [.row 1 (List.map eI p0) true, .box (.d (eApiTable p1))]⟩) (wq rfl) ?_))))))
  intro n88
  rintro y78 w2_83 h3 hv3
  refine sr (s1 (bi rfl rfl q_i64_lss) (sn (sq (cB h3 rfl (fun h3 => ?_) (fun h3 => ?_)))))
  ·obtain ⟨v85, hv85, h3⟩ := ob h3; obtain ⟨r87, hq86, h3⟩ := ob h3
   refine sk (sq (SC.blk (sr (sm rfl (sa rfl (sn (sr (sm rfl (sm rfl ?_)))))))))
   refine sm rfl (s1 (iaz rfl rfl un23 ts3 (getI_lt hv85)) (s1 (lod rfl (ld_row ts3 ta3 rfl (map_get (getI_some hv85).2) rfl)) (cq [1] [] (plan_Check_1_ok v85 p1 _ hq86) wf rfl rfl rfl cb34 rfl rfl rfl rfl rfl rfl rfl rfl (sn (cB h3 rfl (fun h3 => ?_) (fun h3 => ?_))))))
   ·have q := si h3; subst q; have q : _ = _ := hv3; subst q; have q := si h1; subst q; have q := si h0; subst q
    exact sr (sm rfl (sa rfl (sn (SC.ret (finR (Wk.refl _) (lresT rfl lresN) rfl)))))
   ·refine SC.skip ?_
    change SC _ _ _ _ _
    have q := si h3; subst q
    exact SC.region (s1 (bi rfl rfl q_i64_add) (sm rfl (SO.nil (lf (wq rfl)))))
  ·have q := si h3; subst q; have q : _ = _ := hv3; subst q; have q := si h1; subst q
   exact SC.exit (lf (wq rfl))
 ·intro _ h0
  have q := si h0; subst q
  exact sr (sa rfl (sn (SC.ret (finR (Wk.refl _) (lresT rfl lresN) rfl))))
theorem slices_ContainsFunc_int_int_4_ok1 (p0 : List Int) (p1 : ApiTable) (r : Bool) (h0 : slices_ContainsFunc_int_int_4 p0 p1 = some r) : CallAt Tryz.prog 36 [.slc 0 1 0 p0.length none, .fn (.func 34) [] [.ref 1 0 0]] [.row 1 (List.map eI p0) true, .box (.d (eApiTable p1))] (.d (eB r)) [.row 1 (List.map eI p0) true, .box (.d (eApiTable p1))] := by
 unfold slices_ContainsFunc_int_int_4 at h0
 refine fn0 [0, 1] Tryz.func36 rfl rfl rfl rfl rfl ?_
 obtain ⟨r7, hq6, h0⟩ := ob h0; have q := si h0; subst q
 refine sr (sa rfl (sn (sr (sm rfl (sm rfl (cq [0, 1] [] (slices_IndexFunc_int_int_4_ok1 p0 p1 _ hq6) wf rfl rfl rfl cb67 rfl rfl rfl rfl rfl rfl rfl rfl (s1 (bi rfl rfl q_i64_geq) (sa rfl (sn ?_)))))))))
 exact SC.ret (finR (Wk.refl _) (lresT rfl lresN) rfl)
noncomputable def plan_Check (p0 : ApiTable) (p1 : PlanQuery) : Option Int :=
 Option.bind (pred_Check p0.Cols p1.Pred) fun r43 =>
 bif (r43 != (0 : Int)) then
 some r43
 else
 Option.bind (plan_Query_order p1) fun r45 =>
 Option.bind (α := Bool)
 (bif (decide ((p1.Cols.length : Int) > (24 : Int))) then
 some true
 else
 bif (decide ((r45.length : Int) > (4 : Int))) then
 some true
 else
 some (decide (p1.Limit < (-1 : Int))))
 fun y46 =>
 bif y46 then
 some (1 : Int)
 else
 Option.bind (α := Bool)
 (Option.bind (slices_ContainsFunc_int_int_4 p1.Cols p0) fun r55 =>
 bif r55 then
 some true
 else
 Option.bind (slices_ContainsFunc_int_int_4 r45 p0) fun r57 =>
 some r57)
 fun y52 =>
 bif y52 then
 some (1 : Int)
 else
 Option.bind (isortF r45) fun r59 =>
 Option.bind (icompactF r59 0 r45.length) fun r61 =>
 bif (decide ((r61.length : Int) < (p1.Order.length : Int))) then
 some (1 : Int)
 else
 some (0 : Int)
theorem plan_Check_ok (p0 : ApiTable) (p1 : PlanQuery) (r : Int) (h0 : plan_Check p0 p1 = some r) : CallAt Tryz.prog 11 [.d (eApiTable p0), .d (ePlanQuery p1)] [] (.d (eI r)) [] := by
 unfold plan_Check at h0
 refine fn0 [0, 1] Tryz.func11 rfl rfl rfl rfl rfl ?_
 obtain ⟨r43, hq42, h0⟩ := ob h0
 refine sr (s1 (bxo (k := 0) rfl rfl rfl) (s1 (bxo (k := 1) rfl rfl rfl) (sa rfl (sn (sq (sr (s1 (far (k := 1) rfl fo26_1 ts22 rfl) (s1 (lod rfl (ld_box ts22 ta22 rfl rfl)) (s1 (far (k := 0) rfl fo30_0 ts27 rfl) ?_)))))))))
 refine s1 (lod rfl (ld_box ts27 ta27 rfl rfl)) (c0 (pred_Check_ok p0.Cols p1.Pred _ hq42) wf rfl rfl rfl cb33 rfl (fun _ => rfl) (fun _ => rfl) (sa rfl (sn (sr (sm rfl (s1 (bi rfl rfl q_i64_neq) (sn (cB h0 rfl (fun h0 => ?_) (fun h0 => ?_)))))))))
 ·have q := si h0; subst q
  exact sr (sm rfl (sa rfl (sn (SC.ret (finR (wc (e' := [(4, .d (eI r43))]) [] [] (by kernel_rfl) rfl (by kernel_rfl)) (lresT rfl lresN) rfl)))))
 ·obtain ⟨r45, hq44, h0⟩ := ob h0
  refine sk (sr (s1 (mkf rfl rfl) (sa rfl (sn (sr (s1 (lod (v := .d (ePlanQuery p1)) rfl (ld_box ts30 ta30 rfl rfl)) (cq [] [2] (plan_Query_order_ok1 p1 _ hq44) wf rfl rfl rfl cb35 rfl rfl rfl rfl rfl rfl rfl rfl (sa rfl (sn ?_)))))))))
  refine sq (SC.blk (SC.seqP h0 (fun y => ⟨mk 53 [(3, .ref 0 0 0), (6, .fn (.func 34) [] [.ref 1 0 0]), (7, .slc 2 1 0 r45.length none), (19, .d (eB y))], [.box (.d (ePlanQuery p1)), .box (.d (eApiTable p0)), .row 1 (List.map eI r45) true]⟩) ?_ ?_))
  ·intro u1_47 h1
   refine SC.region (s1 (far (k := 1) rfl fo30_1 ts23 rfl) (s1 (lod rfl (ld_box ts23 ta23 rfl rfl)) (s1 (len rfl rfl rfl (len_lst un23)) (s1 (bi rfl rfl q_i64_gtr) (sm rfl (sp h1 (fun h1 => ?_) (fun h1 => ?_)))))))
   ·have q := si h1; subst q
    refine kw rfl (kw rfl (kw rfl (s1 (pkt rfl rfl) (sm rfl (kw rfl (kw rfl (kw rfl (s1 (pkt rfl rfl) (sa rfl ?_)))))))))
    exact SO.nil ((wc [1, 0, 2] [1, 0, 2] (by kernel_rfl) rfl (by kernel_rfl)))
   ·refine gw rfl (mv rfl) (gw rfl (len rfl rfl rfl (len_slc un23)) (gw rfl (bi rfl rfl q_i64_gtr) (s1 (pkf rfl rfl) (sm rfl (sp h1 (fun h1 => ?_) (fun h1 => ?_))))))
    ·have q := si h1; subst q
     exact kw rfl (kw rfl (kw rfl (s1 (pkt rfl rfl) (sa rfl (SO.nil ((wc [1, 0, 2] [1, 0, 2] (by kernel_rfl) rfl (by kernel_rfl))))))))
    ·have q := si h1; subst q
     exact gw rfl (far (k := 3) rfl fo30_3 ts3 rfl) (gw rfl (lod rfl (ld_box ts3 ta3 rfl rfl)) (gw rfl (bi rfl rfl q_i64_lss) (s1 (pkf rfl rfl) (sa rfl (SO.nil ((wc [1, 0, 2] [1, 0, 2] (by kernel_rfl) rfl (by kernel_rfl))))))))
  ·rintro y46 h0
   refine cB h0 rfl (fun h0 => ?_) (fun h0 => ?_)
   ·have q := si h0; subst q
    exact sr (sa rfl (sn (SC.ret (finR (wc (e' := [(4, .d (eI (1 : Int)))]) [] [] (by kernel_rfl) rfl (by kernel_rfl)) (lresT rfl lresN) rfl))))
   ·refine SC.seqP h0 (fun y => ⟨mk 53 [(3, .ref 0 0 0), (7, .slc 1 1 0 r45.length none), (34, .d (eB y))], [.box (.d (ePlanQuery p1)), .row 1 (List.map eI r45) true]⟩) ?_ ?_
    ·intro u1_53 h1
     obtain ⟨r55, hq54, h1⟩ := ob h1
     refine SC.region (s1 (far (k := 1) rfl fo30_1 ts23 rfl) (s1 (lod rfl (ld_box ts23 ta23 rfl rfl)) (sm rfl (cq [1] [] (slices_ContainsFunc_int_int_4_ok p1.Cols p0 _ hq54) wf rfl rfl rfl cb36 rfl rfl rfl rfl rfl rfl rfl rfl (sm rfl (sp h1 (fun h1 => ?_) (fun h1 => ?_)))))))
     ·have q := si h1; subst q
      exact kw rfl (kw rfl (kw rfl (s1 (pkt rfl rfl) (sa rfl (SO.nil ((wc [0, 2] [0, 2] (by kernel_rfl) rfl (by kernel_rfl))))))))
     ·obtain ⟨r57, hq56, h1⟩ := ob h1; have q := si h1; subst q
      exact gw rfl (mv rfl) (gw rfl (mv rfl) (cq [2, 1] [] (slices_ContainsFunc_int_int_4_ok1 r45 p0 _ hq56) (ww rfl) rfl rfl rfl cb36 rfl rfl rfl rfl rfl rfl rfl rfl (s1 (pkf rfl rfl) (sa rfl (SO.nil ((wc [0, 2] [0, 2] (by kernel_rfl) rfl (by kernel_rfl))))))))
    ·rintro y52 h0
     refine cB h0 rfl (fun h0 => ?_) (fun h0 => ?_)
     ·have q := si h0; subst q
      exact sr (sa rfl (sn (SC.ret (finR (wc (e' := [(4, .d (eI (1 : Int)))]) [] [] (by kernel_rfl) rfl (by kernel_rfl)) (lresT rfl lresN) rfl))))
     ·refine SC.skip ?_
      change SC _ _ _ _ _
      obtain ⟨r59, hq58, h0⟩ := ob h0; obtain ⟨r61, hq60, h0⟩ := ob h0
      refine sr (sm rfl (cq [1] [] (isort_ok r45 _ hq58) wf rfl rfl rfl cb37 rfl rfl rfl rfl rfl rfl rfl rfl (sn (sq (sd (by kernel_rfl) (t1 ([], false) (mv rfl) rfl (tq [1] [] ([1], true) (icompact_ok r59 0 r45.length _ hq60) wf rfl rfl rfl cb38 rfl rfl rfl rfl rfl rfl rfl rfl rfl (t1 ([], false) (len rfl rfl rfl (len_lst un23)) rfl (t1 ([], false) (far (k := 2) rfl fo30_2 ts28 rfl) rfl ?_)))))))))
      refine t1 ([0], false) (lod rfl (ld_box ts28 ta28 rfl rfl)) rfl (t1 ([], false) (len rfl rfl rfl (len_lst un28)) rfl (t1 ([], false) (bi rfl rfl q_i64_lss) rfl (tn (by decide +kernel) (cB h0 rfl (fun h0 => ?_) (fun h0 => ?_)))))
      ·have q := si h0; subst q
       exact sr (sa rfl (sn (SC.ret (finR (wc (e' := [(4, .d (eI (1 : Int)))]) [] [] (by kernel_rfl) rfl (by kernel_rfl)) (lresT rfl lresN) rfl))))
      ·have q := si h0; subst q
       exact sk (sr (sa rfl (sn (SC.ret (finR (wc (e' := [(4, .d (eI (0 : Int)))]) [] [] (by kernel_rfl) rfl (by kernel_rfl)) (lresT rfl lresN) rfl)))))
noncomputable def plan_queue_Len (p0 : List PlanPlan) (p1 : List Int) : Option Unit :=
 some ()
theorem plan_queue_Len_ok (p0 : List PlanPlan) (p1 : List Int) (r : Unit) (h0 : plan_queue_Len p0 p1 = some r) : CallAt Tryz.prog 52 [.agg [.d ((eL 8 ePlanPlan) p0), .slc 0 1 0 p1.length none]] [.row 1 (List.map eI p1) true] (.d (eI (p1.length : Int))) [.row 1 (List.map eI p1) true] := by
 unfold plan_queue_Len at h0
 refine fn0 [0] Tryz.func52 rfl rfl rfl rfl rfl ?_
 have q := si h0; subst q
 refine sr (s1 (bxo (k := 1) rfl rfl rfl) (sa rfl (sn (sr (s1 (far (k := 1) rfl fo110_1 ts23 rfl) (s1 (lod rfl (ld_box ts23 ta23 rfl rfl)) (s1 (len rfl rfl rfl (len_slc un23)) (sa rfl (sn ?_)))))))))
 exact SC.ret (finR (wc (e' := [(2, .d (eI (p1.length : Int)))]) [0] [0] (by kernel_rfl) rfl (by kernel_rfl)) (lresT rfl lresN) rfl)
noncomputable def plan_queue_Less_1 (p0 : List PlanPlan) (p1 : List Int) (p2 : Nat) (p3 : Nat) (p4 : Int) (p5 : Int) : Option Bool :=
 Option.bind (getS p1 p2 p3 p4) fun v14 =>
 Option.bind (getS p1 p2 p3 p5) fun v15 =>
 Option.bind (getI p0 v14) fun v16 =>
 Option.bind (getI p0 v15) fun v17 =>
 bif (v16.Cost != v17.Cost) then
 Option.bind (getI p0 v14) fun v18 =>
 Option.bind (getI p0 v15) fun v19 =>
 some (decide (v18.Cost < v19.Cost))
 else
 some (decide (v14 < v15))
theorem plan_queue_Less_1_ok (p0 : List PlanPlan) (p1 : List Int) (p2 : Nat) (p3 : Nat) (p4 : Int) (p5 : Int) (r : Bool) (h0 : plan_queue_Less_1 p0 p1 p2 p3 p4 p5 = some r) : CallAt Tryz.prog 194 [.agg [.d ((eL 8 ePlanPlan) p0), .slc 0 1 p2 p3 none], .d (eI p4), .d (eI p5)] [.row 1 (List.map eI p1) true] (.d (eB r)) [.row 1 (List.map eI p1) true] := by
 unfold plan_queue_Less_1 at h0
 refine fn0 [0, 1, 2] Tryz.func194 rfl rfl rfl rfl rfl ?_
 obtain ⟨v14, hv14, h0⟩ := ob h0; obtain ⟨v15, hv15, h0⟩ := ob h0; obtain ⟨v16, hv16, h0⟩ := ob h0; obtain ⟨v17, hv17, h0⟩ := ob h0
 refine sr (s1 (bxo (k := 1) rfl rfl rfl) (sa rfl (sn (sd (by kernel_rfl) (t1 ([], false) (far (k := 1) rfl fo110_1 ts23 rfl) rfl (t1 ([1], false) (lod rfl (ld_box ts23 ta23 rfl rfl)) rfl (t1 ([], false) (mv rfl) rfl (t1 ([], false) (ias rfl rfl un23 ts3 (getS_some hv14).1) rfl (t1 ([0], false) (lod rfl (ld_row ts3 ta3 rfl (map_get (getS_some hv14).2) rfl)) rfl ?_)))))))))
 refine t1 ([], false) (far (k := 1) rfl fo110_1 ts23 rfl) rfl (t1 ([1], false) (lod rfl (ld_box ts23 ta23 rfl rfl)) rfl (t1 ([], false) (mv rfl) rfl (t1 ([], false) (ias rfl rfl un23 ts3 (getS_some hv15).1) rfl (t1 ([0], false) (lod rfl (ld_row ts3 ta3 rfl (map_get (getS_some hv15).2) rfl)) rfl (t1 ([], false) (asg rfl) rfl (t1 ([], false) (asg rfl) rfl (tn (by decide +kernel) (sq (sd (by kernel_rfl) ?_)))))))))
 refine t1 ([], false) (far (k := 0) rfl fo110_0 ts41 rfl) rfl (t1 ([1], false) (lod rfl (ld_box ts41 ta41 rfl rfl)) rfl (t1 ([], false) (mv rfl) rfl (t1 ([], false) (ial rfl rfl un41 ts52 (getI_some hv16).1 (map_get (getI_some hv16).2) rfl) rfl (t1 ([], false) (fap rfl fo52_5 ts3 rfl) rfl (t1 ([], false) (lod rfl (ld_rop ts3 ta3 rfl)) rfl (t1 ([], false) (far (k := 0) rfl fo110_0 ts41 rfl) rfl (t1 ([1], false) (lod rfl (ld_box ts41 ta41 rfl rfl)) rfl (t1 ([], false) (mv rfl) rfl (t1 ([], false) (ial rfl rfl un41 ts52 (getI_some hv17).1 (map_get (getI_some hv17).2) rfl) rfl ?_)))))))))
 refine t1 ([], false) (fap rfl fo52_5 ts3 rfl) rfl (t1 ([], false) (lod rfl (ld_rop ts3 ta3 rfl)) rfl (t1 ([], false) (bi rfl rfl q_i64_neq) rfl (tn (by decide +kernel) (cB h0 rfl (fun h0 => ?_) (fun h0 => ?_)))))
 ·obtain ⟨v18, hv18, h0⟩ := ob h0; obtain ⟨v19, hv19, h0⟩ := ob h0; have q := si h0; subst q
  refine sd (by kernel_rfl) (t1 ([], false) (far (k := 0) rfl fo110_0 ts41 rfl) rfl (t1 ([1], false) (lod rfl (ld_box ts41 ta41 rfl rfl)) rfl (t1 ([], false) (mv rfl) rfl (t1 ([], false) (ial rfl rfl un41 ts52 (getI_some hv18).1 (map_get (getI_some hv18).2) rfl) rfl (t1 ([], false) (fap rfl fo52_5 ts3 rfl) rfl (t1 ([], false) (lod rfl (ld_rop ts3 ta3 rfl)) rfl (t1 ([], false) (far (k := 0) rfl fo110_0 ts41 rfl) rfl (t1 ([1], false) (lod rfl (ld_box ts41 ta41 rfl rfl)) rfl (t1 ([], false) (mv rfl) rfl ?_)))))))))
  exact t1 ([], false) (ial rfl rfl un41 ts52 (getI_some hv19).1 (map_get (getI_some hv19).2) rfl) rfl (t1 ([], false) (fap rfl fo52_5 ts3 rfl) rfl (t1 ([], false) (lod rfl (ld_rop ts3 ta3 rfl)) rfl (t1 ([], false) (bi rfl rfl q_i64_lss) rfl (t1 ([], false) (asg rfl) rfl (tn (by decide +kernel) (SC.ret (finR (wc (e' := [(6, .d (eB (decide (v18.Cost < v19.Cost))))]) [0] [0] (by kernel_rfl) rfl (by kernel_rfl)) (lresT rfl lresN) rfl)))))))
 ·have q := si h0; subst q
  exact sk (sr (sm rfl (sm rfl (s1 (bi rfl rfl q_i64_lss) (sa rfl (sn (SC.ret (finR (wc (e' := [(6, .d (eB (decide (v14 < v15))))]) [0] [0] (by kernel_rfl) rfl (by kernel_rfl)) (lresT rfl lresN) rfl))))))))
noncomputable def plan_queue_Swap_1 (p0 : List PlanPlan) (p1 : List Int) (p2 : Nat) (p3 : Nat) (p4 : Int) (p5 : Int) : Option ((List Int)) :=
 Option.bind (getS p1 p2 p3 p5) fun v10 =>
 Option.bind (getS p1 p2 p3 p4) fun v11 =>
 Option.bind (getS p1 p2 p3 p4) fun v12 =>
 Option.bind (getS (List.set p1 (p2 + p4.toNat) v10) p2 p3 p5) fun v13 =>
 some (List.set (List.set p1 (p2 + p4.toNat) v10) (p2 + p5.toNat) v11)
theorem plan_queue_Swap_1_ok (p0 : List PlanPlan) (p1 : List Int) (p2 : Nat) (p3 : Nat) (p4 : Int) (p5 : Int) (r : (List Int)) (h0 : plan_queue_Swap_1 p0 p1 p2 p3 p4 p5 = some r) : CallAt Tryz.prog 197 [.agg [.d ((eL 8 ePlanPlan) p0), .slc 0 1 p2 p3 none], .d (eI p4), .d (eI p5)] [.row 1 (List.map eI p1) true] (.tuple []) [.row 1 (List.map eI r) true] := by
 unfold plan_queue_Swap_1 at h0
 refine fn0 [0, 1, 2] Tryz.func197 rfl rfl rfl rfl rfl ?_
 obtain ⟨v10, hv10, h0⟩ := ob h0; obtain ⟨v11, hv11, h0⟩ := ob h0; obtain ⟨v12, hv12, h0⟩ := ob h0; obtain ⟨v13, hv13, h0⟩ := ob h0; have q := si h0; subst q
 refine sr (s1 (bxo (k := 1) rfl rfl rfl) (sn (SC.draws (by kernel_rfl) (t1 ([], false) (far (k := 1) rfl fo110_1 ts23 rfl) rfl (t1 ([1], false) (lod rfl (ld_box ts23 ta23 rfl rfl)) rfl (t1 ([], false) (mv rfl) rfl (t1 ([], false) (far (k := 1) rfl fo110_1 ts23 rfl) rfl (t1 ([1], false) (lod rfl (ld_box ts23 ta23 rfl rfl)) rfl (t1 ([], false) (mv rfl) rfl ?_)))))))))
 refine t1 ([], false) (far (k := 1) rfl fo110_1 ts23 rfl) rfl (t1 ([1], false) (lod rfl (ld_box ts23 ta23 rfl rfl)) rfl (t1 ([], false) (mv rfl) rfl (t1 ([], false) (ias rfl rfl un23 ts3 (getS_some hv10).1) rfl (t1 ([0], false) (lod rfl (ld_row ts3 ta3 rfl (map_get (getS_some hv10).2) rfl)) rfl (t1 ([], false) (far (k := 1) rfl fo110_1 ts23 rfl) rfl (t1 ([1], false) (lod rfl (ld_box ts23 ta23 rfl rfl)) rfl (t1 ([], false) (mv rfl) rfl (t1 ([], false) (ias rfl rfl un23 ts3 (getS_some hv11).1) rfl (t1 ([0], false) (lod rfl (ld_row ts3 ta3 rfl (map_get (getS_some hv11).2) rfl)) rfl ?_)))))))))
 refine t1 ([], false) (ias rfl rfl un23 ts3 (getS_some hv12).1) rfl (t0 ([0], true) (sto (b := .d (eI v10)) rfl rfl (sR (f := eI) (v := v10) ts3 rfl rfl rfl rfl (getS_some hv12).2 rfl rfl)) rfl (t1 ([], false) (ias rfl rfl un23 ts3 (getS_some hv13).1) rfl (t0 ([0], true) (sto (b := .d (eI v11)) rfl rfl (sR (f := eI) (v := v11) ts3 rfl rfl rfl rfl (getS_some hv13).2 rfl rfl)) rfl (ST.nil (And.intro (by decide +kernel) ?_)))))
 exact finN (wc (e' := []) [0] [0] (by kernel_rfl) rfl (by kernel_rfl)) lresN rfl
noncomputable def container_heap_up (p0 : Int) (p1 : List PlanPlan) (p2 : List Int) : Option ((List Int)) :=
 Option.bind (α := (List Int))
 (loop (Y := Int × (List Int)) (W := (List Int)) (fun (y72, y73) =>
 Option.bind (α := Bool)
 (bif ((w64 (Int.tdiv (w64 (y72 - (1 : Int))) (2 : Int))) == y72) then
 some true
 else
 Option.bind (plan_queue_Less_1 p1 y73 0 p2.length y72 (w64 (Int.tdiv (w64 (y72 - (1 : Int))) (2 : Int)))) fun r91 =>
 some (!r91))
 fun y88 =>
 bif y88 then
 some (Sum.inr y73)
 else
 Option.bind (plan_queue_Swap_1 p1 y73 0 p2.length (w64 (Int.tdiv (w64 (y72 - (1 : Int))) (2 : Int))) y72) fun r93 =>
 some (Sum.inl ((w64 (Int.tdiv (w64 (y72 - (1 : Int))) (2 : Int))), r93))) (p0, p2))
 (fun e => some e)
theorem container_heap_up_ok (p0 : Int) (p1 : List PlanPlan) (p2 : List Int) (r : (List Int)) (h0 : container_heap_up p0 p1 p2 = some r) : CallAt Tryz.prog 88 [.iface 108 (.ref 0 0 0), .d (eI p0)] [.box (.agg [.d ((eL 8 ePlanPlan) p1), .slc 1 1 0 p2.length none]), .row 1 (List.map eI p2) true] (.tuple []) [.box (.agg [.d ((eL 8 ePlanPlan) p1), .slc 1 1 0 p2.length none]), .row 1 (List.map eI r) true] := by
 unfold container_heap_up at h0
 refine fn0 [0, 1] Tryz.func88 rfl rfl rfl rfl rfl ?_
 obtain ⟨u1_85, h1, h0⟩ := ob h0
 refine SC.blk (SC.loopB h1 (fun y => ⟨mk 23 [(0, .iface 108 (.ref 0 0 0)), (1, .d (eI y.1))], [.box (.agg [.d ((eL 8 ePlanPlan) p1), .slc 1 1 0 p2.length none]), .row 1 (List.map eI y.2) true]⟩) (wq rfl) ?_)
 intro n94
 rintro ⟨y72, y73⟩ w1_84 h2 hv2
 refine SC.blk (sr (sm rfl (s1 (bi rfl rfl q_i64_sub) (s1 (bi (v := .d (eI (w64 (Int.tdiv (w64 (y72 - (1 : Int))) (2 : Int))))) rfl rfl (fun X Y => b_i64_quo _ X Y (w64 (y72 - (1 : Int))) (2 : Int) (by decide))) (sa rfl (sn (sq (SC.seqP h2 (fun y => ⟨mk 23 [(0, .iface 108 (.ref 0 0 0)), (1, .d (eI y72)), (4, .d (eI (w64 (Int.tdiv (w64 (y72 - (1 : Int))) (2 : Int))))), (17, .d (eB y))], [.box (.agg [.d ((eL 8 ePlanPlan) p1), .slc 1 1 0 p2.length none]), .row 1 (List.map eI y73) true]⟩) ?_ ?_))))))))
 ·intro u3_89 h3
  refine SC.region (sm rfl (sm rfl (s1 (bi rfl rfl q_i64_eql) (sm rfl (sp h3 (fun h3 => ?_) (fun h3 => ?_))))))
  ·have q := si h3; subst q
   exact kw rfl (kw rfl (kw rfl (kw rfl (kw rfl (s1 (pkt rfl rfl) (SO.nil ((wq rfl))))))))
  ·obtain ⟨r91, hq90, h3⟩ := ob h3; have q := si h3; subst q
   exact gw rfl (mv rfl) (gw rfl (mv rfl) (gw rfl (mv rfl) (iq [1] [] (plan_queue_Less_1_ok p1 y73 0 p2.length y72 (w64 (Int.tdiv (w64 (y72 - (1 : Int))) (2 : Int))) _ hq90) (ww rfl) rfl rfl rfl mt108_Less (recvF (rv := .agg [.d ((eL 8 ePlanPlan) p1), .slc 1 1 0 p2.length none]) un108 (ld_box ts110 ta110 rfl rfl)) cb194 rfl rfl rfl rfl rfl rfl rfl rfl (gw rfl (nt rfl) (s1 (pkf rfl rfl) (SO.nil ((wq rfl))))))))
 ·rintro y88 h2
  refine cB h2 rfl (fun h2 => ?_) (fun h2 => ?_)
  ·have q := si h2; subst q; have q : _ = _ := hv2; subst q; have q := si h0; subst q
   exact SC.exit (finN (Wk.refl _) lresN rfl)
  ·obtain ⟨r93, hq92, h2⟩ := ob h2; have q := si h2; subst q
   refine sk (sr (sm rfl (sm rfl (sm rfl (iq [1] [] (plan_queue_Swap_1_ok p1 y73 0 p2.length (w64 (Int.tdiv (w64 (y72 - (1 : Int))) (2 : Int))) y72 _ hq92) wf rfl rfl rfl mt108_Swap (recvF (rv := .agg [.d ((eL 8 ePlanPlan) p1), .slc 1 1 0 p2.length none]) un108 (ld_box ts110 ta110 rfl rfl)) cb197 rfl rfl rfl rfl rfl rfl rfl rfl (sn (SC.region (sm rfl (sa rfl ?_)))))))))
   exact SO.nil (lf (wq rfl))
noncomputable def plan_queue_Push_1 (p0 : Int) (p1 : List PlanPlan) (p2 : List Int) (p3 : Nat) (p4 : Nat) : Option Unit :=
 bif decide (p3 + p4 ≤ p2.length) then
 bif decide ((p4 + [p0].length) * 8 ≤ room) then
 some ()
 else none
 else none
theorem plan_queue_Push_1_ok (p0 : Int) (p1 : List PlanPlan) (p2 : List Int) (p3 : Nat) (p4 : Nat) (r : Unit) (h0 : plan_queue_Push_1 p0 p1 p2 p3 p4 = some r) : CallAt Tryz.prog 196 [.ref 0 0 0, .iface 3 (.d (eI p0))] [.box (.agg [.d ((eL 8 ePlanPlan) p1), .slc 1 1 p3 p4 none]), .row 1 (List.map eI p2) true] (.tuple []) [.box (.agg [.d ((eL 8 ePlanPlan) p1), .slc 2 1 0 ((List.take p4 (List.drop p3 p2) ++ [p0]).length) none]), .dead, .row 1 (List.map eI (List.take p4 (List.drop p3 p2) ++ [p0])) true] := by
 unfold plan_queue_Push_1 at h0
 refine fn0 [0, 1] Tryz.func196 rfl rfl rfl rfl rfl ?_
 obtain ⟨hg6, h0⟩ := gd h0; obtain ⟨hg5, h0⟩ := gd h0; have q := si h0; subst q
 refine SC.draws (by kernel_rfl) (t1 ([], false) (mv rfl) rfl (t1 ([], false) (mv rfl) rfl (t1 ([], false) (nkr rfl) rfl (t1 ([], false) (far (k := 1) rfl fo110_1 ts23 rfl) rfl (t1 ([0], false) (lod rfl (ld_box ts23 ta23 rfl rfl)) rfl (t1 ([], false) (mv rfl) rfl (t1 ([], false) (tya rfl ni3) rfl (t1 ([2], true) (bsn (k := 2) (ds := List.map eI [p0]) (off := 0) (l' := [p0].length) rfl un23 ei3 rfl rfl (by rfl) rfl rfl rfl) rfl (t1 ([1, 2, 3], true) (app rfl rfl rfl rfl bc23 (aS (f := eI) (xs := p2) (k := 3) un23 ei3 rfl hg6 (el_full (xs := [p0]) rfl) hg5 rfl)) rfl ?_)))))))))
 refine t1 ([], false) (nkr rfl) rfl (t1 ([], false) (far (k := 1) rfl fo110_1 ts23 rfl) rfl (t0 ([0, 3], true) (sto rfl rfl (sB (d' := .agg [.d ((eL 8 ePlanPlan) p1), .slc 3 1 0 ((List.take p4 (List.drop p3 p2) ++ [p0]).length) none]) ts23 rfl rfl rfl rfl rfl rfl rfl)) rfl (ST.nil (And.intro (by decide +kernel) ?_))))
 exact finN (wc (e' := []) [0, 1, 3] [0, 1] (by kernel_rfl) rfl (by kernel_rfl)) lresN rfl
noncomputable def container_heap_Push_1 (p0 : Int) (p1 : List PlanPlan) (p2 : List Int) (p3 : Nat) (p4 : Nat) : Option ((List Int)) :=
 Option.bind (plan_queue_Push_1 p0 p1 p2 p3 p4) fun _ =>
 Option.bind (plan_queue_Len p1 (List.take p4 (List.drop p3 p2) ++ [p0])) fun _ =>
 Option.bind (container_heap_up (w64 (((List.take p4 (List.drop p3 p2) ++ [p0]).length : Int) - (1 : Int))) p1 (List.take p4 (List.drop p3 p2) ++ [p0])) fun r13 =>
 some r13
theorem container_heap_Push_1_ok (p0 : Int) (p1 : List PlanPlan) (p2 : List Int) (p3 : Nat) (p4 : Nat) (r : (List Int)) (h0 : container_heap_Push_1 p0 p1 p2 p3 p4 = some r) : CallAt Tryz.prog 51 [.iface 108 (.ref 0 0 0), .iface 3 (.d (eI p0))] [.box (.agg [.d ((eL 8 ePlanPlan) p1), .slc 1 1 p3 p4 none]), .row 1 (List.map eI p2) true] (.tuple []) [.box (.agg [.d ((eL 8 ePlanPlan) p1), .slc 2 1 0 ((List.take p4 (List.drop p3 p2) ++ [p0]).length) none]), .dead, .row 1 (List.map eI r) true] := by
 unfold container_heap_Push_1 at h0
 refine fn0 [0, 1] Tryz.func51 rfl rfl rfl rfl rfl ?_
 obtain ⟨_, hq10, h0⟩ := ob h0; obtain ⟨_, hq11, h0⟩ := ob h0; obtain ⟨r13, hq12, h0⟩ := ob h0; have q := si h0; subst q
 refine sr (sm rfl (sm rfl (iq [0, 1] [2] (plan_queue_Push_1_ok p0 p1 p2 p3 p4 _ hq10) wf rfl rfl rfl mt108_Push (recvT un108) cb196 rfl rfl rfl rfl rfl rfl rfl rfl (sn (SC.region (sm rfl (sm rfl (iq [2] [] (plan_queue_Len_ok p1 (List.take p4 (List.drop p3 p2) ++ [p0]) _ hq11) wf rfl rfl rfl mt108_Len (recvF (rv := .agg [.d ((eL 8 ePlanPlan) p1), .slc 2 1 0 ((List.take p4 (List.drop p3 p2) ++ [p0]).length) none]) un108 (ld_box ts110 ta110 rfl rfl)) cb52 rfl rfl rfl rfl rfl rfl rfl rfl (s1 (bi rfl rfl q_i64_sub) ?_)))))))))
 exact cq [0, 2] [] (container_heap_up_ok (w64 (((List.take p4 (List.drop p3 p2) ++ [p0]).length : Int) - (1 : Int))) p1 (List.take p4 (List.drop p3 p2) ++ [p0]) _ hq12) wf rfl rfl rfl cb88 rfl rfl rfl rfl rfl rfl rfl rfl (SO.nil (finN (Wk.refl _) lresN rfl))
noncomputable def plan_queue_Len_1 (p0 : List PlanPlan) (p1 : List Int) (p2 : Nat) (p3 : Nat) : Option Unit :=
 some ()
theorem plan_queue_Len_1_ok (p0 : List PlanPlan) (p1 : List Int) (p2 : Nat) (p3 : Nat) (r : Unit) (h0 : plan_queue_Len_1 p0 p1 p2 p3 = some r) : CallAt Tryz.prog 52 [.agg [.d ((eL 8 ePlanPlan) p0), .slc 0 1 p2 p3 none]] [.row 1 (List.map eI p1) true] (.d (eI (p3 : Int))) [.row 1 (List.map eI p1) true] := by
 unfold plan_queue_Len_1 at h0
 refine fn0 [0] Tryz.func52 rfl rfl rfl rfl rfl ?_
 have q := si h0; subst q
 refine sr (s1 (bxo (k := 1) rfl rfl rfl) (sa rfl (sn (sr (s1 (far (k := 1) rfl fo110_1 ts23 rfl) (s1 (lod rfl (ld_box ts23 ta23 rfl rfl)) (s1 (len rfl rfl rfl (len_slc un23)) (sa rfl (sn ?_)))))))))
 exact SC.ret (finR (wc (e' := [(2, .d (eI (p3 : Int)))]) [0] [0] (by kernel_rfl) rfl (by kernel_rfl)) (lresT rfl lresN) rfl)
noncomputable def container_heap_down (p0 : Int) (p1 : Int) (p2 : List PlanPlan) (p3 : List Int) (p4 : Nat) (p5 : Nat) : Option (Bool × (List Int)) :=
 Option.bind (α := Int × (List Int))
 (Option.bind (α := Int × (List Int))
 (loop (Y := Int × (List Int)) (W := Int × (List Int)) (fun (y367, y368) =>
 Option.bind (α := Bool)
 (bif (decide ((w64 ((w64 ((2 : Int) * y367)) + (1 : Int))) ≥ p1)) then
 some true
 else
 some (decide ((w64 ((w64 ((2 : Int) * y367)) + (1 : Int))) < (0 : Int))))
 fun y393 =>
 bif y393 then
 some (Sum.inr (y367, y368))
 else
 Option.bind (α := Int)
 (Option.bind (α := Bool)
 (bif (decide ((w64 ((w64 ((w64 ((2 : Int) * y367)) + (1 : Int))) + (1 : Int))) < p1)) then
 Option.bind (plan_queue_Less_1 p2 y368 p4 p5 (w64 ((w64 ((w64 ((2 : Int) * y367)) + (1 : Int))) + (1 : Int))) (w64 ((w64 ((2 : Int) * y367)) + (1 : Int)))) fun r408 =>
 some r408
 else
 some false)
 fun y405 =>
 bif y405 then
 some (w64 ((w64 ((w64 ((2 : Int) * y367)) + (1 : Int))) + (1 : Int)))
 else
 some (w64 ((w64 ((2 : Int) * y367)) + (1 : Int))))
 fun y401 =>
 Option.bind (plan_queue_Less_1 p2 y368 p4 p5 y401 y367) fun r410 =>
 bif (!r410) then
 some (Sum.inr (y367, y368))
 else
 Option.bind (plan_queue_Swap_1 p2 y368 p4 p5 y367 y401) fun r412 =>
 some (Sum.inl (y401, r412))) (p0, p3))
 (fun e => some e))
 fun (y344, y345) =>
 some ((decide (y344 > p0)), y345)
theorem container_heap_down_ok (p0 : Int) (p1 : Int) (p2 : List PlanPlan) (p3 : List Int) (p4 : Nat) (p5 : Nat) (r : Bool × (List Int)) (h0 : container_heap_down p0 p1 p2 p3 p4 p5 = some r) : CallAt Tryz.prog 89 [.iface 108 (.ref 0 0 0), .d (eI p0), .d (eI p1)] [.box (.agg [.d ((eL 8 ePlanPlan) p2), .slc 1 1 p4 p5 none]), .row 1 (List.map eI p3) true] (.d (eB r.1)) [.box (.agg [.d ((eL 8 ePlanPlan) p2), .slc 1 1 p4 p5 none]), .row 1 (List.map eI r.2) true] := by
 unfold container_heap_down at h0
 refine fn0 [0, 1, 2] Tryz.func89 rfl rfl rfl rfl rfl ?_
 refine sr (sa rfl (sn (sr (sm rfl (sa rfl (sn (SC.seqP h0 (fun y => ⟨mk 48 [(1, .d (eI p0)), (7, .d (eI y.1))], [.box (.agg [.d ((eL 8 ePlanPlan) p2), .slc 1 1 p4 p5 none]), .row 1 (List.map eI y.2) true]⟩) ?_ ?_)))))))
 ·intro u1_346 h1
  obtain ⟨u2_392, h2, h1⟩ := ob h1
  refine SC.blk (SC.loopB h2 (fun y => ⟨mk 48 [(0, .iface 108 (.ref 0 0 0)), (1, .d (eI p0)), (2, .d (eI p1)), (7, .d (eI y.1))], [.box (.agg [.d ((eL 8 ePlanPlan) p2), .slc 1 1 p4 p5 none]), .row 1 (List.map eI y.2) true]⟩) (wq rfl) ?_)
  intro n413
  rintro ⟨y367, y368⟩ w2_391 h3 hv3
  refine SC.blk (sr (sm rfl (s1 (bi rfl rfl q_i64_mul) (s1 (bi rfl rfl q_i64_add) (sa rfl (sn (sq (SC.seqP h3 (fun y => ⟨mk 48 [(0, .iface 108 (.ref 0 0 0)), (1, .d (eI p0)), (2, .d (eI p1)), (7, .d (eI y367)), (8, .d (eI (w64 ((w64 ((2 : Int) * y367)) + (1 : Int))))), (21, .d (eB y))], [.box (.agg [.d ((eL 8 ePlanPlan) p2), .slc 1 1 p4 p5 none]), .row 1 (List.map eI y368) true]⟩) ?_ ?_))))))))
  ·intro u4_394 h4
   refine SC.region (sm rfl (sm rfl (s1 (bi rfl rfl q_i64_geq) (sm rfl (sp h4 (fun h4 => ?_) (fun h4 => ?_))))))
   ·have q := si h4; subst q
    exact kw rfl (kw rfl (s1 (pkt rfl rfl) (SO.nil ((wq rfl)))))
   ·have q := si h4; subst q
    exact gw rfl (mv rfl) (gw rfl (bi rfl rfl q_i64_lss) (s1 (pkf rfl rfl) (SO.nil ((wq rfl)))))
  ·rintro y393 h3
   refine cB h3 rfl (fun h3 => ?_) (fun h3 => ?_)
   ·have q := si h3; subst q; have q : _ = _ := hv3; subst q; have q := si h1; subst q
    exact SC.exit ((wq rfl))
   ·refine sk (sr (sm rfl (sa rfl (sn (SC.seqP h3 (fun y => ⟨mk 48 [(0, .iface 108 (.ref 0 0 0)), (1, .d (eI p0)), (2, .d (eI p1)), (7, .d (eI y367)), (9, .d (eI y))], [.box (.agg [.d ((eL 8 ePlanPlan) p2), .slc 1 1 p4 p5 none]), .row 1 (List.map eI y368) true]⟩) ?_ ?_)))))
    ·intro u4_402 h4
     refine sr (sm rfl (s1 (bi rfl rfl q_i64_add) (sa rfl (sn (SC.seqP h4 (fun y => ⟨mk 48 [(0, .iface 108 (.ref 0 0 0)), (1, .d (eI p0)), (2, .d (eI p1)), (7, .d (eI y367)), (9, .d (eI (w64 ((w64 ((2 : Int) * y367)) + (1 : Int))))), (10, .d (eI (w64 ((w64 ((w64 ((2 : Int) * y367)) + (1 : Int))) + (1 : Int))))), (33, .d (eB y))], [.box (.agg [.d ((eL 8 ePlanPlan) p2), .slc 1 1 p4 p5 none]), .row 1 (List.map eI y368) true]⟩) ?_ ?_)))))
     ·intro u5_406 h5
      refine SC.region (sm rfl (sm rfl (s1 (bi rfl rfl q_i64_lss) (sm rfl (sp h5 (fun h5 => ?_) (fun h5 => ?_))))))
      ·obtain ⟨r408, hq407, h5⟩ := ob h5; have q := si h5; subst q
       exact gw rfl (mv rfl) (gw rfl (mv rfl) (gw rfl (mv rfl) (iq [1] [] (plan_queue_Less_1_ok p2 y368 p4 p5 (w64 ((w64 ((w64 ((2 : Int) * y367)) + (1 : Int))) + (1 : Int))) (w64 ((w64 ((2 : Int) * y367)) + (1 : Int))) _ hq407) (ww rfl) rfl rfl rfl mt108_Less (recvF (rv := .agg [.d ((eL 8 ePlanPlan) p2), .slc 1 1 p4 p5 none]) un108 (ld_box ts110 ta110 rfl rfl)) cb194 rfl rfl rfl rfl rfl rfl rfl rfl (s1 (pkt rfl rfl) (SO.nil ((wq rfl)))))))
      ·have q := si h5; subst q
       exact kw rfl (kw rfl (kw rfl (kw rfl (s1 (pkf rfl rfl) (SO.nil ((wq rfl)))))))
     ·rintro y405 h4
      refine cB h4 rfl (fun h4 => ?_) (fun h4 => ?_)
      ·have q := si h4; subst q
       exact SC.region (sm rfl (sa rfl (SO.nil ((wq rfl)))))
      ·have q := si h4; subst q
       exact SC.skip ((wq rfl))
    ·rintro y401 h3
     obtain ⟨r410, hq409, h3⟩ := ob h3
     refine sq (sr (sm rfl (sm rfl (sm rfl (iq [1] [] (plan_queue_Less_1_ok p2 y368 p4 p5 y401 y367 _ hq409) wf rfl rfl rfl mt108_Less (recvF (rv := .agg [.d ((eL 8 ePlanPlan) p2), .slc 1 1 p4 p5 none]) un108 (ld_box ts110 ta110 rfl rfl)) cb194 rfl rfl rfl rfl rfl rfl rfl rfl (s1 (nt rfl) (sn (cB h3 rfl (fun h3 => ?_) (fun h3 => ?_)))))))))
     ·have q := si h3; subst q; have q : _ = _ := hv3; subst q; have q := si h1; subst q
      exact SC.exit ((wq rfl))
     ·obtain ⟨r412, hq411, h3⟩ := ob h3; have q := si h3; subst q
      refine sk (sr (sm rfl (sm rfl (sm rfl (iq [1] [] (plan_queue_Swap_1_ok p2 y368 p4 p5 y367 y401 _ hq411) wf rfl rfl rfl mt108_Swap (recvF (rv := .agg [.d ((eL 8 ePlanPlan) p2), .slc 1 1 p4 p5 none]) un108 (ld_box ts110 ta110 rfl rfl)) cb197 rfl rfl rfl rfl rfl rfl rfl rfl (sn (SC.region (sm rfl (sa rfl ?_)))))))))
      exact SO.nil (lf (wq rfl))
 ·rintro ⟨y344, y345⟩ h0
  have q := si h0; subst q
  exact sr (sm rfl (sm rfl (s1 (bi rfl rfl q_i64_gtr) (sa rfl (sn (SC.ret (finR (Wk.refl _) (lresT rfl lresN) rfl)))))))
noncomputable def plan_queue_Pop (p0 : List PlanPlan) (p1 : List Int) (p2 : Nat) (p3 : Nat) : Option Int :=
 Option.bind (getS p1 p2 p3 (w64 ((p3 : Int) - (1 : Int)))) fun v6 =>
 bif decide (0 ≤ (w64 ((p3 : Int) - (1 : Int))) ∧ (w64 ((p3 : Int) - (1 : Int))) ≤ (p3 : Int)) then
 some v6
 else none
theorem plan_queue_Pop_ok (p0 : List PlanPlan) (p1 : List Int) (p2 : Nat) (p3 : Nat) (r : Int) (h0 : plan_queue_Pop p0 p1 p2 p3 = some r) : CallAt Tryz.prog 195 [.ref 0 0 0] [.box (.agg [.d ((eL 8 ePlanPlan) p0), .slc 1 1 p2 p3 none]), .row 1 (List.map eI p1) true] (.iface 3 (.d (eI r))) [.box (.agg [.d ((eL 8 ePlanPlan) p0), .slc 1 1 p2 ((w64 ((p3 : Int) - (1 : Int))).toNat) none]), .row 1 (List.map eI p1) true] := by
 unfold plan_queue_Pop at h0
 refine fn0 [0] Tryz.func195 rfl rfl rfl rfl rfl ?_
 obtain ⟨v6, hv6, h0⟩ := ob h0; obtain ⟨hg7, h0⟩ := gd h0; have q := si h0; subst q
 refine sr (s1 (asg (v := .d .nili) rfl) (sn (sd (by kernel_rfl) (t1 ([], false) (mv rfl) rfl (t1 ([], false) (nkr rfl) rfl (t1 ([], false) (far (k := 1) rfl fo110_1 ts23 rfl) rfl (t1 ([0], false) (lod rfl (ld_box ts23 ta23 rfl rfl)) rfl (t1 ([], false) (mv rfl) rfl (t1 ([], false) (nkr rfl) rfl ?_)))))))))
 refine t1 ([], false) (far (k := 1) rfl fo110_1 ts23 rfl) rfl (t1 ([0], false) (lod rfl (ld_box ts23 ta23 rfl rfl)) rfl (t1 ([], false) (len rfl rfl rfl (len_slc un23)) rfl (t1 ([], false) (bi rfl rfl q_i64_sub) rfl (t1 ([], false) (ias rfl rfl un23 ts3 (getS_some hv6).1) rfl (t1 ([1], false) (lod rfl (ld_row ts3 ta3 rfl (map_get (getS_some hv6).2) rfl)) rfl (t1 ([], false) (asg rfl) rfl (tn (by decide +kernel) (sd (by kernel_rfl) (t1 ([], false) (mv rfl) rfl ?_)))))))))
 refine t1 ([], false) (mv rfl) rfl (t1 ([], false) (nkr rfl) rfl (t1 ([], false) (far (k := 1) rfl fo110_1 ts23 rfl) rfl (t1 ([0], false) (lod rfl (ld_box ts23 ta23 rfl rfl)) rfl (t1 ([], false) (mv rfl) rfl (t1 ([], false) (nkr rfl) rfl (t1 ([], false) (far (k := 1) rfl fo110_1 ts23 rfl) rfl (t1 ([0], false) (lod rfl (ld_box ts23 ta23 rfl rfl)) rfl (t1 ([], false) (len rfl rfl rfl (len_slc un23)) rfl (t1 ([], false) (bi rfl rfl q_i64_sub) rfl ?_)))))))))
 refine t1 ([], false) (slo rfl rfl rfl rfl (sl_slc_hi un23 ts3 hg7)) rfl (t1 ([], false) (nkr rfl) rfl (t1 ([], false) (far (k := 1) rfl fo110_1 ts23 rfl) rfl (t0 ([0, 1], true) (sto rfl rfl (sB (d' := .agg [.d ((eL 8 ePlanPlan) p0), .slc 1 1 p2 ((w64 ((p3 : Int) - (1 : Int))).toNat) none]) ts23 rfl rfl rfl rfl rfl rfl rfl)) rfl (tn (by decide +kernel) (sr (sm rfl (s1 (mki rfl ni3) (sa rfl (sn ?_)))))))))
 exact SC.ret (finR (Wk.refl _) (lresT rfl lresN) rfl)
noncomputable def container_heap_Pop (p0 : List PlanPlan) (p1 : List Int) (p2 : Nat) (p3 : Nat) : Option (Int × (List Int)) :=
 Option.bind (plan_queue_Len_1 p0 p1 p2 p3) fun _ =>
 Option.bind (plan_queue_Swap_1 p0 p1 p2 p3 (0 : Int) (w64 ((p3 : Int) - (1 : Int)))) fun r21 =>
 Option.bind (container_heap_down (0 : Int) (w64 ((p3 : Int) - (1 : Int))) p0 r21 p2 p3) fun (r23, r24) =>
 Option.bind (plan_queue_Pop p0 r24 p2 p3) fun r26 =>
 some (r26, r24)
theorem container_heap_Pop_ok (p0 : List PlanPlan) (p1 : List Int) (p2 : Nat) (p3 : Nat) (r : Int × (List Int)) (h0 : container_heap_Pop p0 p1 p2 p3 = some r) : CallAt Tryz.prog 53 [.iface 108 (.ref 0 0 0)] [.box (.agg [.d ((eL 8 ePlanPlan) p0), .slc 1 1 p2 p3 none]), .row 1 (List.map eI p1) true] (.iface 3 (.d (eI r.1))) [.box (.agg [.d ((eL 8 ePlanPlan) p0), .slc 1 1 p2 ((w64 ((p3 : Int) - (1 : Int))).toNat) none]), .row 1 (List.map eI r.2) true] := by
 unfold container_heap_Pop at h0
 refine fn0 [0] Tryz.func53 rfl rfl rfl rfl rfl ?_
 obtain ⟨_, hq19, h0⟩ := ob h0; obtain ⟨r21, hq20, h0⟩ := ob h0; obtain ⟨⟨r23, r24⟩, hq22, h0⟩ := ob h0; obtain ⟨r26, hq25, h0⟩ := ob h0; have q := si h0; subst q
 refine sr (s1 (asg (v := .d .nili) rfl) (sn (sr (sm rfl (iq [1] [] (plan_queue_Len_1_ok p0 p1 p2 p3 _ hq19) wf rfl rfl rfl mt108_Len (recvF (rv := .agg [.d ((eL 8 ePlanPlan) p0), .slc 1 1 p2 p3 none]) un108 (ld_box ts110 ta110 rfl rfl)) cb52 rfl rfl rfl rfl rfl rfl rfl rfl (s1 (bi rfl rfl q_i64_sub) (sa rfl (sn (sr ?_)))))))))
 refine sm rfl (sm rfl (iq [1] [] (plan_queue_Swap_1_ok p0 p1 p2 p3 (0 : Int) (w64 ((p3 : Int) - (1 : Int))) _ hq20) wf rfl rfl rfl mt108_Swap (recvF (rv := .agg [.d ((eL 8 ePlanPlan) p0), .slc 1 1 p2 p3 none]) un108 (ld_box ts110 ta110 rfl rfl)) cb197 rfl rfl rfl rfl rfl rfl rfl rfl (sn (sr (sm rfl (sm rfl (cq [0, 1] [] (container_heap_down_ok (0 : Int) (w64 ((p3 : Int) - (1 : Int))) p0 r21 p2 p3 _ hq22) wf rfl rfl rfl cb89 rfl rfl rfl rfl rfl rfl rfl rfl (sn (sr ?_)))))))))
 exact sm rfl (iq [0, 1] [] (plan_queue_Pop_ok p0 r24 p2 p3 _ hq25) wf rfl rfl rfl mt108_Pop (recvT un108) cb195 rfl rfl rfl rfl rfl rfl rfl rfl (sa rfl (sn (SC.ret (finR (Wk.refl _) (lresT rfl lresN) rfl)))))
noncomputable def plan_Best (p0 : List PlanPlan) : Option ((List Int)) :=
 Option.bind (α := (List Int) × Nat)
 (Option.bind (α := (List Int) × Nat)
 (loop (Y := Int × (List Int) × Nat) (W := (List Int) × Nat) (fun (y188, y189, y190) =>
 bif (decide (y188 < (p0.length : Int))) then
 Option.bind (container_heap_Push_1 y188 p0 y189 0 y190) fun r199 =>
 some (Sum.inl ((w64 (y188 + (1 : Int))), r199, (List.take y190 (List.drop 0 y189) ++ [y188]).length))
 else
 some (Sum.inr (y189, y190))) ((0 : Int), ([] : List Int), ([] : List Int).length))
 (fun e => some e))
 fun (y183, y184) =>
 Option.bind (α := (List Int))
 (Option.bind (α := (List Int))
 (loop (Y := (List Int) × (List Int) × Nat) (W := (List Int)) (fun (y232, y233, y234) =>
 Option.bind (plan_queue_Len_1 p0 y233 0 y234) fun _ =>
 bif (decide ((y234 : Int) > (0 : Int))) then
 Option.bind (container_heap_Pop p0 y233 0 y234) fun (r247, r248) =>
 bif decide ((y232.length + [r247].length) * 8 ≤ room) then
 some (Sum.inl ((y232 ++ [r247]), r248, (w64 ((y234 : Int) - (1 : Int))).toNat))
 else none
 else
 some (Sum.inr y232)) (([] : List Int), y183, y184))
 (fun e => some e))
 fun y225 =>
 some y225
theorem plan_Best_ok (p0 : List PlanPlan) (r : (List Int)) (h0 : plan_Best p0 = some r) : CallAt Tryz.prog 19 [.d ((eL 8 ePlanPlan) p0)] [] (.d ((eL 1 eI) r)) [] := by
 unfold plan_Best at h0
 refine fn0 [0] Tryz.func19 rfl rfl rfl rfl rfl ?_
 refine sr (s1 (asg (v := .d .nils) rfl) (sn (sr (sm rfl (s1 (bld rfl (bd110_0 p0)) (s1 (bxo (k := 0) rfl rfl rfl) (sa rfl (sn (SC.seqP h0 (fun y => ⟨mk 33 [(3, .ref 0 0 0)], [.box (.agg [.d ((eL 8 ePlanPlan) p0), .slc 1 1 0 y.2 none]), .row 1 (List.map eI y.1) true]⟩) ?_ ?_)))))))))
 ·intro u1_185 h1
  obtain ⟨u2_197, h2, h1⟩ := ob h1
  refine sr (sm rfl (s1 (len rfl rfl rfl (len_lst un41)) (sm rfl (sn (SC.blk (SC.loopB h2 (fun y => ⟨mk 33 [(3, .ref 0 0 0), (10, .d (eI (p0.length : Int))), (11, .d (eI y.1))], [.box (.agg [.d ((eL 8 ePlanPlan) p0), .slc 1 1 0 y.2.2 none]), .row 1 (List.map eI y.2.1) true]⟩) (Wk.trans (Wk.pushE (σ' := [.box (.d (.agg [((eL 8 ePlanPlan) p0), .nils])), .row 1 (List.map eI ([] : List Int)) true]) (.row 1 [] true) (fun _ hh => by cases hh) rfl) (Wk.trans (Wk.boxE (id := 0) (y := .agg [.d ((eL 8 ePlanPlan) p0), .slc 1 1 0 (([] : List Int).length) none]) (σ' := [.box (.agg [.d ((eL 8 ePlanPlan) p0), .slc 1 1 0 (([] : List Int).length) none]), .row 1 (List.map eI ([] : List Int)) true]) rfl (AWs.cons (AW.refl _) (AWs.cons (AW.slcn _ _ _) AWs.nil)) rfl) (wq rfl))) ?_))))))
  intro n200
  rintro ⟨y188, y189, y190⟩ w2_196 h3 hv3
  refine sr (s1 (bi rfl rfl q_i64_lss) (sn (sq (cB h3 rfl (fun h3 => ?_) (fun h3 => ?_)))))
  ·obtain ⟨r199, hq198, h3⟩ := ob h3
   refine sk (sq (SC.blk (sr (sm rfl (sa rfl (sn (SC.region (sm rfl (s1 (mki rfl ni108) ?_)))))))))
   refine sm rfl (s1 (mki rfl ni3) (cq [0, 1] [2] (container_heap_Push_1_ok y188 p0 y189 0 y190 _ hq198) wf rfl rfl rfl cb51 rfl rfl rfl rfl rfl rfl rfl rfl (SO.nil ?_)))
   change SC _ _ _ _ _
   have q := si h3; subst q
   exact SC.region (s1 (bi rfl rfl q_i64_add) (sm rfl (SO.nil (lf (wc [0, 2] [0] (by kernel_rfl) rfl (by kernel_rfl))))))
  ·have q := si h3; subst q; have q : _ = _ := hv3; subst q; have q := si h1; subst q
   exact SC.exit ((wq rfl))
 ·rintro ⟨y183, y184⟩ h0
  refine sr (s1 (asg (v := .d .nils) rfl) (sn (SC.seqP h0 (fun y => ⟨mk 33 [(5, .slc 0 1 0 y.length none)], [.row 1 (List.map eI y) true]⟩) ?_ ?_)))
  ·intro u1_226 h1
   obtain ⟨u2_244, h2, h1⟩ := ob h1
   refine SC.blk (SC.loopB h2 (fun y => ⟨mk 33 [(3, .ref 0 0 0), (5, .slc 1 1 0 y.1.length none)], [.box (.agg [.d ((eL 8 ePlanPlan) p0), .slc 2 1 0 y.2.2 none]), .row 1 (List.map eI y.1) true, .row 1 (List.map eI y.2.1) true]⟩) (Wk.trans (Wk.pushE (σ' := [.box (.agg [.d ((eL 8 ePlanPlan) p0), .slc 1 1 0 y184 none]), .row 1 (List.map eI y183) true, .row 1 (List.map eI ([] : List Int)) true]) (.row 1 [] true) (fun _ hh => by cases hh) rfl) (Wk.trans (Wk.env (e' := [(3, .ref 0 0 0), (5, .slc 2 1 0 (([] : List Int).length) none)]) (EW.cons (AW.refl _) (EW.cons (AW.slcn _ _ _) EW.nil))) (wc [0, 2, 1] [0, 2] (by kernel_rfl) rfl (by kernel_rfl)))) ?_)
   intro n250
   rintro ⟨y232, y233, y234⟩ w2_243 h3 hv3
   obtain ⟨_, hq245, h3⟩ := ob h3
   refine sq (sr (sm rfl (s1 (nkr rfl) (s1 (lod (v := .agg [.d ((eL 8 ePlanPlan) p0), .slc 2 1 0 y234 none]) rfl (ld_box ts110 ta110 rfl rfl)) (cq [2] [] (plan_queue_Len_1_ok p0 y233 0 y234 _ hq245) wf rfl rfl rfl cb52 rfl rfl rfl rfl rfl rfl rfl rfl (s1 (bi rfl rfl q_i64_gtr) (sn (cB h3 rfl (fun h3 => ?_) (fun h3 => ?_)))))))))
   ·obtain ⟨⟨r247, r248⟩, hq246, h3⟩ := ob h3; obtain ⟨hg249, h3⟩ := gd h3; have q := si h3; subst q
    refine sk (SC.blk (SC.region (sm rfl (sm rfl (s1 (mki rfl ni108) (cq [0, 2] [] (container_heap_Pop_ok p0 y233 0 y234 _ hq246) wf rfl rfl rfl cb53 rfl rfl rfl rfl rfl rfl rfl rfl (s1 (tya rfl ni3) (s1 (bsn (k := 3) (ds := List.map eI [r247]) (off := 0) (l' := [r247].length) rfl un23 ei3 rfl rfl (by rfl) rfl rfl rfl) (s1 (app rfl rfl rfl rfl bc23 (aF (f := eI) (xs := y232) (k := 4) rfl un23 ei3 rfl (el_full (xs := [r247]) rfl) hg249 rfl)) ?_)))))))))
    exact sa rfl (SO.nil (lf (wc [0, 4, 2] [0, 4] (by kernel_rfl) rfl (by kernel_rfl))))
   ·have q := si h3; subst q; have q : _ = _ := hv3; subst q; have q := si h1; subst q
    exact SC.exit ((wc [1] [1] (by kernel_rfl) rfl (by kernel_rfl)))
  ·rintro y225 h0
   have q := si h0; subst q
   exact sr (sm rfl (sa rfl (sn (SC.ret (finR (Wk.trans (Wk.frz (i := 2) (x := .slc 0 1 0 y225.length none) rfl rfl (fF rfl rfl rfl)) (wc (e' := [(2, .d ((eL 1 eI) y225))]) [] [] (by kernel_rfl) rfl (by kernel_rfl))) (lresT rfl lresN) rfl)))))
noncomputable def raw_Ints (p0 : List Int) (p1 : List Int) : Option Bool :=
 bif ((p0.length : Int) != (p1.length : Int)) then
 some false
 else
 bindE (Y := Unit) (E := Bool)
 (Option.bind (α := Unit ⊕ Bool)
 (loop (Y := Int) (W := Unit ⊕ Bool) (fun y62 =>
 bif (decide (y62 < (p0.length : Int))) then
 Option.bind (getI p0 y62) fun v68 =>
 Option.bind (getI p1 y62) fun v69 =>
 bif (v68 != v69) then
 some (Sum.inr (Sum.inr false))
 else
 some (Sum.inl (w64 (y62 + (1 : Int))))
 else
 some (Sum.inr (Sum.inl ()))) (0 : Int))
 (Sum.elim (fun e => some (Sum.inl e)) (fun e => some (Sum.inr e))))
 (fun _ =>
 some true)
 (fun e => some e)
theorem raw_Ints_ok (p0 : List Int) (p1 : List Int) (r : Bool) (h0 : raw_Ints p0 p1 = some r) : CallAt Tryz.prog 15 [.d ((eL 1 eI) p0), .d ((eL 1 eI) p1)] [] (.d (eB r)) [] := by
 unfold raw_Ints at h0
 refine fn0 [0, 1] Tryz.func15 rfl rfl rfl rfl rfl ?_
 refine sr (sa rfl (sn (sq (sr (sm rfl (s1 (len rfl rfl rfl (len_lst un23)) (sm rfl (s1 (len rfl rfl rfl (len_lst un23)) (s1 (bi rfl rfl q_i64_neq) ?_)))))))))
 refine sn (cB h0 rfl (fun h0 => ?_) (fun h0 => ?_))
 ·have q := si h0; subst q
  exact sr (sa rfl (sn (SC.ret (finR (Wk.refl _) (lresT rfl lresN) rfl))))
 ·refine sk (SC.seqB h0 (fun y => ⟨mk 26 [], []⟩) ?_ ?_)
  ·intro u1_59 h1 h0
   obtain ⟨u2_67, h2, h1⟩ := ob h1
   refine sr (sa rfl (sn (SC.blk (SC.loopB h2 (fun y => ⟨mk 26 [(0, .d ((eL 1 eI) p0)), (1, .d ((eL 1 eI) p1)), (5, .d (eI y))], []⟩) (wq rfl) ?_))))
   intro n70
   rintro y62 w2_66 h3 hv3
   refine sq (sr (sm rfl (sm rfl (s1 (len rfl rfl rfl (len_lst un23)) (s1 (bi rfl rfl q_i64_lss) (sn (cB h3 rfl (fun h3 => ?_) (fun h3 => ?_))))))))
   ·obtain ⟨v68, hv68, h3⟩ := ob h3; obtain ⟨v69, hv69, h3⟩ := ob h3
    refine sk (sq (SC.blk (sd (by kernel_rfl) (t1 ([], false) (mv rfl) rfl (t1 ([], false) (mv rfl) rfl (t1 ([], false) (ial rfl rfl un23 ts3 (getI_some hv68).1 (map_get (getI_some hv68).2) rfl) rfl (t1 ([], false) (lod rfl (ld_rop ts3 ta3 rfl)) rfl (t1 ([], false) (mv rfl) rfl (t1 ([], false) (mv rfl) rfl ?_)))))))))
    refine t1 ([], false) (ial rfl rfl un23 ts3 (getI_some hv69).1 (map_get (getI_some hv69).2) rfl) rfl (t1 ([], false) (lod rfl (ld_rop ts3 ta3 rfl)) rfl (t1 ([], false) (bi rfl rfl q_i64_neq) rfl (tn (by decide +kernel) (cB h3 rfl (fun h3 => ?_) (fun h3 => ?_)))))
    ·have q := si h3; subst q; have q : _ = _ := hv3; subst q; have q := si h1; subst q; have q := si h0; subst q
     exact sr (sa rfl (sn (SC.ret (finR (Wk.refl _) (lresT rfl lresN) rfl))))
    ·refine SC.skip ?_
     change SC _ _ _ _ _
     have q := si h3; subst q
     exact SC.region (sm rfl (s1 (bi rfl rfl q_i64_add) (sa rfl (SO.nil (lf (wq rfl))))))
   ·have q := si h3; subst q; have q : _ = _ := hv3; subst q; have q := si h1; subst q
    exact SC.exit (lf (wq rfl))
  ·intro _ h0
   have q := si h0; subst q
   exact sr (sa rfl (sn (SC.ret (finR (Wk.refl _) (lresT rfl lresN) rfl))))
noncomputable def law21_awake : Option Bool :=
 Option.bind (plan_Plans (ApiTable.mk ([97] : List UInt8) [(ApiColumn.mk ([105, 100] : List UInt8) (1 : Int) (0 : Int) false (ApiValue.mk (1 : Int) (0 : UInt64) ([] : List UInt8))), (ApiColumn.mk ([110] : List UInt8) (1 : Int) (0 : Int) false (ApiValue.mk (1 : Int) (0 : UInt64) ([] : List UInt8)))] [(0 : Int)] [(ApiIndex.mk ([120] : List UInt8) [(ApiPart.mk (1 : Int) false)] ([] : List Int) false true (3 : Int))] (2 : Int)) (PlanQuery.mk [(PredNode.mk (2 : Int) (1 : Int) (3 : Int) (ApiValue.mk (1 : Int) (5 : UInt64) ([] : List UInt8)))] [(0 : Int)] ([] : List ApiPart) (-1 : Int))) fun r63 =>
 Option.bind (α := Bool)
 (Option.bind (plan_Check (ApiTable.mk ([97] : List UInt8) [(ApiColumn.mk ([105, 100] : List UInt8) (1 : Int) (0 : Int) false (ApiValue.mk (1 : Int) (0 : UInt64) ([] : List UInt8))), (ApiColumn.mk ([110] : List UInt8) (1 : Int) (0 : Int) false (ApiValue.mk (1 : Int) (0 : UInt64) ([] : List UInt8)))] [(0 : Int)] [(ApiIndex.mk ([120] : List UInt8) [(ApiPart.mk (1 : Int) false)] ([] : List Int) false true (3 : Int))] (2 : Int)) (PlanQuery.mk [(PredNode.mk (2 : Int) (1 : Int) (3 : Int) (ApiValue.mk (1 : Int) (5 : UInt64) ([] : List UInt8)))] [(0 : Int)] ([] : List ApiPart) (-1 : Int))) fun r80 =>
 bif (r80 == (0 : Int)) then
 bif ((r63.length : Int) == (2 : Int)) then
 Option.bind (getI r63 (0 : Int)) fun v81 =>
 bif (v81.Index == (-1 : Int)) then
 Option.bind (getI r63 (1 : Int)) fun v82 =>
 bif v82.Covers then
 Option.bind (getI r63 (1 : Int)) fun v83 =>
 bif (v83.Cost == (101 : Int)) then
 Option.bind (plan_Best r63) fun r85 =>
 Option.bind (raw_Ints r85 [(1 : Int), (0 : Int)]) fun r87 =>
 bif r87 then
 Option.bind (plan_Needs (PlanQuery.mk [(PredNode.mk (2 : Int) (1 : Int) (3 : Int) (ApiValue.mk (1 : Int) (5 : UInt64) ([] : List UInt8)))] [(0 : Int)] ([] : List ApiPart) (-1 : Int))) fun r89 =>
 Option.bind (raw_Ints r89 [(0 : Int), (1 : Int)]) fun r91 =>
 some r91
 else
 some false
 else
 some false
 else
 some false
 else
 some false
 else
 some false
 else
 some false)
 fun y77 =>
 some y77
theorem law21_awake_ok (r : Bool) (h0 : law21_awake = some r) : CallAt Tryz.prog 7 [] [] (.d (eB r)) [] := by
 unfold law21_awake at h0
 refine fn0 [] Tryz.func7 rfl rfl rfl rfl rfl ?_
 obtain ⟨r63, hq62, h0⟩ := ob h0
 refine sr (sa rfl (sn (sr (s1 (bld rfl (bd74_0 (1 : Int))) (s1 (bld rfl (bd76_0_1_4 ([105, 100] : List UInt8) (1 : Int) (ApiValue.mk (1 : Int) (0 : UInt64) ([] : List UInt8)))) (s1 (bld rfl (bd74_0 (1 : Int))) (s1 (bld rfl (bd76_0_1_4 ([110] : List UInt8) (1 : Int) (ApiValue.mk (1 : Int) (0 : UInt64) ([] : List UInt8)))) (s1 (bsn (k := 0) (ds := List.map eApiColumn [(ApiColumn.mk ([105, 100] : List UInt8) (1 : Int) (0 : Int) false (ApiValue.mk (1 : Int) (0 : UInt64) ([] : List UInt8))), (ApiColumn.mk ([110] : List UInt8) (1 : Int) (0 : Int) false (ApiValue.mk (1 : Int) (0 : UInt64) ([] : List UInt8)))]) (off := 0) (l' := [(ApiColumn.mk ([105, 100] : List UInt8) (1 : Int) (0 : Int) false (ApiValue.mk (1 : Int) (0 : UInt64) ([] : List UInt8))), (ApiColumn.mk ([110] : List UInt8) (1 : Int) (0 : Int) false (ApiValue.mk (1 : Int) (0 : UInt64) ([] : List UInt8)))].length) rfl un22 ei76 rfl rfl (by rfl) rfl rfl rfl) (s1 (bsn (k := 1) (ds := List.map eI [(0 : Int)]) (off := 0) (l' := [(0 : Int)].length) rfl un23 ei3 rfl rfl (by rfl) rfl rfl rfl) ?_)))))))))
 refine s1 (bld rfl (bd26_0_1_2_4 ([97] : List UInt8) (2 : Int))) (s1 (alo (k := 2) zo26 rfl) (s0 (sto rfl rfl (sB (d' := .agg [.d (eS ([97] : List UInt8)), .slc 0 7 0 ([(ApiColumn.mk ([105, 100] : List UInt8) (1 : Int) (0 : Int) false (ApiValue.mk (1 : Int) (0 : UInt64) ([] : List UInt8))), (ApiColumn.mk ([110] : List UInt8) (1 : Int) (0 : Int) false (ApiValue.mk (1 : Int) (0 : UInt64) ([] : List UInt8)))].length) none, .slc 1 1 0 ([(0 : Int)].length) none, .d .nils, .d (eI (2 : Int))]) ts26 rfl rfl rfl rfl rfl rfl rfl)) (sn (sr (s1 (bld rfl (bd78_0 (1 : Int))) (s1 (bsn (k := 3) (ds := List.map eApiPart [(ApiPart.mk (1 : Int) false)]) (off := 0) (l' := [(ApiPart.mk (1 : Int) false)].length) rfl un28 ei78 rfl rfl (by rfl) rfl rfl rfl) (s1 (bld rfl (bd60_0_1_4_5 ([120] : List UInt8) true (3 : Int))) (SO.wk (Wk.frzs (i := 13) (x := .agg [.d (eS ([120] : List UInt8)), .slc 3 2 0 ([(ApiPart.mk (1 : Int) false)].length) none, .d .nils, .d (eB false), .d (eB true), .d (eI (3 : Int))]) rfl rfl rfl (frzs_d rfl (frzs_slc (fF rfl rfl rfl) (frzs_d rfl (frzs_d rfl (frzs_d rfl (frzs_d rfl frzs_nil))))))) (SO.wk (Wk.put1 (i := 13) (x := .d (.agg [(eS ([120] : List UInt8)), ((eL 2 eApiPart) [(ApiPart.mk (1 : Int) false)]), .nils, (eB false), (eB true), (eI (3 : Int))])) (y := .d (eApiIndex (ApiIndex.mk ([120] : List UInt8) [(ApiPart.mk (1 : Int) false)] ([] : List Int) false true (3 : Int)))) rfl rfl (AW.aggd rfl (AWs.cons (AW.refl _) (AWs.cons (AW.refl _) (AWs.cons (AW.nl _) (AWs.cons (AW.refl _) (AWs.cons (AW.refl _) (AWs.cons (AW.refl _) AWs.nil)))))))) ?_)))))))))
 refine s1 (bsn (k := 4) (ds := List.map eApiIndex [(ApiIndex.mk ([120] : List UInt8) [(ApiPart.mk (1 : Int) false)] ([] : List Int) false true (3 : Int))]) (off := 0) (l' := [(ApiIndex.mk ([120] : List UInt8) [(ApiPart.mk (1 : Int) false)] ([] : List Int) false true (3 : Int))].length) rfl un24 ei60 rfl rfl (by rfl) rfl rfl rfl) (s1 (far (k := 3) rfl fo26_3 ts24 rfl) (s0 (sto rfl rfl (sB (d' := .agg [.d (eS ([97] : List UInt8)), .slc 0 7 0 ([(ApiColumn.mk ([105, 100] : List UInt8) (1 : Int) (0 : Int) false (ApiValue.mk (1 : Int) (0 : UInt64) ([] : List UInt8))), (ApiColumn.mk ([110] : List UInt8) (1 : Int) (0 : Int) false (ApiValue.mk (1 : Int) (0 : UInt64) ([] : List UInt8)))].length) none, .slc 1 1 0 ([(0 : Int)].length) none, .slc 4 6 0 ([(ApiIndex.mk ([120] : List UInt8) [(ApiPart.mk (1 : Int) false)] ([] : List Int) false true (3 : Int))].length) none, .d (eI (2 : Int))]) ts24 rfl rfl rfl rfl rfl rfl rfl)) (sn (sr (s1 (bld rfl (bd74_0_1 (1 : Int) (5 : UInt64))) (s1 (bld rfl (bd80_0_1_2_3 (2 : Int) (1 : Int) (3 : Int) (ApiValue.mk (1 : Int) (5 : UInt64) ([] : List UInt8)))) (s1 (bsn (k := 5) (ds := List.map ePredNode [(PredNode.mk (2 : Int) (1 : Int) (3 : Int) (ApiValue.mk (1 : Int) (5 : UInt64) ([] : List UInt8)))]) (off := 0) (l' := [(PredNode.mk (2 : Int) (1 : Int) (3 : Int) (ApiValue.mk (1 : Int) (5 : UInt64) ([] : List UInt8)))].length) rfl un27 ei80 rfl rfl (by rfl) rfl rfl rfl) (s1 (bsn (k := 6) (ds := List.map eI [(0 : Int)]) (off := 0) (l' := [(0 : Int)].length) rfl un23 ei3 rfl rfl (by rfl) rfl rfl rfl) ?_))))))))
 refine s1 (bld rfl (bd30_0_1_3 (-1 : Int))) (s1 (alo (k := 7) zo30 rfl) (s0 (sto rfl rfl (sB (d' := .agg [.slc 5 6 0 ([(PredNode.mk (2 : Int) (1 : Int) (3 : Int) (ApiValue.mk (1 : Int) (5 : UInt64) ([] : List UInt8)))].length) none, .slc 6 1 0 ([(0 : Int)].length) none, .d .nils, .d (eI (-1 : Int))]) ts30 rfl rfl rfl rfl rfl rfl rfl)) (sn (sr (s1 (lod (v := .agg [.d (eS ([97] : List UInt8)), .slc 0 7 0 ([(ApiColumn.mk ([105, 100] : List UInt8) (1 : Int) (0 : Int) false (ApiValue.mk (1 : Int) (0 : UInt64) ([] : List UInt8))), (ApiColumn.mk ([110] : List UInt8) (1 : Int) (0 : Int) false (ApiValue.mk (1 : Int) (0 : UInt64) ([] : List UInt8)))].length) none, .slc 1 1 0 ([(0 : Int)].length) none, .slc 4 6 0 ([(ApiIndex.mk ([120] : List UInt8) [(ApiPart.mk (1 : Int) false)] ([] : List Int) false true (3 : Int))].length) none, .d (eI (2 : Int))]) rfl (ld_box ts26 ta26 rfl rfl)) (s1 (lod (v := .agg [.slc 5 6 0 ([(PredNode.mk (2 : Int) (1 : Int) (3 : Int) (ApiValue.mk (1 : Int) (5 : UInt64) ([] : List UInt8)))].length) none, .slc 6 1 0 ([(0 : Int)].length) none, .d .nils, .d (eI (-1 : Int))]) rfl (ld_box ts30 ta30 rfl rfl)) (cq (args' := [.agg [.d (eS ([97] : List UInt8)), .slc 0 7 0 ([(ApiColumn.mk ([105, 100] : List UInt8) (1 : Int) (0 : Int) false (ApiValue.mk (1 : Int) (0 : UInt64) ([] : List UInt8))), (ApiColumn.mk ([110] : List UInt8) (1 : Int) (0 : Int) false (ApiValue.mk (1 : Int) (0 : UInt64) ([] : List UInt8)))].length) none, .slc 1 1 0 ([(0 : Int)].length) none, .slc 2 6 0 ([(ApiIndex.mk ([120] : List UInt8) [(ApiPart.mk (1 : Int) false)] ([] : List Int) false true (3 : Int))].length) none, .d (eI (2 : Int))], .agg [.slc 3 6 0 ([(PredNode.mk (2 : Int) (1 : Int) (3 : Int) (ApiValue.mk (1 : Int) (5 : UInt64) ([] : List UInt8)))].length) none, .slc 4 1 0 ([(0 : Int)].length) none, .d .nils, .d (eI (-1 : Int))]]) (σc := [.row 7 (List.map eApiColumn [(ApiColumn.mk ([105, 100] : List UInt8) (1 : Int) (0 : Int) false (ApiValue.mk (1 : Int) (0 : UInt64) ([] : List UInt8))), (ApiColumn.mk ([110] : List UInt8) (1 : Int) (0 : Int) false (ApiValue.mk (1 : Int) (0 : UInt64) ([] : List UInt8)))]) true, .row 1 (List.map eI [(0 : Int)]) true, .row 6 (List.map eApiIndex [(ApiIndex.mk ([120] : List UInt8) [(ApiPart.mk (1 : Int) false)] ([] : List Int) false true (3 : Int))]) true, .row 6 (List.map ePredNode [(PredNode.mk (2 : Int) (1 : Int) (3 : Int) (ApiValue.mk (1 : Int) (5 : UInt64) ([] : List UInt8)))]) true, .row 1 (List.map eI [(0 : Int)]) true]) [0, 1, 4, 5, 6] [] (CallAt.frz (ArgF.frzw (y := .d (eApiTable (ApiTable.mk ([97] : List UInt8) [(ApiColumn.mk ([105, 100] : List UInt8) (1 : Int) (0 : Int) false (ApiValue.mk (1 : Int) (0 : UInt64) ([] : List UInt8))), (ApiColumn.mk ([110] : List UInt8) (1 : Int) (0 : Int) false (ApiValue.mk (1 : Int) (0 : UInt64) ([] : List UInt8)))] [(0 : Int)] [(ApiIndex.mk ([120] : List UInt8) [(ApiPart.mk (1 : Int) false)] ([] : List Int) false true (3 : Int))] (2 : Int)))) rfl (frzs_d rfl (frzs_slc (fF rfl rfl rfl) (frzs_slc (fF rfl rfl rfl) (frzs_slc (fF rfl rfl rfl) (frzs_d rfl frzs_nil))))) (AW.aggd rfl (AWs.cons (AW.refl _) (AWs.cons (AW.refl _) (AWs.cons (AW.refl _) (AWs.cons (AW.refl _) (AWs.cons (AW.refl _) AWs.nil)))))) (ArgF.frzw (y := .d (ePlanQuery (PlanQuery.mk [(PredNode.mk (2 : Int) (1 : Int) (3 : Int) (ApiValue.mk (1 : Int) (5 : UInt64) ([] : List UInt8)))] [(0 : Int)] ([] : List ApiPart) (-1 : Int)))) rfl (frzs_slc (fF rfl rfl rfl) (frzs_slc (fF rfl rfl rfl) (frzs_d rfl (frzs_d rfl frzs_nil)))) (AW.aggd rfl (AWs.cons (AW.refl _) (AWs.cons (AW.refl _) (AWs.cons (AW.nl _) (AWs.cons (AW.refl _) AWs.nil))))) (ArgF.nil _))) (fq [] [] (plan_Plans_ok (ApiTable.mk ([97] : List UInt8) [(ApiColumn.mk ([105, 100] : List UInt8) (1 : Int) (0 : Int) false (ApiValue.mk (1 : Int) (0 : UInt64) ([] : List UInt8))), (ApiColumn.mk ([110] : List UInt8) (1 : Int) (0 : Int) false (ApiValue.mk (1 : Int) (0 : UInt64) ([] : List UInt8)))] [(0 : Int)] [(ApiIndex.mk ([120] : List UInt8) [(ApiPart.mk (1 : Int) false)] ([] : List Int) false true (3 : Int))] (2 : Int)) (PlanQuery.mk [(PredNode.mk (2 : Int) (1 : Int) (3 : Int) (ApiValue.mk (1 : Int) (5 : UInt64) ([] : List UInt8)))] [(0 : Int)] ([] : List ApiPart) (-1 : Int)) _ hq62) rfl rfl rfl rfl rfl rfl rfl rfl)) wf rfl rfl rfl cb13 rfl rfl rfl rfl rfl rfl rfl rfl ?_)))))))
 refine sa rfl (sn (SC.seqP h0 (fun y => ⟨mk 65 [(0, .d (eB y))], []⟩) ?_ ?_))
 ·intro u1_78 h1
  obtain ⟨r80, hq79, h1⟩ := ob h1
  refine SC.region (s1 (lod (v := .agg [.d (eS ([97] : List UInt8)), .slc 0 7 0 ([(ApiColumn.mk ([105, 100] : List UInt8) (1 : Int) (0 : Int) false (ApiValue.mk (1 : Int) (0 : UInt64) ([] : List UInt8))), (ApiColumn.mk ([110] : List UInt8) (1 : Int) (0 : Int) false (ApiValue.mk (1 : Int) (0 : UInt64) ([] : List UInt8)))].length) none, .slc 1 1 0 ([(0 : Int)].length) none, .slc 4 6 0 ([(ApiIndex.mk ([120] : List UInt8) [(ApiPart.mk (1 : Int) false)] ([] : List Int) false true (3 : Int))].length) none, .d (eI (2 : Int))]) rfl (ld_box ts26 ta26 rfl rfl)) (s1 (lod (v := .agg [.slc 5 6 0 ([(PredNode.mk (2 : Int) (1 : Int) (3 : Int) (ApiValue.mk (1 : Int) (5 : UInt64) ([] : List UInt8)))].length) none, .slc 6 1 0 ([(0 : Int)].length) none, .d .nils, .d (eI (-1 : Int))]) rfl (ld_box ts30 ta30 rfl rfl)) (cq (args' := [.agg [.d (eS ([97] : List UInt8)), .slc 0 7 0 ([(ApiColumn.mk ([105, 100] : List UInt8) (1 : Int) (0 : Int) false (ApiValue.mk (1 : Int) (0 : UInt64) ([] : List UInt8))), (ApiColumn.mk ([110] : List UInt8) (1 : Int) (0 : Int) false (ApiValue.mk (1 : Int) (0 : UInt64) ([] : List UInt8)))].length) none, .slc 1 1 0 ([(0 : Int)].length) none, .slc 2 6 0 ([(ApiIndex.mk ([120] : List UInt8) [(ApiPart.mk (1 : Int) false)] ([] : List Int) false true (3 : Int))].length) none, .d (eI (2 : Int))], .agg [.slc 3 6 0 ([(PredNode.mk (2 : Int) (1 : Int) (3 : Int) (ApiValue.mk (1 : Int) (5 : UInt64) ([] : List UInt8)))].length) none, .slc 4 1 0 ([(0 : Int)].length) none, .d .nils, .d (eI (-1 : Int))]]) (σc := [.row 7 (List.map eApiColumn [(ApiColumn.mk ([105, 100] : List UInt8) (1 : Int) (0 : Int) false (ApiValue.mk (1 : Int) (0 : UInt64) ([] : List UInt8))), (ApiColumn.mk ([110] : List UInt8) (1 : Int) (0 : Int) false (ApiValue.mk (1 : Int) (0 : UInt64) ([] : List UInt8)))]) false, .row 1 (List.map eI [(0 : Int)]) false, .row 6 (List.map eApiIndex [(ApiIndex.mk ([120] : List UInt8) [(ApiPart.mk (1 : Int) false)] ([] : List Int) false true (3 : Int))]) false, .row 6 (List.map ePredNode [(PredNode.mk (2 : Int) (1 : Int) (3 : Int) (ApiValue.mk (1 : Int) (5 : UInt64) ([] : List UInt8)))]) false, .row 1 (List.map eI [(0 : Int)]) false]) [0, 1, 4, 5, 6] [] (CallAt.frz (ArgF.frzw (y := .d (eApiTable (ApiTable.mk ([97] : List UInt8) [(ApiColumn.mk ([105, 100] : List UInt8) (1 : Int) (0 : Int) false (ApiValue.mk (1 : Int) (0 : UInt64) ([] : List UInt8))), (ApiColumn.mk ([110] : List UInt8) (1 : Int) (0 : Int) false (ApiValue.mk (1 : Int) (0 : UInt64) ([] : List UInt8)))] [(0 : Int)] [(ApiIndex.mk ([120] : List UInt8) [(ApiPart.mk (1 : Int) false)] ([] : List Int) false true (3 : Int))] (2 : Int)))) rfl (frzs_d rfl (frzs_slc (fF rfl rfl rfl) (frzs_slc (fF rfl rfl rfl) (frzs_slc (fF rfl rfl rfl) (frzs_d rfl frzs_nil))))) (AW.aggd rfl (AWs.cons (AW.refl _) (AWs.cons (AW.refl _) (AWs.cons (AW.refl _) (AWs.cons (AW.refl _) (AWs.cons (AW.refl _) AWs.nil)))))) (ArgF.frzw (y := .d (ePlanQuery (PlanQuery.mk [(PredNode.mk (2 : Int) (1 : Int) (3 : Int) (ApiValue.mk (1 : Int) (5 : UInt64) ([] : List UInt8)))] [(0 : Int)] ([] : List ApiPart) (-1 : Int)))) rfl (frzs_slc (fF rfl rfl rfl) (frzs_slc (fF rfl rfl rfl) (frzs_d rfl (frzs_d rfl frzs_nil)))) (AW.aggd rfl (AWs.cons (AW.refl _) (AWs.cons (AW.refl _) (AWs.cons (AW.nl _) (AWs.cons (AW.refl _) AWs.nil))))) (ArgF.nil _))) (fq [] [] (plan_Check_ok (ApiTable.mk ([97] : List UInt8) [(ApiColumn.mk ([105, 100] : List UInt8) (1 : Int) (0 : Int) false (ApiValue.mk (1 : Int) (0 : UInt64) ([] : List UInt8))), (ApiColumn.mk ([110] : List UInt8) (1 : Int) (0 : Int) false (ApiValue.mk (1 : Int) (0 : UInt64) ([] : List UInt8)))] [(0 : Int)] [(ApiIndex.mk ([120] : List UInt8) [(ApiPart.mk (1 : Int) false)] ([] : List Int) false true (3 : Int))] (2 : Int)) (PlanQuery.mk [(PredNode.mk (2 : Int) (1 : Int) (3 : Int) (ApiValue.mk (1 : Int) (5 : UInt64) ([] : List UInt8)))] [(0 : Int)] ([] : List ApiPart) (-1 : Int)) _ hq79) rfl rfl rfl rfl rfl rfl rfl rfl)) wf rfl rfl rfl cb11 rfl rfl rfl rfl rfl rfl rfl rfl ?_)))
  refine s1 (bi rfl rfl q_i64_eql) (sm rfl (sp h1 (fun h1 => ?_) (fun h1 => ?_)))
  ·refine gw rfl (mv rfl) (gw rfl (len rfl rfl rfl (len_lst un41)) (gw rfl (bi rfl rfl q_i64_eql) (s1 (pkt rfl rfl) (sm rfl (sp h1 (fun h1 => ?_) (fun h1 => ?_))))))
   ·obtain ⟨v81, hv81, h1⟩ := ob h1
    refine gw rfl (mv rfl) (gw rfl (ial rfl rfl un41 ts52 (getI_some hv81).1 (map_get (getI_some hv81).2) rfl) (gw rfl (fap rfl fo52_0 ts3 rfl) (gw rfl (lod rfl (ld_rop ts3 ta3 rfl)) (gw rfl (bi rfl rfl q_i64_eql) (s1 (pkt rfl rfl) (sm rfl (sp h1 (fun h1 => ?_) (fun h1 => ?_))))))))
    ·obtain ⟨v82, hv82, h1⟩ := ob h1
     refine gw rfl (mv rfl) (gw rfl (ial rfl rfl un41 ts52 (getI_some hv82).1 (map_get (getI_some hv82).2) rfl) (gw rfl (fap rfl fo52_4 ts4 rfl) (gw rfl (lod rfl (ld_rop ts4 ta4 rfl)) (s1 (pkt rfl rfl) (sm rfl (sp h1 (fun h1 => ?_) (fun h1 => ?_)))))))
     ·obtain ⟨v83, hv83, h1⟩ := ob h1
      refine gw rfl (mv rfl) (gw rfl (ial rfl rfl un41 ts52 (getI_some hv83).1 (map_get (getI_some hv83).2) rfl) (gw rfl (fap rfl fo52_5 ts3 rfl) (gw rfl (lod rfl (ld_rop ts3 ta3 rfl)) (gw rfl (bi rfl rfl q_i64_eql) (s1 (pkt rfl rfl) (sm rfl (sp h1 (fun h1 => ?_) (fun h1 => ?_))))))))
      ·obtain ⟨r85, hq84, h1⟩ := ob h1; obtain ⟨r87, hq86, h1⟩ := ob h1
       refine gw rfl (mv rfl) (c0 (plan_Best_ok r63 _ hq84) (ww rfl) rfl rfl rfl cb19 rfl (fun _ => rfl) (fun _ => rfl) (gw rfl (bsn (k := 8) (ds := List.map eI [(1 : Int), (0 : Int)]) (off := 0) (l' := [(1 : Int), (0 : Int)].length) rfl un23 ei3 rfl rfl (by rfl) rfl rfl rfl) (cq (args' := [.d ((eL 1 eI) r85), .slc 0 1 0 ([(1 : Int), (0 : Int)].length) none]) (σc := [.row 1 (List.map eI [(1 : Int), (0 : Int)]) true]) [8] [] (CallAt.frz (ArgF.keep (ArgF.frz (fF rfl rfl rfl) (ArgF.nil _))) (fq [] [] (raw_Ints_ok r85 [(1 : Int), (0 : Int)] _ hq86) rfl rfl rfl rfl rfl rfl rfl rfl)) (ww rfl) rfl rfl rfl cb15 rfl rfl rfl rfl rfl rfl rfl rfl (s1 (pkt rfl rfl) (sm rfl (sp h1 (fun h1 => ?_) (fun h1 => ?_)))))))
       ·obtain ⟨r89, hq88, h1⟩ := ob h1; obtain ⟨r91, hq90, h1⟩ := ob h1; have q := si h1; subst q
        refine gw rfl (lod (v := .agg [.slc 5 6 0 ([(PredNode.mk (2 : Int) (1 : Int) (3 : Int) (ApiValue.mk (1 : Int) (5 : UInt64) ([] : List UInt8)))].length) none, .slc 6 1 0 ([(0 : Int)].length) none, .d .nils, .d (eI (-1 : Int))]) rfl (ld_box ts30 ta30 rfl rfl)) (cq (args' := [.agg [.slc 0 6 0 ([(PredNode.mk (2 : Int) (1 : Int) (3 : Int) (ApiValue.mk (1 : Int) (5 : UInt64) ([] : List UInt8)))].length) none, .slc 1 1 0 ([(0 : Int)].length) none, .d .nils, .d (eI (-1 : Int))]]) (σc := [.row 6 (List.map ePredNode [(PredNode.mk (2 : Int) (1 : Int) (3 : Int) (ApiValue.mk (1 : Int) (5 : UInt64) ([] : List UInt8)))]) false, .row 1 (List.map eI [(0 : Int)]) false]) [5, 6] [] (CallAt.frz (ArgF.frzw (y := .d (ePlanQuery (PlanQuery.mk [(PredNode.mk (2 : Int) (1 : Int) (3 : Int) (ApiValue.mk (1 : Int) (5 : UInt64) ([] : List UInt8)))] [(0 : Int)] ([] : List ApiPart) (-1 : Int)))) rfl (frzs_slc (fF rfl rfl rfl) (frzs_slc (fF rfl rfl rfl) (frzs_d rfl (frzs_d rfl frzs_nil)))) (AW.aggd rfl (AWs.cons (AW.refl _) (AWs.cons (AW.refl _) (AWs.cons (AW.nl _) (AWs.cons (AW.refl _) AWs.nil))))) (ArgF.nil _)) (fq [] [] (plan_Needs_ok (PlanQuery.mk [(PredNode.mk (2 : Int) (1 : Int) (3 : Int) (ApiValue.mk (1 : Int) (5 : UInt64) ([] : List UInt8)))] [(0 : Int)] ([] : List ApiPart) (-1 : Int)) _ hq88) rfl rfl rfl rfl rfl rfl rfl rfl)) (ww rfl) rfl rfl rfl cb16 rfl rfl rfl rfl rfl rfl rfl rfl (gw rfl (bsn (k := 9) (ds := List.map eI [(0 : Int), (1 : Int)]) (off := 0) (l' := [(0 : Int), (1 : Int)].length) rfl un23 ei3 rfl rfl (by rfl) rfl rfl rfl) ?_))
        exact cq (args' := [.d ((eL 1 eI) r89), .slc 0 1 0 ([(0 : Int), (1 : Int)].length) none]) (σc := [.row 1 (List.map eI [(0 : Int), (1 : Int)]) true]) [9] [] (CallAt.frz (ArgF.keep (ArgF.frz (fF rfl rfl rfl) (ArgF.nil _))) (fq [] [] (raw_Ints_ok r89 [(0 : Int), (1 : Int)] _ hq90) rfl rfl rfl rfl rfl rfl rfl rfl)) (ww rfl) rfl rfl rfl cb15 rfl rfl rfl rfl rfl rfl rfl rfl (s1 (pkt rfl rfl) (sa rfl (SO.nil ((wc [] [] (by kernel_rfl) rfl (by kernel_rfl))))))
       ·have q := si h1; subst q
        exact kw rfl (kw rfl (kw rfl (kw rfl (s1 (pkf rfl rfl) (sa rfl (SO.nil ((wc [] [] (by kernel_rfl) rfl (by kernel_rfl)))))))))
      ·have q := si h1; subst q
       refine kw rfl (kw rfl (kw rfl (kw rfl (s1 (pkf rfl rfl) (sm rfl (kw rfl (kw rfl (kw rfl (kw rfl ?_)))))))))
       exact s1 (pkf rfl rfl) (sa rfl (SO.nil ((wc [] [] (by kernel_rfl) rfl (by kernel_rfl)))))
     ·have q := si h1; subst q
      refine kw rfl (kw rfl (kw rfl (kw rfl (kw rfl (s1 (pkf rfl rfl) (sm rfl (kw rfl (kw rfl (kw rfl ?_)))))))))
      refine kw rfl (s1 (pkf rfl rfl) (sm rfl (kw rfl (kw rfl (kw rfl (kw rfl (s1 (pkf rfl rfl) (sa rfl (SO.nil ?_)))))))))
      exact (wc [] [] (by kernel_rfl) rfl (by kernel_rfl))
    ·have q := si h1; subst q
     refine kw rfl (kw rfl (kw rfl (kw rfl (s1 (pkf rfl rfl) (sm rfl (kw rfl (kw rfl (kw rfl (kw rfl ?_)))))))))
     refine kw rfl (s1 (pkf rfl rfl) (sm rfl (kw rfl (kw rfl (kw rfl (kw rfl (s1 (pkf rfl rfl) (sm rfl (kw rfl ?_)))))))))
     exact kw rfl (kw rfl (kw rfl (s1 (pkf rfl rfl) (sa rfl (SO.nil ((wc [] [] (by kernel_rfl) rfl (by kernel_rfl))))))))
   ·have q := si h1; subst q
    refine kw rfl (kw rfl (kw rfl (kw rfl (kw rfl (s1 (pkf rfl rfl) (sm rfl (kw rfl (kw rfl (kw rfl ?_)))))))))
    refine kw rfl (s1 (pkf rfl rfl) (sm rfl (kw rfl (kw rfl (kw rfl (kw rfl (kw rfl (s1 (pkf rfl rfl) (sm rfl ?_)))))))))
    refine kw rfl (kw rfl (kw rfl (kw rfl (s1 (pkf rfl rfl) (sm rfl (kw rfl (kw rfl (kw rfl (kw rfl ?_)))))))))
    exact s1 (pkf rfl rfl) (sa rfl (SO.nil ((wc [] [] (by kernel_rfl) rfl (by kernel_rfl)))))
  ·have q := si h1; subst q
   refine kw rfl (kw rfl (kw rfl (s1 (pkf rfl rfl) (sm rfl (kw rfl (kw rfl (kw rfl (kw rfl (kw rfl ?_)))))))))
   refine s1 (pkf rfl rfl) (sm rfl (kw rfl (kw rfl (kw rfl (kw rfl (s1 (pkf rfl rfl) (sm rfl (kw rfl (kw rfl ?_)))))))))
   refine kw rfl (kw rfl (kw rfl (s1 (pkf rfl rfl) (sm rfl (kw rfl (kw rfl (kw rfl (kw rfl (s1 (pkf rfl rfl) ?_)))))))))
   exact sm rfl (kw rfl (kw rfl (kw rfl (kw rfl (s1 (pkf rfl rfl) (sa rfl (SO.nil ((wc [] [] (by kernel_rfl) rfl (by kernel_rfl))))))))))
 ·rintro y77 h0
  have q := si h0; subst q
  exact SC.ret (finR (Wk.refl _) (lresT rfl lresN) rfl)
end Lv
