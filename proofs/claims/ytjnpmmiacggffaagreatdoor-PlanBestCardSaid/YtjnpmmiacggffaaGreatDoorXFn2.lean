/- Part of the proof of a law: functions and their walks. -/
import Derived.Test.YtjnpmmiacggffaaGreatDoorXFn1
namespace Lv
open Go Go.Proofs
set_option linter.unusedVariables false
set_option linter.unusedSimpArgs false
set_option linter.unusedSectionVars false
set_option maxRecDepth 100000
variable [BaseTab] [TabOk]
noncomputable def law21_PlanBest (p0 : List Int) : Option Bool :=
 Option.bind law21_awake fun r411 =>
 bif (!r411) then
 some false
 else
 Option.bind (α := (List PlanPlan))
 (Option.bind (α := (List PlanPlan))
 (loop (Y := (List PlanPlan) × Int) (W := (List PlanPlan)) (fun (y437, y438) =>
 Option.bind (α := Bool)
 (bif (decide (y438 < (p0.length : Int))) then
 some (decide (y438 < (200 : Int)))
 else
 some false)
 fun y447 =>
 bif y447 then
 Option.bind (getI p0 y438) fun v449 =>
 bif decide ((y437.length + [(PlanPlan.mk y438 (ApiSpan.mk ([] : List UInt8) ([] : List UInt8) false) (0 : Int) false false v449)].length) * 72 ≤ room) then
 some (Sum.inl ((y437 ++ [(PlanPlan.mk y438 (ApiSpan.mk ([] : List UInt8) ([] : List UInt8) false) (0 : Int) false false v449)]), (w64 (y438 + (1 : Int)))))
 else none
 else
 some (Sum.inr y437)) (([] : List PlanPlan), (0 : Int)))
 (fun e => some e))
 fun y431 =>
 Option.bind (plan_Best y431) fun r453 =>
 bif ((r453.length : Int) != (y431.length : Int)) then
 some false
 else
 bif decide (0 ≤ (y431.length : Int) ∧ (y431.length : Int) * 1 ≤ 70368744177664 ∧ (y431.length : Int) ≤ 70368744177664) then
 bindE (Y := Unit) (E := Bool)
 (Option.bind (α := Unit ⊕ Bool)
 (loop (Y := (List Bool) × Int) (W := Unit ⊕ Bool) (fun (y549, y550) =>
 bif (decide (y550 < (r453.length : Int))) then
 Option.bind (getI r453 y550) fun v584 =>
 Option.bind (α := Bool)
 (bif (decide (v584 < (0 : Int))) then
 some true
 else
 bif (decide (v584 ≥ (y431.length : Int))) then
 some true
 else
 Option.bind (getI y549 v584) fun v591 =>
 bif v591 then
 some true
 else
 Option.bind (getI y431 v584) fun v592 =>
 bif (v592.Index != v584) then
 some true
 else
 Option.bind (getI y431 v584) fun v593 =>
 Option.bind (getI p0 v584) fun v594 =>
 some (v593.Cost != v594))
 fun y589 =>
 bif y589 then
 some (Sum.inr (Sum.inr false))
 else
 Option.bind (getI y549 v584) fun v595 =>
 Option.bind (α := (List Bool) × Bool)
 (bif (decide (y550 > (0 : Int))) then
 Option.bind (getI r453 (w64 (y550 - (1 : Int)))) fun v606 =>
 Option.bind (getI p0 v606) fun v607 =>
 Option.bind (getI p0 v584) fun v608 =>
 bif (decide (v607 > v608)) then
 some ((List.set y549 v584.toNat true), true)
 else
 Option.bind (getI r453 (w64 (y550 - (1 : Int)))) fun v609 =>
 Option.bind (getI p0 v609) fun v610 =>
 Option.bind (getI p0 v584) fun v611 =>
 bif (v610 == v611) then
 Option.bind (getI r453 (w64 (y550 - (1 : Int)))) fun v612 =>
 some ((List.set y549 v584.toNat true), (decide (v612 > v584)))
 else
 some ((List.set y549 v584.toNat true), false)
 else
 some ((List.set y549 v584.toNat true), false))
 fun (y603, y604) =>
 bif y604 then
 some (Sum.inr (Sum.inr false))
 else
 some (Sum.inl (y603, (w64 (y550 + (1 : Int)))))
 else
 some (Sum.inr (Sum.inl ()))) ((List.replicate (y431.length : Int).toNat false), (0 : Int)))
 (Sum.elim (fun e => some (Sum.inl e)) (fun e => some (Sum.inr e))))
 (fun _ =>
 some true)
 (fun e => some e)
 else none
theorem law21_PlanBest_ok (p0 : List Int) (r : Bool) (h0 : law21_PlanBest p0 = some r) : CallAt Tryz.prog 4 [.d ((eL 1 eI) p0)] [] (.d (eB r)) [] := by
 unfold law21_PlanBest at h0
 refine fn0 [0] Tryz.func4 rfl rfl rfl rfl rfl ?_
 obtain ⟨r411, hq410, h0⟩ := ob h0
 refine sr (sa rfl (sn (sq (sr (c0 (law21_awake_ok _ hq410) wf rfl rfl rfl cb7 rfl (fun _ => rfl) (fun _ => rfl) (s1 (nt rfl) (sn (cB h0 rfl (fun h0 => ?_) (fun h0 => ?_)))))))))
 ·have q := si h0; subst q
  exact sr (sa rfl (sn (SC.ret (finR (Wk.refl _) (lresT rfl lresN) rfl))))
 ·refine sk (sr (s1 (asg (v := .d .nils) rfl) (sn (SC.seqP h0 (fun y => ⟨mk 129 [(0, .d ((eL 1 eI) p0)), (3, .slc 0 8 0 y.length none)], [.row 8 (List.map ePlanPlan y) true]⟩) ?_ ?_))))
  ·intro u1_432 h1
   obtain ⟨u2_446, h2, h1⟩ := ob h1
   refine sr (sa rfl (sn (SC.blk (SC.loopB h2 (fun y => ⟨mk 129 [(0, .d ((eL 1 eI) p0)), (3, .slc 0 8 0 y.1.length none), (4, .d (eI y.2))], [.row 8 (List.map ePlanPlan y.1) true]⟩) (Wk.trans (Wk.pushE (σ' := [.row 8 (List.map ePlanPlan ([] : List PlanPlan)) true]) (.row 8 [] true) (fun _ hh => by cases hh) rfl) (Wk.trans (Wk.env (e' := [(0, .d ((eL 1 eI) p0)), (3, .slc 0 8 0 (([] : List PlanPlan).length) none), (4, .d (eI (0 : Int)))]) (EW.cons (AW.refl _) (EW.cons (AW.slcn _ _ _) (EW.cons (AW.refl _) EW.nil)))) (wq rfl))) ?_))))
   intro n451
   rintro ⟨y437, y438⟩ w2_445 h3 hv3
   refine sq (SC.seqP h3 (fun y => ⟨mk 129 [(0, .d ((eL 1 eI) p0)), (3, .slc 0 8 0 y437.length none), (4, .d (eI y438)), (18, .d (eB y))], [.row 8 (List.map ePlanPlan y437) true]⟩) ?_ ?_)
   ·intro u4_448 h4
    refine SC.region (sm rfl (sm rfl (s1 (len rfl rfl rfl (len_lst un23)) (s1 (bi rfl rfl q_i64_lss) (sm rfl (sp h4 (fun h4 => ?_) (fun h4 => ?_)))))))
    ·have q := si h4; subst q
     exact gw rfl (mv rfl) (gw rfl (bi rfl rfl q_i64_lss) (s1 (pkt rfl rfl) (SO.nil ((wq rfl)))))
    ·have q := si h4; subst q
     exact kw rfl (kw rfl (s1 (pkf rfl rfl) (SO.nil ((wq rfl)))))
   ·rintro y447 h3
    refine cB h3 rfl (fun h3 => ?_) (fun h3 => ?_)
    ·obtain ⟨v449, hv449, h3⟩ := ob h3; obtain ⟨hg450, h3⟩ := gd h3
     refine sk (sq (SC.blk (SC.region (sm rfl (sm rfl (sm rfl (sm rfl (s1 (ial rfl rfl un23 ts3 (getI_some hv449).1 (map_get (getI_some hv449).2) rfl) (s1 (lod rfl (ld_rop ts3 ta3 rfl)) ?_)))))))))
     refine s1 (bld rfl (bd52_0_5 y438 v449)) (s1 (bsn (k := 1) (ds := List.map ePlanPlan [(PlanPlan.mk y438 (ApiSpan.mk ([] : List UInt8) ([] : List UInt8) false) (0 : Int) false false v449)]) (off := 0) (l' := [(PlanPlan.mk y438 (ApiSpan.mk ([] : List UInt8) ([] : List UInt8) false) (0 : Int) false false v449)].length) rfl un41 ei52 rfl rfl (by rfl) rfl rfl rfl) (s1 (app rfl rfl rfl rfl bc41 (aF (f := ePlanPlan) (xs := y437) (k := 2) rfl un41 ei52 rfl (el_full (xs := [(PlanPlan.mk y438 (ApiSpan.mk ([] : List UInt8) ([] : List UInt8) false) (0 : Int) false false v449)]) rfl) hg450 rfl)) (sa rfl (SO.nil ?_))))
     change SC _ _ _ _ _
     have q := si h3; subst q
     exact SC.region (sm rfl (s1 (bi rfl rfl q_i64_add) (sa rfl (SO.nil (lf (wc [2] [2] (by kernel_rfl) rfl (by kernel_rfl)))))))
    ·have q := si h3; subst q; have q : _ = _ := hv3; subst q; have q := si h1; subst q
     exact SC.exit ((wq rfl))
  ·rintro y431 h0
   obtain ⟨r453, hq452, h0⟩ := ob h0
   refine sr (sm rfl (cq (args' := [.slc 0 8 0 y431.length none]) (σc := [.row 8 (List.map ePlanPlan y431) true]) [0] [] (CallAt.frz (ArgF.frz (fF rfl rfl rfl) (ArgF.nil _)) (fq [] [] (plan_Best_ok y431 _ hq452) rfl rfl rfl rfl rfl rfl rfl rfl)) wf rfl rfl rfl cb19 rfl rfl rfl rfl rfl rfl rfl rfl (sa rfl (sn (sq (sr (sm rfl (s1 (len rfl rfl rfl (len_lst un23)) (sm rfl ?_)))))))))
   refine s1 (len rfl rfl rfl (len_slc un41)) (s1 (bi rfl rfl q_i64_neq) (sn (cB h0 rfl (fun h0 => ?_) (fun h0 => ?_))))
   ·have q := si h0; subst q
    exact sr (sa rfl (sn (SC.ret (finR (wc (e' := [(2, .d (eB false))]) [] [] (by kernel_rfl) rfl (by kernel_rfl)) (lresT rfl lresN) rfl))))
   ·obtain ⟨hg454, h0⟩ := gd h0
    refine sk (sr (sm rfl (s1 (len rfl rfl rfl (len_slc un41)) (s1 (mks (f := eB) (u := false) (k := 1) rfl rfl un57 ei4 rfl hg454 rfl) (sa rfl (sn (SC.seqB h0 (fun y => ⟨mk 129 [], []⟩) ?_ ?_)))))))
    ·intro u1_534 h1 h0
     obtain ⟨u2_583, h2, h1⟩ := ob h1
     refine sr (sa rfl (sn (SC.blk (SC.loopB h2 (fun y => ⟨mk 129 [(0, .d ((eL 1 eI) p0)), (3, .slc 0 8 0 y431.length none), (5, .d ((eL 1 eI) r453)), (6, .slc 1 1 0 y.1.length none), (7, .d (eI y.2))], [.row 8 (List.map ePlanPlan y431) false, .row 1 (List.map eB y.1) true]⟩) (wq rfl) ?_))))
     intro n613
     rintro ⟨y549, y550⟩ w2_582 h3 hv3
     refine sq (sr (sm rfl (sm rfl (s1 (len rfl rfl rfl (len_lst un23)) (s1 (bi rfl rfl q_i64_lss) (sn (cB h3 rfl (fun h3 => ?_) (fun h3 => ?_))))))))
     ·obtain ⟨v584, hv584, h3⟩ := ob h3
      refine sk (sq (SC.blk (sr (sm rfl (sm rfl (s1 (ial rfl rfl un23 ts3 (getI_some hv584).1 (map_get (getI_some hv584).2) rfl) (s1 (lod rfl (ld_rop ts3 ta3 rfl)) (sa rfl (sn ?_)))))))))
      refine sq (SC.seqP h3 (fun y => ⟨mk 129 [(0, .d ((eL 1 eI) p0)), (3, .slc 0 8 0 y431.length none), (5, .d ((eL 1 eI) r453)), (6, .slc 1 1 0 y549.length none), (7, .d (eI y550)), (8, .d (eI v584)), (84, .d (eB y))], [.row 8 (List.map ePlanPlan y431) false, .row 1 (List.map eB y549) true]⟩) ?_ ?_)
      ·intro u4_590 h4
       refine SC.draws (by kernel_rfl) (t1 ([], false) (mv rfl) rfl (t1 ([], false) (bi rfl rfl q_i64_lss) rfl (t1 ([], false) (mv rfl) rfl (tp h4 (fun h4 => ?_) (fun h4 => ?_)))))
       ·have q := si h4; subst q
        refine jw rfl (jw rfl (jw rfl (jw rfl (t1 ([], false) (pkt rfl rfl) rfl (t1 ([], false) (mv rfl) rfl (jw rfl (jw rfl (jw rfl (jw rfl ?_)))))))))
        refine t1 ([], false) (pkt rfl rfl) rfl (t1 ([], false) (mv rfl) rfl (jw rfl (jw rfl (jw rfl (jw rfl (jw rfl (jw rfl (jw rfl (t1 ([], false) (pkt rfl rfl) rfl ?_)))))))))
        refine t1 ([], false) (mv rfl) rfl (jw rfl (jw rfl (jw rfl (jw rfl (jw rfl (jw rfl (jw rfl (jw rfl (jw rfl ?_)))))))))
        refine jw rfl (t1 ([], false) (pkt rfl rfl) rfl (ST.nil (And.intro (by decide +kernel) ?_)))
        exact (wq rfl)
       ·refine u1 ([], false) (ww rfl) (mv rfl) rfl (u1 ([], false) (ww rfl) (mv rfl) rfl (u1 ([], false) (ww rfl) (len rfl rfl rfl (len_slc un41)) rfl (u1 ([], false) (ww rfl) (bi rfl rfl q_i64_geq) rfl (t1 ([], false) (pkf rfl rfl) rfl (t1 ([], false) (mv rfl) rfl (tp h4 (fun h4 => ?_) (fun h4 => ?_)))))))
        ·have q := si h4; subst q
         refine jw rfl (jw rfl (jw rfl (jw rfl (t1 ([], false) (pkt rfl rfl) rfl (t1 ([], false) (mv rfl) rfl (jw rfl (jw rfl (jw rfl (jw rfl ?_)))))))))
         refine jw rfl (jw rfl (jw rfl (t1 ([], false) (pkt rfl rfl) rfl (t1 ([], false) (mv rfl) rfl (jw rfl (jw rfl (jw rfl (jw rfl (jw rfl ?_)))))))))
         refine jw rfl (jw rfl (jw rfl (jw rfl (jw rfl (t1 ([], false) (pkt rfl rfl) rfl (ST.nil (And.intro (by decide +kernel) ?_)))))))
         exact (wq rfl)
        ·obtain ⟨v591, hv591, h4⟩ := ob h4
         refine u1 ([], false) (ww rfl) (mv rfl) rfl (u1 ([], false) (ww rfl) (mv rfl) rfl (u1 ([], false) (ww rfl) (iaz rfl rfl un57 ts4 (getI_lt hv591)) rfl (u1 ([1], false) (ww rfl) (lod rfl (ld_row ts4 ta4 rfl (map_get (getI_some hv591).2) rfl)) rfl (t1 ([], false) (pkf rfl rfl) rfl (t1 ([], false) (mv rfl) rfl (tp h4 (fun h4 => ?_) (fun h4 => ?_)))))))
         ·have q := si h4; subst q
          refine jw rfl (jw rfl (jw rfl (jw rfl (jw rfl (jw rfl (jw rfl (t1 ([], false) (pkt rfl rfl) rfl (t1 ([], false) (mv rfl) rfl (jw rfl ?_)))))))))
          refine jw rfl (jw rfl (jw rfl (jw rfl (jw rfl (jw rfl (jw rfl (jw rfl (jw rfl (t1 ([], false) (pkt rfl rfl) rfl ?_)))))))))
          refine ST.nil (And.intro (by decide +kernel) ?_)
          exact (wq rfl)
         ·obtain ⟨v592, hv592, h4⟩ := ob h4
          refine u1 ([], false) (ww rfl) (mv rfl) rfl (u1 ([], false) (ww rfl) (mv rfl) rfl (u1 ([], false) (ww rfl) (iaz rfl rfl un41 ts52 (getI_lt hv592)) rfl (u1 ([], false) (ww rfl) (far (k := 0) rfl fo52_0 ts3 rfl) rfl (u1 ([0], false) (ww rfl) (lod rfl (ld_row ts3 ta3 rfl (map_get (getI_some hv592).2) rfl)) rfl (u1 ([], false) (ww rfl) (mv rfl) rfl (u1 ([], false) (ww rfl) (bi rfl rfl q_i64_neq) rfl (t1 ([], false) (pkf rfl rfl) rfl (t1 ([], false) (mv rfl) rfl (tp h4 (fun h4 => ?_) (fun h4 => ?_))))))))))
          ·have q := si h4; subst q
           refine jw rfl (jw rfl (jw rfl (jw rfl (jw rfl (jw rfl (jw rfl (jw rfl (jw rfl (jw rfl ?_)))))))))
           refine t1 ([], false) (pkt rfl rfl) rfl (ST.nil (And.intro (by decide +kernel) ?_))
           exact (wq rfl)
          ·obtain ⟨v593, hv593, h4⟩ := ob h4; obtain ⟨v594, hv594, h4⟩ := ob h4; have q := si h4; subst q
           refine u1 ([], false) (ww rfl) (mv rfl) rfl (u1 ([], false) (ww rfl) (mv rfl) rfl (u1 ([], false) (ww rfl) (iaz rfl rfl un41 ts52 (getI_lt hv593)) rfl (u1 ([], false) (ww rfl) (far (k := 7) rfl fo52_5 ts3 rfl) rfl (u1 ([0], false) (ww rfl) (lod rfl (ld_row ts3 ta3 rfl (map_get (getI_some hv593).2) rfl)) rfl (u1 ([], false) (ww rfl) (mv rfl) rfl (u1 ([], false) (ww rfl) (mv rfl) rfl (u1 ([], false) (ww rfl) (ial rfl rfl un23 ts3 (getI_some hv594).1 (map_get (getI_some hv594).2) rfl) rfl (u1 ([], false) (ww rfl) (lod rfl (ld_rop ts3 ta3 rfl)) rfl (u1 ([], false) (ww rfl) (bi rfl rfl q_i64_neq) rfl ?_)))))))))
           refine t1 ([], false) (pkf rfl rfl) rfl (ST.nil (And.intro (by decide +kernel) ?_))
           exact (wq rfl)
      ·rintro y589 h3
       refine cB h3 rfl (fun h3 => ?_) (fun h3 => ?_)
       ·have q := si h3; subst q; have q : _ = _ := hv3; subst q; have q := si h1; subst q; have q := si h0; subst q
        exact sr (sa rfl (sn (SC.ret (finR (wc (e' := [(2, .d (eB false))]) [] [] (by kernel_rfl) rfl (by kernel_rfl)) (lresT rfl lresN) rfl))))
       ·obtain ⟨v595, hv595, h3⟩ := ob h3
        refine sk (sr (sm rfl (sm rfl (s1 (iaz rfl rfl un57 ts4 (getI_lt hv595)) (s0 (sto (b := .d (eB true)) rfl rfl (sR (f := eB) (v := true) ts4 rfl rfl rfl rfl (getI_some hv595).2 rfl rfl)) (sn (SC.seqP h3 (fun y => ⟨mk 129 [(0, .d ((eL 1 eI) p0)), (3, .slc 0 8 0 y431.length none), (5, .d ((eL 1 eI) r453)), (6, .slc 1 1 0 y.1.length none), (7, .d (eI y550)), (128, .d (eB y.2))], [.row 8 (List.map ePlanPlan y431) false, .row 1 (List.map eB y.1) true]⟩) ?_ ?_)))))))
        ·intro u4_605 h4
         refine SC.draws (by kernel_rfl) (t1 ([], false) (mv rfl) rfl (t1 ([], false) (bi rfl rfl q_i64_gtr) rfl (t1 ([], false) (mv rfl) rfl (tp h4 (fun h4 => ?_) (fun h4 => ?_)))))
         ·obtain ⟨v606, hv606, h4⟩ := ob h4; obtain ⟨v607, hv607, h4⟩ := ob h4; obtain ⟨v608, hv608, h4⟩ := ob h4
          refine u1 ([], false) (ww rfl) (mv rfl) rfl (u1 ([], false) (ww rfl) (mv rfl) rfl (u1 ([], false) (ww rfl) (mv rfl) rfl (u1 ([], false) (ww rfl) (bi rfl rfl q_i64_sub) rfl (u1 ([], false) (ww rfl) (ial rfl rfl un23 ts3 (getI_some hv606).1 (map_get (getI_some hv606).2) rfl) rfl (u1 ([], false) (ww rfl) (lod rfl (ld_rop ts3 ta3 rfl)) rfl (u1 ([], false) (ww rfl) (ial rfl rfl un23 ts3 (getI_some hv607).1 (map_get (getI_some hv607).2) rfl) rfl (u1 ([], false) (ww rfl) (lod rfl (ld_rop ts3 ta3 rfl)) rfl (u1 ([], false) (ww rfl) (mv rfl) rfl (u1 ([], false) (ww rfl) (mv rfl) rfl ?_)))))))))
          refine u1 ([], false) (ww rfl) (ial rfl rfl un23 ts3 (getI_some hv608).1 (map_get (getI_some hv608).2) rfl) rfl (u1 ([], false) (ww rfl) (lod rfl (ld_rop ts3 ta3 rfl)) rfl (u1 ([], false) (ww rfl) (bi rfl rfl q_i64_gtr) rfl (u1 ([], false) (ww rfl) (mv rfl) rfl (tp h4 (fun h4 => ?_) (fun h4 => ?_)))))
          ·have q := si h4; subst q
           refine jw rfl (jw rfl (jw rfl (jw rfl (jw rfl (jw rfl (jw rfl (jw rfl (jw rfl (jw rfl ?_)))))))))
           refine jw rfl (jw rfl (jw rfl (jw rfl (jw rfl (jw rfl (jw rfl (jw rfl (jw rfl (jw rfl ?_)))))))))
           refine jw rfl (jw rfl (u1 ([], false) (ww rfl) (pkt rfl rfl) rfl (t1 ([], false) (pkt rfl rfl) rfl (ST.nil (And.intro (by decide +kernel) ?_)))))
           exact (Wk.env (EW.cons (AW.refl _) (EW.cons (AW.refl _) (EW.cons (AW.refl _) (EW.cons (AW.slc rfl (by simp)) (EW.cons (AW.refl _) (EW.cons (AW.refl _) EW.nil)))))))
          ·obtain ⟨v609, hv609, h4⟩ := ob h4; obtain ⟨v610, hv610, h4⟩ := ob h4; obtain ⟨v611, hv611, h4⟩ := ob h4
           refine u1 ([], false) (ww rfl) (mv rfl) rfl (u1 ([], false) (ww rfl) (mv rfl) rfl (u1 ([], false) (ww rfl) (mv rfl) rfl (u1 ([], false) (ww rfl) (bi rfl rfl q_i64_sub) rfl (u1 ([], false) (ww rfl) (ial rfl rfl un23 ts3 (getI_some hv609).1 (map_get (getI_some hv609).2) rfl) rfl (u1 ([], false) (ww rfl) (lod rfl (ld_rop ts3 ta3 rfl)) rfl (u1 ([], false) (ww rfl) (ial rfl rfl un23 ts3 (getI_some hv610).1 (map_get (getI_some hv610).2) rfl) rfl (u1 ([], false) (ww rfl) (lod rfl (ld_rop ts3 ta3 rfl)) rfl (u1 ([], false) (ww rfl) (mv rfl) rfl (u1 ([], false) (ww rfl) (mv rfl) rfl ?_)))))))))
           refine u1 ([], false) (ww rfl) (ial rfl rfl un23 ts3 (getI_some hv611).1 (map_get (getI_some hv611).2) rfl) rfl (u1 ([], false) (ww rfl) (lod rfl (ld_rop ts3 ta3 rfl)) rfl (u1 ([], false) (ww rfl) (bi rfl rfl q_i64_eql) rfl (u1 ([], false) (ww rfl) (mv rfl) rfl (tp h4 (fun h4 => ?_) (fun h4 => ?_)))))
           ·obtain ⟨v612, hv612, h4⟩ := ob h4; have q := si h4; subst q
            refine u1 ([], false) (ww rfl) (mv rfl) rfl (u1 ([], false) (ww rfl) (mv rfl) rfl (u1 ([], false) (ww rfl) (bi rfl rfl q_i64_sub) rfl (u1 ([], false) (ww rfl) (ial rfl rfl un23 ts3 (getI_some hv612).1 (map_get (getI_some hv612).2) rfl) rfl (u1 ([], false) (ww rfl) (lod rfl (ld_rop ts3 ta3 rfl)) rfl (u1 ([], false) (ww rfl) (mv rfl) rfl (u1 ([], false) (ww rfl) (bi rfl rfl q_i64_gtr) rfl (u1 ([], false) (ww rfl) (pkt rfl rfl) rfl (u1 ([], false) (ww rfl) (pkf rfl rfl) rfl (t1 ([], false) (pkt rfl rfl) rfl ?_)))))))))
            refine ST.nil (And.intro (by decide +kernel) ?_)
            exact (Wk.env (EW.cons (AW.refl _) (EW.cons (AW.refl _) (EW.cons (AW.refl _) (EW.cons (AW.slc rfl (by simp)) (EW.cons (AW.refl _) (EW.cons (AW.refl _) EW.nil)))))))
           ·have q := si h4; subst q
            refine jw rfl (jw rfl (jw rfl (jw rfl (jw rfl (jw rfl (jw rfl (u1 ([], false) (ww rfl) (pkf rfl rfl) rfl (u1 ([], false) (ww rfl) (pkf rfl rfl) rfl (t1 ([], false) (pkt rfl rfl) rfl ?_)))))))))
            refine ST.nil (And.intro (by decide +kernel) ?_)
            exact (Wk.env (EW.cons (AW.refl _) (EW.cons (AW.refl _) (EW.cons (AW.refl _) (EW.cons (AW.slc rfl (by simp)) (EW.cons (AW.refl _) (EW.cons (AW.refl _) EW.nil)))))))
         ·have q := si h4; subst q
          refine jw rfl (jw rfl (jw rfl (jw rfl (jw rfl (jw rfl (jw rfl (jw rfl (jw rfl (jw rfl ?_)))))))))
          refine jw rfl (jw rfl (jw rfl (jw rfl (jw rfl (jw rfl (jw rfl (jw rfl (jw rfl (jw rfl ?_)))))))))
          refine jw rfl (jw rfl (jw rfl (jw rfl (jw rfl (jw rfl (jw rfl (jw rfl (jw rfl (jw rfl ?_)))))))))
          refine jw rfl (jw rfl (jw rfl (jw rfl (jw rfl (jw rfl (jw rfl (t1 ([], false) (pkf rfl rfl) rfl (ST.nil (And.intro (by decide +kernel) ?_)))))))))
          exact (Wk.env (EW.cons (AW.refl _) (EW.cons (AW.refl _) (EW.cons (AW.refl _) (EW.cons (AW.slc rfl (by simp)) (EW.cons (AW.refl _) (EW.cons (AW.refl _) EW.nil)))))))
        ·rintro ⟨y603, y604⟩ h3
         refine cB h3 rfl (fun h3 => ?_) (fun h3 => ?_)
         ·have q := si h3; subst q; have q : _ = _ := hv3; subst q; have q := si h1; subst q; have q := si h0; subst q
          exact sr (sa rfl (sn (SC.ret (finR (wc (e' := [(2, .d (eB false))]) [] [] (by kernel_rfl) rfl (by kernel_rfl)) (lresT rfl lresN) rfl))))
         ·refine SC.skip ?_
          change SC _ _ _ _ _
          have q := si h3; subst q
          exact SC.region (sm rfl (s1 (bi rfl rfl q_i64_add) (sa rfl (SO.nil (lf (wq rfl))))))
     ·have q := si h3; subst q; have q : _ = _ := hv3; subst q; have q := si h1; subst q
      exact SC.exit (lf (wc [] [] (by kernel_rfl) rfl (by kernel_rfl)))
    ·intro _ h0
     have q := si h0; subst q
     exact sr (sa rfl (sn (SC.ret (finR (Wk.refl _) (lresT rfl lresN) rfl))))
end Lv
