/- Part of the proof of a law: functions and their walks. -/
import Derived.Test.YtjegjjlojnpnoaaGreatDoorXFn1
namespace Lv
open Go Go.Proofs
set_option linter.unusedVariables false
set_option linter.unusedSimpArgs false
set_option linter.unusedSectionVars false
set_option maxRecDepth 100000
variable [BaseTab] [TabOk]
noncomputable def ref17_Check (p0 : ApiTable) : Option Int :=
 Option.bind (ref06_Name p0.Name) fun r443 =>
 bif (!r443) then
 some (1 : Int)
 else
 Option.bind (α := Bool)
 (bif (decide ((p0.Cols.length : Int) < (1 : Int))) then
 some true
 else
 some (decide ((p0.Cols.length : Int) > (24 : Int))))
 fun y445 =>
 bif y445 then
 some (7 : Int)
 else
 bindE (Y := Unit) (E := Int)
 (Option.bind (α := Unit ⊕ Int)
 (loop (Y := Int) (W := Unit ⊕ Int) (fun y537 =>
 bif (decide (y537 < (p0.Cols.length : Int))) then
 bindE (Y := Unit) (E := Int)
 (Option.bind (getI p0.Cols y537) fun v585 =>
 Option.bind (ref06_Column v585) fun r586 =>
 bif (r586 != (0 : Int)) then
 some (Sum.inr r586)
 else
 Option.bind (α := Unit ⊕ Int)
 (loop (Y := Int) (W := Unit ⊕ Int) (fun y590 =>
 bif (decide (y590 < y537)) then
 Option.bind (getI p0.Cols y590) fun v596 =>
 Option.bind (getI p0.Cols y537) fun v597 =>
 bif (v596.Name == v597.Name) then
 some (Sum.inr (Sum.inr (6 : Int)))
 else
 some (Sum.inl (w64 (y590 + (1 : Int))))
 else
 some (Sum.inr (Sum.inl ()))) (0 : Int))
 (Sum.elim (fun e => some (Sum.inl e)) (fun e => some (Sum.inr e))))
 (fun _ =>
 some (Sum.inl (w64 (y537 + (1 : Int)))))
 (fun e => some (Sum.inr (Sum.inr e)))
 else
 some (Sum.inr (Sum.inl ()))) (0 : Int))
 (Sum.elim (fun e => some (Sum.inl e)) (fun e => some (Sum.inr e))))
 (fun _ =>
 Option.bind (α := Bool)
 (bif (decide ((p0.Primary.length : Int) < (1 : Int))) then
 some true
 else
 bif (decide ((p0.Primary.length : Int) > (4 : Int))) then
 some true
 else
 Option.bind (ref17_places (p0.Cols.length : Int) p0.Primary) fun r604 =>
 some (!r604))
 fun y602 =>
 bif y602 then
 some (1 : Int)
 else
 bindE (Y := Unit) (E := Int)
 (Option.bind (α := Unit ⊕ Int)
 (loop (Y := Int) (W := Unit ⊕ Int) (fun y620 =>
 bif (decide (y620 < (p0.Primary.length : Int))) then
 Option.bind (getI p0.Primary y620) fun v626 =>
 Option.bind (getI p0.Cols v626) fun v627 =>
 bif v627.Nulls then
 some (Sum.inr (Sum.inr (1 : Int)))
 else
 some (Sum.inl (w64 (y620 + (1 : Int))))
 else
 some (Sum.inr (Sum.inl ()))) (0 : Int))
 (Sum.elim (fun e => some (Sum.inl e)) (fun e => some (Sum.inr e))))
 (fun _ =>
 Option.bind (α := Bool)
 (Option.bind (ref17_RowMax p0.Cols) fun r637 =>
 bif (decide (r637 > (512 : Int))) then
 some true
 else
 Option.bind (ref17_Up p0.Primary) fun r639 =>
 Option.bind (ref17_KeyMax p0.Cols r639) fun r641 =>
 bif (decide (r641 > (128 : Int))) then
 some true
 else
 some (decide ((p0.Indexes.length : Int) > (6 : Int))))
 fun y635 =>
 bif y635 then
 some (7 : Int)
 else
 bindE (Y := Unit) (E := Int)
 (Option.bind (α := Unit ⊕ Int)
 (loop (Y := Int) (W := Unit ⊕ Int) (fun y789 =>
 bif (decide (y789 < (p0.Indexes.length : Int))) then
 bindE (Y := Unit) (E := Int)
 (Option.bind (getI p0.Indexes y789) fun v861 =>
 Option.bind (ref06_Name v861.Name) fun r862 =>
 bif (!r862) then
 some (Sum.inr (1 : Int))
 else
 bindE (Y := Unit) (E := Int)
 (Option.bind (α := Unit ⊕ Int)
 (loop (Y := Int) (W := Unit ⊕ Int) (fun y874 =>
 bif (decide (y874 < y789)) then
 Option.bind (getI p0.Indexes y874) fun v879 =>
 bif (v879.Name == v861.Name) then
 some (Sum.inr (Sum.inr (6 : Int)))
 else
 some (Sum.inl (w64 (y874 + (1 : Int))))
 else
 some (Sum.inr (Sum.inl ()))) (0 : Int))
 (Sum.elim (fun e => some (Sum.inl e)) (fun e => some (Sum.inr e))))
 (fun _ =>
 Option.bind (ref17_index p0 v861) fun r881 =>
 bif (r881 != (0 : Int)) then
 some (Sum.inr r881)
 else
 some (Sum.inl ()))
 (fun e => some (Sum.inr e)))
 (fun _ =>
 some (Sum.inl (w64 (y789 + (1 : Int)))))
 (fun e => some (Sum.inr (Sum.inr e)))
 else
 some (Sum.inr (Sum.inl ()))) (0 : Int))
 (Sum.elim (fun e => some (Sum.inl e)) (fun e => some (Sum.inr e))))
 (fun _ =>
 some (0 : Int))
 (fun e => some e))
 (fun e => some e))
 (fun e => some e)
theorem ref17_Check_ok (p0 : ApiTable) (r : Int) (h0 : ref17_Check p0 = some r) : CallAt Tryz.prog 6 [.d (eApiTable p0)] [] (.d (eI r)) [] := by
 unfold ref17_Check at h0
 refine fn0 [0] Tryz.func6 rfl rfl rfl rfl rfl ?_
 obtain ⟨r443, hq444, h0⟩ := ob h0
 refine sr (s1 (bxo (k := 0) rfl rfl rfl) (sa rfl (sn (sq (sr (s1 (far (k := 0) rfl fo26_0 ts9 rfl) (s1 (lod rfl (ld_box ts9 ta9 rfl rfl)) (c0 (ref06_Name_ok p0.Name _ hq444) wf rfl rfl rfl cb22 rfl (fun _ => rfl) (fun _ => rfl) (s1 (nt rfl) ?_)))))))))
 refine sn (cB h0 rfl (fun h0 => ?_) (fun h0 => ?_))
 ·have q := si h0; subst q
  exact sr (sa rfl (sn (SC.ret (finR (wc (e' := [(2, .d (eI (1 : Int)))]) [] [] (by kernel_rfl) rfl (by kernel_rfl)) (lresT rfl lresN) rfl))))
 ·refine sk (sq (SC.seqP h0 (fun y => ⟨mk 150 [(1, .ref 0 0 0), (24, .d (eB y))], [.box (.d (eApiTable p0))]⟩) ?_ ?_))
  ·intro u1_446 h1
   refine SC.region (s1 (far (k := 1) rfl fo26_1 ts22 rfl) (s1 (lod rfl (ld_box ts22 ta22 rfl rfl)) (s1 (len rfl rfl rfl (len_lst un22)) (s1 (bi rfl rfl q_i64_lss) (sm rfl (sp h1 (fun h1 => ?_) (fun h1 => ?_)))))))
   ·have q := si h1; subst q
    exact kw rfl (kw rfl (kw rfl (kw rfl (s1 (pkt rfl rfl) (SO.nil ((wq rfl)))))))
   ·have q := si h1; subst q
    exact gw rfl (far (k := 1) rfl fo26_1 ts22 rfl) (gw rfl (lod rfl (ld_box ts22 ta22 rfl rfl)) (gw rfl (len rfl rfl rfl (len_lst un22)) (gw rfl (bi rfl rfl q_i64_gtr) (s1 (pkf rfl rfl) (SO.nil ((wq rfl)))))))
  ·rintro y445 h0
   refine cB h0 rfl (fun h0 => ?_) (fun h0 => ?_)
   ·have q := si h0; subst q
    exact sr (sa rfl (sn (SC.ret (finR (wc (e' := [(2, .d (eI (7 : Int)))]) [] [] (by kernel_rfl) rfl (by kernel_rfl)) (lresT rfl lresN) rfl))))
   ·refine sk (SC.seqB h0 (fun y => ⟨mk 150 [(1, .ref 0 0 0)], [.box (.d (eApiTable p0))]⟩) ?_ ?_)
    ·intro u1_523 h1 h0
     obtain ⟨u2_569, h2, h1⟩ := ob h1
     refine sr (sa rfl (sn (SC.blk (SC.loopB h2 (fun y => ⟨mk 150 [(1, .ref 0 0 0), (3, .d (eI y))], [.box (.d (eApiTable p0))]⟩) (wq rfl) ?_))))
     intro n599
     rintro y537 w2_568 h3 hv3
     refine sq (sr (sm rfl (s1 (far (k := 1) rfl fo26_1 ts22 rfl) (s1 (lod rfl (ld_box ts22 ta22 rfl rfl)) (s1 (len rfl rfl rfl (len_lst un22)) (s1 (bi rfl rfl q_i64_lss) (sn (cB h3 rfl (fun h3 => ?_) (fun h3 => ?_)))))))))
     ·refine sk (SC.seqB h3 (fun y => ⟨mk 150 [(1, .ref 0 0 0), (3, .d (eI y537))], [.box (.d (eApiTable p0))]⟩) ?_ ?_)
      ·intro u4_584 h4 h3
       obtain ⟨v585, hv585, h4⟩ := ob h4; obtain ⟨r586, hq587, h4⟩ := ob h4
       refine SC.blk (sr (s1 (far (k := 1) rfl fo26_1 ts22 rfl) (s1 (lod rfl (ld_box ts22 ta22 rfl rfl)) (sm rfl (s1 (ial rfl rfl un22 ts42 (getI_some hv585).1 (map_get (getI_some hv585).2) rfl) (s1 (lod (v := .d (eApiColumn v585)) rfl (ld_rop ts42 ta42 rfl)) (c0 (ref06_Column_ok v585 _ hq587) wf rfl rfl rfl cb23 rfl (fun _ => rfl) (fun _ => rfl) (sa rfl (sn ?_)))))))))
       refine sq (sr (sm rfl (s1 (bi rfl rfl q_i64_neq) (sn (cB h4 rfl (fun h4 => ?_) (fun h4 => ?_))))))
       ·have q := si h4; subst q; have q := si h3; subst q; have q : _ = _ := hv3; subst q; have q := si h1; subst q; have q := si h0; subst q
        exact sr (sm rfl (sa rfl (sn (SC.ret (finR (wc (e' := [(2, .d (eI r586))]) [] [] (by kernel_rfl) rfl (by kernel_rfl)) (lresT rfl lresN) rfl)))))
       ·obtain ⟨u5_595, h5, h4⟩ := ob h4
        refine sk (sr (sa rfl (sn (SC.blk (SC.loopB h5 (fun y => ⟨mk 150 [(1, .ref 0 0 0), (3, .d (eI y537)), (5, .d (eI y))], [.box (.d (eApiTable p0))]⟩) (wq rfl) ?_)))))
        intro n598
        rintro y590 w5_594 h6 hv6
        refine sq (sr (sm rfl (sm rfl (s1 (bi rfl rfl q_i64_lss) (sn (cB h6 rfl (fun h6 => ?_) (fun h6 => ?_)))))))
        ·obtain ⟨v596, hv596, h6⟩ := ob h6; obtain ⟨v597, hv597, h6⟩ := ob h6
         refine sk (sq (SC.blk (sd (by kernel_rfl) (t1 ([], false) (far (k := 1) rfl fo26_1 ts22 rfl) rfl (t1 ([0], false) (lod rfl (ld_box ts22 ta22 rfl rfl)) rfl (t1 ([], false) (mv rfl) rfl (t1 ([], false) (ial rfl rfl un22 ts42 (getI_some hv596).1 (map_get (getI_some hv596).2) rfl) rfl (t1 ([], false) (fap rfl fo42_0 ts9 rfl) rfl (t1 ([], false) (lod rfl (ld_rop ts9 ta9 rfl)) rfl ?_)))))))))
         refine t1 ([], false) (far (k := 1) rfl fo26_1 ts22 rfl) rfl (t1 ([0], false) (lod rfl (ld_box ts22 ta22 rfl rfl)) rfl (t1 ([], false) (mv rfl) rfl (t1 ([], false) (ial rfl rfl un22 ts42 (getI_some hv597).1 (map_get (getI_some hv597).2) rfl) rfl (t1 ([], false) (fap rfl fo42_0 ts9 rfl) rfl (t1 ([], false) (lod rfl (ld_rop ts9 ta9 rfl)) rfl (t1 ([], false) (bi rfl rfl q_str_eql) rfl (tn (by decide +kernel) (cB h6 rfl (fun h6 => ?_) (fun h6 => ?_)))))))))
         ·have q := si h6; subst q; have q : _ = _ := hv6; subst q; have q := si h4; subst q; have q := si h3; subst q; have q : _ = _ := hv3; subst q; have q := si h1; subst q; have q := si h0; subst q
          exact sr (sa rfl (sn (SC.ret (finR (wc (e' := [(2, .d (eI (6 : Int)))]) [] [] (by kernel_rfl) rfl (by kernel_rfl)) (lresT rfl lresN) rfl))))
         ·refine SC.skip ?_
          change SC _ _ _ _ _
          have q := si h6; subst q
          exact SC.region (sm rfl (s1 (bi rfl rfl q_i64_add) (sa rfl (SO.nil (lf (wq rfl))))))
        ·have q := si h6; subst q; have q : _ = _ := hv6; subst q; have q := si h4; subst q
         exact SC.exit (lf (wq rfl))
      ·intro _ h3
       have q := si h3; subst q
       exact SC.region (sm rfl (s1 (bi rfl rfl q_i64_add) (sa rfl (SO.nil (lf (wq rfl))))))
     ·have q := si h3; subst q; have q : _ = _ := hv3; subst q; have q := si h1; subst q
      exact SC.exit (lf (wq rfl))
    ·intro _ h0
     refine sq (SC.seqP h0 (fun y => ⟨mk 150 [(1, .ref 0 0 0), (77, .d (eB y))], [.box (.d (eApiTable p0))]⟩) ?_ ?_)
     ·intro u1_603 h1
      refine SC.region (s1 (far (k := 2) rfl fo26_2 ts23 rfl) (s1 (lod rfl (ld_box ts23 ta23 rfl rfl)) (s1 (len rfl rfl rfl (len_lst un23)) (s1 (bi rfl rfl q_i64_lss) (sm rfl (sp h1 (fun h1 => ?_) (fun h1 => ?_)))))))
      ·have q := si h1; subst q
       refine kw rfl (kw rfl (kw rfl (kw rfl (s1 (pkt rfl rfl) (sm rfl (kw rfl (kw rfl (kw rfl (kw rfl ?_)))))))))
       exact kw rfl (kw rfl (kw rfl (s1 (pkt rfl rfl) (SO.nil ((wq rfl))))))
      ·refine gw rfl (far (k := 2) rfl fo26_2 ts23 rfl) (gw rfl (lod rfl (ld_box ts23 ta23 rfl rfl)) (gw rfl (len rfl rfl rfl (len_lst un23)) (gw rfl (bi rfl rfl q_i64_gtr) (s1 (pkf rfl rfl) (sm rfl (sp h1 (fun h1 => ?_) (fun h1 => ?_)))))))
       ·have q := si h1; subst q
        exact kw rfl (kw rfl (kw rfl (kw rfl (kw rfl (kw rfl (kw rfl (s1 (pkt rfl rfl) (SO.nil ((wq rfl))))))))))
       ·obtain ⟨r604, hq605, h1⟩ := ob h1; have q := si h1; subst q
        exact gw rfl (far (k := 1) rfl fo26_1 ts22 rfl) (gw rfl (lod rfl (ld_box ts22 ta22 rfl rfl)) (gw rfl (len rfl rfl rfl (len_lst un22)) (gw rfl (far (k := 2) rfl fo26_2 ts23 rfl) (gw rfl (lod rfl (ld_box ts23 ta23 rfl rfl)) (c0 (ref17_places_ok (p0.Cols.length : Int) p0.Primary _ hq605) (ww rfl) rfl rfl rfl cb24 rfl (fun _ => rfl) (fun _ => rfl) (gw rfl (nt rfl) (s1 (pkf rfl rfl) (SO.nil ((wq rfl))))))))))
     ·rintro y602 h0
      refine cB h0 rfl (fun h0 => ?_) (fun h0 => ?_)
      ·have q := si h0; subst q
       exact sr (sa rfl (sn (SC.ret (finR (wc (e' := [(2, .d (eI (1 : Int)))]) [] [] (by kernel_rfl) rfl (by kernel_rfl)) (lresT rfl lresN) rfl))))
      ·refine sk (SC.seqB h0 (fun y => ⟨mk 150 [(1, .ref 0 0 0)], [.box (.d (eApiTable p0))]⟩) ?_ ?_)
       ·intro u1_617 h1 h0
        obtain ⟨u2_625, h2, h1⟩ := ob h1
        refine sr (sa rfl (sn (SC.blk (SC.loopB h2 (fun y => ⟨mk 150 [(1, .ref 0 0 0), (6, .d (eI y))], [.box (.d (eApiTable p0))]⟩) (wq rfl) ?_))))
        intro n628
        rintro y620 w2_624 h3 hv3
        refine sq (sr (sm rfl (s1 (far (k := 2) rfl fo26_2 ts23 rfl) (s1 (lod rfl (ld_box ts23 ta23 rfl rfl)) (s1 (len rfl rfl rfl (len_lst un23)) (s1 (bi rfl rfl q_i64_lss) (sn (cB h3 rfl (fun h3 => ?_) (fun h3 => ?_)))))))))
        ·obtain ⟨v626, hv626, h3⟩ := ob h3; obtain ⟨v627, hv627, h3⟩ := ob h3
         refine sk (sq (SC.blk (sd (by kernel_rfl) (t1 ([], false) (far (k := 1) rfl fo26_1 ts22 rfl) rfl (t1 ([0], false) (lod rfl (ld_box ts22 ta22 rfl rfl)) rfl (t1 ([], false) (far (k := 2) rfl fo26_2 ts23 rfl) rfl (t1 ([0], false) (lod rfl (ld_box ts23 ta23 rfl rfl)) rfl (t1 ([], false) (mv rfl) rfl (t1 ([], false) (ial rfl rfl un23 ts3 (getI_some hv626).1 (map_get (getI_some hv626).2) rfl) rfl ?_)))))))))
         refine t1 ([], false) (lod rfl (ld_rop ts3 ta3 rfl)) rfl (t1 ([], false) (ial rfl rfl un22 ts42 (getI_some hv627).1 (map_get (getI_some hv627).2) rfl) rfl (t1 ([], false) (fap rfl fo42_3 ts4 rfl) rfl (t1 ([], false) (lod rfl (ld_rop ts4 ta4 rfl)) rfl (tn (by decide +kernel) (cB h3 rfl (fun h3 => ?_) (fun h3 => ?_))))))
         ·have q := si h3; subst q; have q : _ = _ := hv3; subst q; have q := si h1; subst q; have q := si h0; subst q
          exact sr (sa rfl (sn (SC.ret (finR (wc (e' := [(2, .d (eI (1 : Int)))]) [] [] (by kernel_rfl) rfl (by kernel_rfl)) (lresT rfl lresN) rfl))))
         ·refine SC.skip ?_
          change SC _ _ _ _ _
          have q := si h3; subst q
          exact SC.region (sm rfl (s1 (bi rfl rfl q_i64_add) (sa rfl (SO.nil (lf (wq rfl))))))
        ·have q := si h3; subst q; have q : _ = _ := hv3; subst q; have q := si h1; subst q
         exact SC.exit (lf (wq rfl))
       ·intro _ h0
        refine sq (SC.seqP h0 (fun y => ⟨mk 150 [(1, .ref 0 0 0), (113, .d (eB y))], [.box (.d (eApiTable p0))]⟩) ?_ ?_)
        ·intro u1_636 h1
         obtain ⟨r637, hq638, h1⟩ := ob h1
         refine SC.draws (by kernel_rfl) (t1 ([], false) (far (k := 1) rfl fo26_1 ts22 rfl) rfl (t1 ([0], false) (lod rfl (ld_box ts22 ta22 rfl rfl)) rfl (tc0 (ref17_RowMax_ok p0.Cols _ hq638) wf rfl rfl rfl cb13 rfl (fun _ => rfl) (fun _ => rfl) (t1 ([], false) (bi rfl rfl q_i64_gtr) rfl (t1 ([], false) (mv rfl) rfl (tp h1 (fun h1 => ?_) (fun h1 => ?_)))))))
         ·have q := si h1; subst q
          refine jw rfl (jw rfl (jw rfl (jw rfl (jw rfl (jw rfl (jw rfl (t1 ([], false) (pkt rfl rfl) rfl (t1 ([], false) (mv rfl) rfl (jw rfl ?_)))))))))
          refine jw rfl (jw rfl (jw rfl (t1 ([], false) (pkt rfl rfl) rfl (ST.nil (And.intro (by decide +kernel) ?_)))))
          exact (wq rfl)
         ·obtain ⟨r639, hq640, h1⟩ := ob h1; obtain ⟨r641, hq642, h1⟩ := ob h1
          refine u1 ([], false) (ww rfl) (far (k := 1) rfl fo26_1 ts22 rfl) rfl (u1 ([0], false) (ww rfl) (lod rfl (ld_box ts22 ta22 rfl rfl)) rfl (u1 ([], false) (ww rfl) (far (k := 2) rfl fo26_2 ts23 rfl) rfl (u1 ([0], false) (ww rfl) (lod rfl (ld_box ts23 ta23 rfl rfl)) rfl (tc0 (ref17_Up_ok p0.Primary _ hq640) (ww rfl) rfl rfl rfl cb25 rfl (fun _ => rfl) (fun _ => rfl) (tc0 (ref17_KeyMax_ok p0.Cols r639 _ hq642) (ww rfl) rfl rfl rfl cb18 rfl (fun _ => rfl) (fun _ => rfl) (u1 ([], false) (ww rfl) (bi rfl rfl q_i64_gtr) rfl (t1 ([], false) (pkf rfl rfl) rfl (t1 ([], false) (mv rfl) rfl (tp h1 (fun h1 => ?_) (fun h1 => ?_))))))))))
          ·have q := si h1; subst q
           refine jw rfl (jw rfl (jw rfl (jw rfl (t1 ([], false) (pkt rfl rfl) rfl (ST.nil (And.intro (by decide +kernel) ?_))))))
           exact (wq rfl)
          ·have q := si h1; subst q
           refine u1 ([], false) (ww rfl) (far (k := 3) rfl fo26_3 ts24 rfl) rfl (u1 ([0], false) (ww rfl) (lod rfl (ld_box ts24 ta24 rfl rfl)) rfl (u1 ([], false) (ww rfl) (len rfl rfl rfl (len_lst un24)) rfl (u1 ([], false) (ww rfl) (bi rfl rfl q_i64_gtr) rfl (t1 ([], false) (pkf rfl rfl) rfl (ST.nil (And.intro (by decide +kernel) ?_))))))
           exact (wq rfl)
        ·rintro y635 h0
         refine cB h0 rfl (fun h0 => ?_) (fun h0 => ?_)
         ·have q := si h0; subst q
          exact sr (sa rfl (sn (SC.ret (finR (wc (e' := [(2, .d (eI (7 : Int)))]) [] [] (by kernel_rfl) rfl (by kernel_rfl)) (lresT rfl lresN) rfl))))
         ·refine sk (SC.seqB h0 (fun y => ⟨mk 150 [], []⟩) ?_ ?_)
          ·intro u1_763 h1 h0
           obtain ⟨u2_837, h2, h1⟩ := ob h1
           refine sr (sa rfl (sn (SC.blk (SC.loopB h2 (fun y => ⟨mk 150 [(1, .ref 0 0 0), (7, .d (eI y))], [.box (.d (eApiTable p0))]⟩) (wq rfl) ?_))))
           intro n883
           rintro y789 w2_836 h3 hv3
           refine sq (sr (sm rfl (s1 (far (k := 3) rfl fo26_3 ts24 rfl) (s1 (lod rfl (ld_box ts24 ta24 rfl rfl)) (s1 (len rfl rfl rfl (len_lst un24)) (s1 (bi rfl rfl q_i64_lss) (sn (cB h3 rfl (fun h3 => ?_) (fun h3 => ?_)))))))))
           ·refine sk (SC.seqB h3 (fun y => ⟨mk 150 [(1, .ref 0 0 0), (7, .d (eI y789))], [.box (.d (eApiTable p0))]⟩) ?_ ?_)
            ·intro u4_860 h4 h3
             obtain ⟨v861, hv861, h4⟩ := ob h4; obtain ⟨r862, hq863, h4⟩ := ob h4
             refine SC.blk (sr (s1 (far (k := 3) rfl fo26_3 ts24 rfl) (s1 (lod rfl (ld_box ts24 ta24 rfl rfl)) (sm rfl (s1 (ial rfl rfl un24 ts29 (getI_some hv861).1 (map_get (getI_some hv861).2) rfl) (s1 (lod (v := .d (eApiIndex v861)) rfl (ld_rop ts29 ta29 rfl)) (s1 (alo (k := 1) zo29 rfl) (s0 (sto rfl rfl (sB (d' := .d (eApiIndex v861)) ts29 rfl rfl rfl rfl rfl rfl rfl)) (sn ?_)))))))))
             refine sq (sr (s1 (far (k := 0) rfl fo29_0 ts9 rfl) (s1 (lod rfl (ld_box ts9 ta9 rfl rfl)) (c0 (ref06_Name_ok v861.Name _ hq863) wf rfl rfl rfl cb22 rfl (fun _ => rfl) (fun _ => rfl) (s1 (nt rfl) (sn (cB h4 rfl (fun h4 => ?_) (fun h4 => ?_))))))))
             ·have q := si h4; subst q; have q := si h3; subst q; have q : _ = _ := hv3; subst q; have q := si h1; subst q; have q := si h0; subst q
              exact sr (sa rfl (sn (SC.ret (finR (wc (e' := [(2, .d (eI (1 : Int)))]) [] [] (by kernel_rfl) rfl (by kernel_rfl)) (lresT rfl lresN) rfl))))
             ·refine sk (SC.seqB h4 (fun y => ⟨mk 150 [(1, .ref 0 0 0), (7, .d (eI y789)), (8, .ref 1 0 0)], [.box (.d (eApiTable p0)), .box (.d (eApiIndex v861))]⟩) ?_ ?_)
              ·intro u5_872 h5 h4
               obtain ⟨u6_878, h6, h5⟩ := ob h5
               refine sr (sa rfl (sn (SC.blk (SC.loopB h6 (fun y => ⟨mk 150 [(1, .ref 0 0 0), (7, .d (eI y789)), (8, .ref 1 0 0), (9, .d (eI y))], [.box (.d (eApiTable p0)), .box (.d (eApiIndex v861))]⟩) (wq rfl) ?_))))
               intro n880
               rintro y874 w6_877 h7 hv7
               refine sq (sr (sm rfl (sm rfl (s1 (bi rfl rfl q_i64_lss) (sn (cB h7 rfl (fun h7 => ?_) (fun h7 => ?_)))))))
               ·obtain ⟨v879, hv879, h7⟩ := ob h7
                refine sk (sq (SC.blk (sd (by kernel_rfl) (t1 ([], false) (far (k := 3) rfl fo26_3 ts24 rfl) rfl (t1 ([0], false) (lod rfl (ld_box ts24 ta24 rfl rfl)) rfl (t1 ([], false) (mv rfl) rfl (t1 ([], false) (ial rfl rfl un24 ts29 (getI_some hv879).1 (map_get (getI_some hv879).2) rfl) rfl (t1 ([], false) (fap rfl fo29_0 ts9 rfl) rfl (t1 ([], false) (lod rfl (ld_rop ts9 ta9 rfl)) rfl ?_)))))))))
                refine t1 ([], false) (far (k := 0) rfl fo29_0 ts9 rfl) rfl (t1 ([1], false) (lod rfl (ld_box ts9 ta9 rfl rfl)) rfl (t1 ([], false) (bi rfl rfl q_str_eql) rfl (tn (by decide +kernel) (cB h7 rfl (fun h7 => ?_) (fun h7 => ?_)))))
                ·have q := si h7; subst q; have q : _ = _ := hv7; subst q; have q := si h5; subst q; have q := si h4; subst q; have q := si h3; subst q; have q : _ = _ := hv3; subst q; have q := si h1; subst q; have q := si h0; subst q
                 exact sr (sa rfl (sn (SC.ret (finR (wc (e' := [(2, .d (eI (6 : Int)))]) [] [] (by kernel_rfl) rfl (by kernel_rfl)) (lresT rfl lresN) rfl))))
                ·refine SC.skip ?_
                 change SC _ _ _ _ _
                 have q := si h7; subst q
                 exact SC.region (sm rfl (s1 (bi rfl rfl q_i64_add) (sa rfl (SO.nil (lf (wq rfl))))))
               ·have q := si h7; subst q; have q : _ = _ := hv7; subst q; have q := si h5; subst q
                exact SC.exit (lf (wq rfl))
              ·intro _ h4
               obtain ⟨r881, hq882, h4⟩ := ob h4
               refine sr (s1 (lod (v := .d (eApiTable p0)) rfl (ld_box ts26 ta26 rfl rfl)) (s1 (lod (v := .d (eApiIndex v861)) rfl (ld_box ts29 ta29 rfl rfl)) (c0 (ref17_index_ok p0 v861 _ hq882) wf rfl rfl rfl cb26 rfl (fun _ => rfl) (fun _ => rfl) (sa rfl (sn (sr (sm rfl (s1 (bi rfl rfl q_i64_neq) (sn ?_)))))))))
               refine cB h4 rfl (fun h4 => ?_) (fun h4 => ?_)
               ·have q := si h4; subst q; have q := si h3; subst q; have q : _ = _ := hv3; subst q; have q := si h1; subst q; have q := si h0; subst q
                exact sr (sm rfl (sa rfl (sn (SC.ret (finR (wc (e' := [(2, .d (eI r881))]) [] [] (by kernel_rfl) rfl (by kernel_rfl)) (lresT rfl lresN) rfl)))))
               ·have q := si h4; subst q
                exact SC.skip (lf (wc [0] [0] (by kernel_rfl) rfl (by kernel_rfl)))
            ·intro _ h3
             have q := si h3; subst q
             exact SC.region (sm rfl (s1 (bi rfl rfl q_i64_add) (sa rfl (SO.nil (lf (wq rfl))))))
           ·have q := si h3; subst q; have q : _ = _ := hv3; subst q; have q := si h1; subst q
            exact SC.exit (lf (wc [] [] (by kernel_rfl) rfl (by kernel_rfl)))
          ·intro _ h0
           have q := si h0; subst q
           exact sr (sa rfl (sn (SC.ret (finR (Wk.refl _) (lresT rfl lresN) rfl))))
noncomputable def slices_Clone_api_Column_api_Column (p0 : List ApiColumn) : Option ((List ApiColumn)) :=
 bif decide ((([] : List ApiColumn).length + p0.length) * 72 ≤ room) then
 some (([] : List ApiColumn) ++ p0)
 else none
theorem slices_Clone_api_Column_api_Column_ok (p0 : List ApiColumn) (r : (List ApiColumn)) (h0 : slices_Clone_api_Column_api_Column p0 = some r) : CallAt Tryz.prog 49 [.d ((eL 7 eApiColumn) p0)] [] (.slc 0 7 0 r.length none) [.row 7 (List.map eApiColumn r) true] := by
 unfold slices_Clone_api_Column_api_Column at h0
 refine fn0 [0] Tryz.func49 rfl rfl rfl rfl rfl ?_
 refine sr (s1 (asg (v := .d .nils) rfl) (sn (sq (sr (sm rfl (cmN rfl rfl un22 (fun hx => ?_) ?_))))))
 ·have hx := map_nil hx
  have h0 := Eq.trans (a := (some ([] : List ApiColumn))) (by simp [hx, room_val]) h0
  have q := si h0; subst q
  exact sn (cT rfl (sr (s1 (asg (v := .d .nils) rfl) (sn (SC.ret (finR (Wk.trans (Wk.pushE (σ' := [.row 7 (List.map eApiColumn ([] : List ApiColumn)) true]) (.row 7 [] true) (fun _ hh => by cases hh) rfl) (Wk.trans (Wk.env (e' := [(2, .slc 0 7 0 (([] : List ApiColumn).length) none)]) (EW.cons (AW.slcn _ _ _) EW.nil)) (wq (e' := [(2, .slc 0 7 0 (([] : List ApiColumn).length) none)]) rfl))) (lresT rfl lresN) rfl))))))
 ·obtain ⟨hg3, h0⟩ := gd h0; have q := si h0; subst q
  refine sn (cF rfl (sk (sr (s1 (bsn (k := 0) (ds := List.map eApiColumn ([] : List ApiColumn)) (off := 0) (l' := ([] : List ApiColumn).length) rfl un22 ei42 rfl rfl rfl rfl rfl rfl) (sm rfl (s1 (app rfl rfl rfl rfl bc22 (aF (f := eApiColumn) (xs := ([] : List ApiColumn)) (k := 1) rfl un22 ei42 rfl el_lst hg3 rfl)) (sa rfl (sn (SC.ret ?_)))))))))
  exact finR (wc (e' := [(2, .slc 0 7 0 ((([] : List ApiColumn) ++ p0).length) none)]) [1] [1] (by kernel_rfl) rfl (by kernel_rfl)) (lresT rfl lresN) rfl
noncomputable def slices_Clone_int_int (p0 : List Int) : Option ((List Int)) :=
 bif decide ((([] : List Int).length + p0.length) * 8 ≤ room) then
 some (([] : List Int) ++ p0)
 else none
theorem slices_Clone_int_int_ok (p0 : List Int) (r : (List Int)) (h0 : slices_Clone_int_int p0 = some r) : CallAt Tryz.prog 50 [.d ((eL 1 eI) p0)] [] (.d ((eL 1 eI) r)) [] := by
 unfold slices_Clone_int_int at h0
 refine fn0 [0] Tryz.func50 rfl rfl rfl rfl rfl ?_
 refine sr (s1 (asg (v := .d .nils) rfl) (sn (sq (sr (sm rfl (cmN rfl rfl un23 (fun hx => ?_) ?_))))))
 ·have hx := map_nil hx
  have h0 := Eq.trans (a := (some ([] : List Int))) (by simp [hx, room_val]) h0
  have q := si h0; subst q
  exact sn (cT rfl (sr (s1 (asg (v := .d .nils) rfl) (sn (SC.ret (finR (Wk.env (e' := [(2, .d ((eL 1 eI) ([] : List Int)))]) (EW.cons (AW.nl _) EW.nil)) (lresT rfl lresN) rfl))))))
 ·obtain ⟨hg3, h0⟩ := gd h0; have q := si h0; subst q
  refine sn (cF rfl (sk (sr (s1 (bsn (k := 0) (ds := List.map eI ([] : List Int)) (off := 0) (l' := ([] : List Int).length) rfl un23 ei3 rfl rfl rfl rfl rfl rfl) (sm rfl (s1 (app rfl rfl rfl rfl bc23 (aF (f := eI) (xs := ([] : List Int)) (k := 1) rfl un23 ei3 rfl el_lst hg3 rfl)) (sa rfl (sn (SC.ret ?_)))))))))
  exact finR (Wk.trans (Wk.frz (i := 2) (x := .slc 1 1 0 ((([] : List Int) ++ p0).length) none) rfl rfl (fF rfl rfl rfl)) (wc (e' := [(2, .d ((eL 1 eI) (([] : List Int) ++ p0)))]) [] [] (by kernel_rfl) rfl (by kernel_rfl))) (lresT rfl lresN) rfl
noncomputable def slices_Clone_api_Index_api_Index (p0 : List ApiIndex) : Option ((List ApiIndex)) :=
 bif decide ((([] : List ApiIndex).length + p0.length) * 80 ≤ room) then
 some (([] : List ApiIndex) ++ p0)
 else none
theorem slices_Clone_api_Index_api_Index_ok (p0 : List ApiIndex) (r : (List ApiIndex)) (h0 : slices_Clone_api_Index_api_Index p0 = some r) : CallAt Tryz.prog 51 [.d ((eL 6 eApiIndex) p0)] [] (.slc 0 6 0 r.length none) [.row 6 (List.map eApiIndex r) true] := by
 unfold slices_Clone_api_Index_api_Index at h0
 refine fn0 [0] Tryz.func51 rfl rfl rfl rfl rfl ?_
 refine sr (s1 (asg (v := .d .nils) rfl) (sn (sq (sr (sm rfl (cmN rfl rfl un24 (fun hx => ?_) ?_))))))
 ·have hx := map_nil hx
  have h0 := Eq.trans (a := (some ([] : List ApiIndex))) (by simp [hx, room_val]) h0
  have q := si h0; subst q
  exact sn (cT rfl (sr (s1 (asg (v := .d .nils) rfl) (sn (SC.ret (finR (Wk.trans (Wk.pushE (σ' := [.row 6 (List.map eApiIndex ([] : List ApiIndex)) true]) (.row 6 [] true) (fun _ hh => by cases hh) rfl) (Wk.trans (Wk.env (e' := [(2, .slc 0 6 0 (([] : List ApiIndex).length) none)]) (EW.cons (AW.slcn _ _ _) EW.nil)) (wq (e' := [(2, .slc 0 6 0 (([] : List ApiIndex).length) none)]) rfl))) (lresT rfl lresN) rfl))))))
 ·obtain ⟨hg3, h0⟩ := gd h0; have q := si h0; subst q
  refine sn (cF rfl (sk (sr (s1 (bsn (k := 0) (ds := List.map eApiIndex ([] : List ApiIndex)) (off := 0) (l' := ([] : List ApiIndex).length) rfl un24 ei29 rfl rfl rfl rfl rfl rfl) (sm rfl (s1 (app rfl rfl rfl rfl bc24 (aF (f := eApiIndex) (xs := ([] : List ApiIndex)) (k := 1) rfl un24 ei29 rfl el_lst hg3 rfl)) (sa rfl (sn (SC.ret ?_)))))))))
  exact finR (wc (e' := [(2, .slc 0 6 0 ((([] : List ApiIndex) ++ p0).length) none)]) [1] [1] (by kernel_rfl) rfl (by kernel_rfl)) (lresT rfl lresN) rfl
noncomputable def slices_Clone_api_Part_api_Part (p0 : List ApiPart) : Option ((List ApiPart)) :=
 bif decide ((([] : List ApiPart).length + p0.length) * 16 ≤ room) then
 some (([] : List ApiPart) ++ p0)
 else none
theorem slices_Clone_api_Part_api_Part_ok (p0 : List ApiPart) (r : (List ApiPart)) (h0 : slices_Clone_api_Part_api_Part p0 = some r) : CallAt Tryz.prog 52 [.d ((eL 2 eApiPart) p0)] [] (.d ((eL 2 eApiPart) r)) [] := by
 unfold slices_Clone_api_Part_api_Part at h0
 refine fn0 [0] Tryz.func52 rfl rfl rfl rfl rfl ?_
 refine sr (s1 (asg (v := .d .nils) rfl) (sn (sq (sr (sm rfl (cmN rfl rfl un27 (fun hx => ?_) ?_))))))
 ·have hx := map_nil hx
  have h0 := Eq.trans (a := (some ([] : List ApiPart))) (by simp [hx, room_val]) h0
  have q := si h0; subst q
  exact sn (cT rfl (sr (s1 (asg (v := .d .nils) rfl) (sn (SC.ret (finR (Wk.env (e' := [(2, .d ((eL 2 eApiPart) ([] : List ApiPart)))]) (EW.cons (AW.nl _) EW.nil)) (lresT rfl lresN) rfl))))))
 ·obtain ⟨hg3, h0⟩ := gd h0; have q := si h0; subst q
  refine sn (cF rfl (sk (sr (s1 (bsn (k := 0) (ds := List.map eApiPart ([] : List ApiPart)) (off := 0) (l' := ([] : List ApiPart).length) rfl un27 ei48 rfl rfl rfl rfl rfl rfl) (sm rfl (s1 (app rfl rfl rfl rfl bc27 (aF (f := eApiPart) (xs := ([] : List ApiPart)) (k := 1) rfl un27 ei48 rfl el_lst hg3 rfl)) (sa rfl (sn (SC.ret ?_)))))))))
  exact finR (Wk.trans (Wk.frz (i := 2) (x := .slc 1 2 0 ((([] : List ApiPart) ++ p0).length) none) rfl rfl (fF rfl rfl rfl)) (wc (e' := [(2, .d ((eL 2 eApiPart) (([] : List ApiPart) ++ p0)))]) [] [] (by kernel_rfl) rfl (by kernel_rfl))) (lresT rfl lresN) rfl
noncomputable def schema_own (p0 : ApiTable) : Option ((List ApiColumn) × (List Int) × (List ApiIndex)) :=
 Option.bind (slices_Clone_api_Column_api_Column p0.Cols) fun r68 =>
 Option.bind (slices_Clone_int_int p0.Primary) fun r70 =>
 Option.bind (slices_Clone_api_Index_api_Index p0.Indexes) fun r72 =>
 Option.bind (α := (List ApiIndex))
 (Option.bind (α := (List ApiIndex))
 (loop (Y := (List ApiIndex) × Int) (W := (List ApiIndex)) (fun (y111, y112) =>
 bif (decide (y112 < (r72.length : Int))) then
 Option.bind (getI y111 y112) fun v124 =>
 Option.bind (slices_Clone_api_Part_api_Part v124.Parts) fun r125 =>
 Option.bind (slices_Clone_int_int v124.Extra) fun r127 =>
 Option.bind (getI y111 y112) fun v129 =>
 Option.bind (getI (List.set y111 y112.toNat (ApiIndex.mk v129.Name r125 v129.Extra v129.Unique v129.Ready v129.Tree)) y112) fun v130 =>
 some (Sum.inl ((List.set (List.set y111 y112.toNat (ApiIndex.mk v129.Name r125 v129.Extra v129.Unique v129.Ready v129.Tree)) y112.toNat (ApiIndex.mk v130.Name v130.Parts r127 v130.Unique v130.Ready v130.Tree)), (w64 (y112 + (1 : Int)))))
 else
 some (Sum.inr y111)) (r72, (0 : Int)))
 (fun e => some e))
 fun y102 =>
 some (r68, r70, y102)
theorem schema_own_ok (p0 : ApiTable) (r : (List ApiColumn) × (List Int) × (List ApiIndex)) (h0 : schema_own p0 = some r) : CallAt Tryz.prog 27 [.d (eApiTable p0)] [] (.agg [.d (eS p0.Name), .slc 1 7 0 r.1.length none, .d ((eL 1 eI) r.2.1), .slc 2 6 0 r.2.2.length none, .d (eI p0.Tree)]) [.box (.agg [.d (eS p0.Name), .slc 1 7 0 r.1.length none, .d ((eL 1 eI) r.2.1), .slc 2 6 0 r.2.2.length none, .d (eI p0.Tree)]), .row 7 (List.map eApiColumn r.1) true, .row 6 (List.map eApiIndex r.2.2) true] := by
 unfold schema_own at h0
 refine fn0 [0] Tryz.func27 rfl rfl rfl rfl rfl ?_
 obtain ⟨r68, hq69, h0⟩ := ob h0; obtain ⟨r70, hq71, h0⟩ := ob h0; obtain ⟨r72, hq73, h0⟩ := ob h0
 refine sr (s1 (bxo (k := 0) rfl rfl rfl) (s1 (alo (k := 1) zo26 rfl) (sn (sd (by kernel_rfl) (t1 ([], false) (far (k := 1) rfl fo26_1 ts22 rfl) rfl (t1 ([0], false) (lod rfl (ld_box ts22 ta22 rfl rfl)) rfl (tq [] [2] ([2], true) (slices_Clone_api_Column_api_Column_ok p0.Cols _ hq69) wf rfl rfl rfl cb49 rfl rfl rfl rfl rfl rfl rfl rfl rfl (t1 ([], false) (far (k := 2) rfl fo26_2 ts23 rfl) rfl (t1 ([0], false) (lod rfl (ld_box ts23 ta23 rfl rfl)) rfl ?_)))))))))
 refine tc0 (slices_Clone_int_int_ok p0.Primary _ hq71) wf rfl rfl rfl cb50 rfl (fun _ => rfl) (fun _ => rfl) (t1 ([], false) (far (k := 3) rfl fo26_3 ts24 rfl) rfl (t1 ([0], false) (lod rfl (ld_box ts24 ta24 rfl rfl)) rfl (tq [] [3] ([3], true) (slices_Clone_api_Index_api_Index_ok p0.Indexes _ hq73) wf rfl rfl rfl cb51 rfl rfl rfl rfl rfl rfl rfl rfl rfl (t1 ([], false) (far (k := 1) rfl fo26_1 ts22 rfl) rfl (t0 ([0, 2], true) (sto rfl rfl (sB (d' := .agg [.d (eS p0.Name), .slc 2 7 0 r68.length none, .d ((eL 1 eI) p0.Primary), .d ((eL 6 eApiIndex) p0.Indexes), .d (eI p0.Tree)]) ts22 rfl rfl rfl rfl rfl rfl rfl)) rfl (t1 ([], false) (far (k := 2) rfl fo26_2 ts23 rfl) rfl (t0 ([0], true) (sto rfl rfl (sB (d' := .agg [.d (eS p0.Name), .slc 2 7 0 r68.length none, .d ((eL 1 eI) r70), .d ((eL 6 eApiIndex) p0.Indexes), .d (eI p0.Tree)]) ts23 rfl rfl rfl rfl rfl rfl rfl)) rfl (t1 ([], false) (far (k := 3) rfl fo26_3 ts24 rfl) rfl (t0 ([0, 3], true) (sto rfl rfl (sB (d' := .agg [.d (eS p0.Name), .slc 2 7 0 r68.length none, .d ((eL 1 eI) r70), .slc 3 6 0 r72.length none, .d (eI p0.Tree)]) ts24 rfl rfl rfl rfl rfl rfl rfl)) rfl ?_)))))))))
 refine tn (by decide +kernel) (SC.seqP h0 (fun y => ⟨mk 43 [(1, .ref 0 0 0), (2, .ref 1 0 0)], [.box (.agg [.d (eS p0.Name), .slc 2 7 0 r68.length none, .d ((eL 1 eI) r70), .slc 3 6 0 y.length none, .d (eI p0.Tree)]), .box (.d (.agg [(eS ([] : List UInt8)), .nils, .nils, .nils, (eI (0 : Int))])), .row 7 (List.map eApiColumn r68) true, .row 6 (List.map eApiIndex y) true]⟩) ?_ ?_)
 ·intro u1_103 h1
  obtain ⟨u2_123, h2, h1⟩ := ob h1
  refine sr (s1 (far (k := 3) rfl fo26_3 ts24 rfl) (s1 (lod rfl (ld_box ts24 ta24 rfl rfl)) (s1 (len rfl rfl rfl (len_slc un24)) (sm rfl (sn (SC.blk (SC.loopB h2 (fun y => ⟨mk 43 [(1, .ref 0 0 0), (2, .ref 1 0 0), (18, .slc 2 6 0 y.1.length none), (19, .d (eI (r72.length : Int))), (20, .d (eI y.2))], [.box (.agg [.d (eS p0.Name), .slc 3 7 0 r68.length none, .d ((eL 1 eI) r70), .slc 2 6 0 y.1.length none, .d (eI p0.Tree)]), .box (.d (.agg [(eS ([] : List UInt8)), .nils, .nils, .nils, (eI (0 : Int))])), .row 6 (List.map eApiIndex y.1) true, .row 7 (List.map eApiColumn r68) true]⟩) (wc [0, 1, 3, 2] [0, 1, 3] (by kernel_rfl) rfl (by kernel_rfl)) ?_)))))))
  intro n131
  rintro ⟨y111, y112⟩ w2_122 h3 hv3
  refine sr (s1 (bi rfl rfl q_i64_lss) (sn (sq (cB h3 rfl (fun h3 => ?_) (fun h3 => ?_)))))
  ·obtain ⟨v124, hv124, h3⟩ := ob h3; obtain ⟨r125, hq126, h3⟩ := ob h3; obtain ⟨r127, hq128, h3⟩ := ob h3; obtain ⟨v129, hv129, h3⟩ := ob h3; obtain ⟨v130, hv130, h3⟩ := ob h3
   refine sk (sq (SC.blk (sr (sm rfl (s1 (iaz rfl rfl un24 ts29 (getI_lt hv124)) (s1 (lod (v := .d (eApiIndex v124)) rfl (ld_row ts29 ta29 rfl (map_get (getI_some hv124).2) rfl)) (s1 (alo (k := 4) zo29 rfl) (sa rfl (s0 (sto rfl rfl (sB (d' := .d (eApiIndex v124)) ts29 rfl rfl rfl rfl rfl rfl rfl)) ?_)))))))))
   refine sn (SC.draws (by kernel_rfl) (t1 ([], false) (far (k := 3) rfl fo26_3 ts24 rfl) rfl (t1 ([0], false) (lod rfl (ld_box ts24 ta24 rfl rfl)) rfl (t1 ([], false) (mv rfl) rfl (t1 ([], false) (far (k := 3) rfl fo26_3 ts24 rfl) rfl (t1 ([0], false) (lod rfl (ld_box ts24 ta24 rfl rfl)) rfl (t1 ([], false) (mv rfl) rfl (t1 ([], false) (far (k := 1) rfl fo29_1 ts27 rfl) rfl (t1 ([4], false) (lod rfl (ld_box ts27 ta27 rfl rfl)) rfl ?_)))))))))
   refine tc0 (slices_Clone_api_Part_api_Part_ok v124.Parts _ hq126) wf rfl rfl rfl cb52 rfl (fun _ => rfl) (fun _ => rfl) (t1 ([], false) (far (k := 2) rfl fo29_2 ts23 rfl) rfl (t1 ([4], false) (lod rfl (ld_box ts23 ta23 rfl rfl)) rfl (tc0 (slices_Clone_int_int_ok v124.Extra _ hq128) wf rfl rfl rfl cb50 rfl (fun _ => rfl) (fun _ => rfl) (t1 ([], false) (iaz rfl rfl un24 ts29 (getI_lt hv129)) rfl (t1 ([], false) (far (k := 1) rfl fo29_1 ts27 rfl) rfl (t0 ([2], true) (sto (b := .d ((eL 2 eApiPart) r125)) rfl rfl (sF (f := eApiIndex) (v := (ApiIndex.mk v129.Name r125 v129.Extra v129.Unique v129.Ready v129.Tree)) (ds := [((eL 2 eApiPart) r125)]) ts27 rfl rfl rfl rfl (getI_some hv129).2 rfl rfl rfl rfl)) rfl (t1 ([], false) (iaz rfl rfl un24 ts29 (by have q := getI_lt hv130; simpa using q)) rfl (t1 ([], false) (far (k := 2) rfl fo29_2 ts23 rfl) rfl (t0 ([2], true) (sto (b := .d ((eL 1 eI) r127)) rfl rfl (sF (f := eApiIndex) (v := (ApiIndex.mk v130.Name v130.Parts r127 v130.Unique v130.Ready v130.Tree)) (ds := [((eL 1 eI) r127)]) ts23 rfl rfl rfl rfl (getI_some hv130).2 rfl rfl rfl rfl)) rfl ?_)))))))))
   refine ST.nil (And.intro (by decide +kernel) ?_)
   change SC _ _ _ _ _
   have q := si h3; subst q
   exact SC.region (s1 (bi rfl rfl q_i64_add) (sm rfl (SO.nil (lf (Wk.trans (Wk.env (e' := [(1, .ref 0 0 0), (2, .ref 1 0 0), (18, .slc 2 6 0 ((List.set (List.set y111 y112.toNat (ApiIndex.mk v129.Name r125 v129.Extra v129.Unique v129.Ready v129.Tree)) y112.toNat (ApiIndex.mk v130.Name v130.Parts r127 v130.Unique v130.Ready v130.Tree)).length) none), (19, .d (eI (r72.length : Int))), (20, .d (eI (w64 (y112 + (1 : Int)))))]) (EW.cons (AW.refl _) (EW.cons (AW.refl _) (EW.cons (AW.slc rfl (by simp)) (EW.cons (AW.refl _) (EW.cons (AW.refl _) EW.nil)))))) (Wk.trans (Wk.boxE (id := 0) (y := .agg [.d (eS p0.Name), .slc 3 7 0 r68.length none, .d ((eL 1 eI) r70), .slc 2 6 0 ((List.set (List.set y111 y112.toNat (ApiIndex.mk v129.Name r125 v129.Extra v129.Unique v129.Ready v129.Tree)) y112.toNat (ApiIndex.mk v130.Name v130.Parts r127 v130.Unique v130.Ready v130.Tree)).length) none, .d (eI p0.Tree)]) (σ' := [.box (.agg [.d (eS p0.Name), .slc 3 7 0 r68.length none, .d ((eL 1 eI) r70), .slc 2 6 0 ((List.set (List.set y111 y112.toNat (ApiIndex.mk v129.Name r125 v129.Extra v129.Unique v129.Ready v129.Tree)) y112.toNat (ApiIndex.mk v130.Name v130.Parts r127 v130.Unique v130.Ready v130.Tree)).length) none, .d (eI p0.Tree)]), .box (.d (.agg [(eS ([] : List UInt8)), .nils, .nils, .nils, (eI (0 : Int))])), .row 6 (List.map eApiIndex (List.set (List.set y111 y112.toNat (ApiIndex.mk v129.Name r125 v129.Extra v129.Unique v129.Ready v129.Tree)) y112.toNat (ApiIndex.mk v130.Name v130.Parts r127 v130.Unique v130.Ready v130.Tree))) true, .row 7 (List.map eApiColumn r68) true, .box (.d (eApiIndex v124))]) rfl (AWs.cons (AW.refl _) (AWs.cons (AW.refl _) (AWs.cons (AW.refl _) (AWs.cons (AW.slc rfl (by simp)) (AWs.cons (AW.refl _) AWs.nil))))) rfl) (wc [0, 1, 2, 3] [0, 1, 2] (by kernel_rfl) rfl (by kernel_rfl))))))))
  ·have q := si h3; subst q; have q : _ = _ := hv3; subst q; have q := si h1; subst q
   exact SC.exit ((wc [0, 1, 3, 2] [0, 1] (by kernel_rfl) rfl (by kernel_rfl)))
 ·rintro y102 h0
  have q := si h0; subst q
  exact sr (s1 (lod (v := .agg [.d (eS p0.Name), .slc 2 7 0 r68.length none, .d ((eL 1 eI) r70), .slc 3 6 0 y102.length none, .d (eI p0.Tree)]) rfl (ld_box ts26 ta26 rfl rfl)) (s0 (sto rfl rfl (sB (d' := .agg [.d (eS p0.Name), .slc 2 7 0 r68.length none, .d ((eL 1 eI) r70), .slc 3 6 0 y102.length none, .d (eI p0.Tree)]) ts26 rfl rfl rfl rfl rfl rfl rfl)) (sn (SC.ret (finR (wc (e' := [(2, .ref 0 0 0)]) [1, 2, 3] [1] (by kernel_rfl) rfl (by kernel_rfl)) (lresC rfl (ld_box ts26 ta26 rfl rfl) lresN) rfl)))))
noncomputable def schema_checked (p0 : ApiTable) : Option (Int × (List UInt8) × (List ApiColumn) × (List Int) × (List ApiIndex) × Int) :=
 Option.bind (schema_Check p0) fun r13 =>
 bif (r13 != (0 : Int)) then
 some (r13, ([] : List UInt8), ([] : List ApiColumn), ([] : List Int), ([] : List ApiIndex), (0 : Int))
 else
 Option.bind (schema_own p0) fun (r15, r16, r17) =>
 some ((0 : Int), p0.Name, r15, r16, r17, p0.Tree)
theorem schema_checked_ok (p0 : ApiTable) (r : Int × (List UInt8) × (List ApiColumn) × (List Int) × (List ApiIndex) × Int) (h0 : schema_checked p0 = some r) : CallAt Tryz.prog 28 [.d (eApiTable p0)] [] (.tuple [.agg [.d (eS r.2.1), .slc 1 7 0 r.2.2.1.length none, .d ((eL 1 eI) r.2.2.2.1), .slc 2 6 0 r.2.2.2.2.1.length none, .d (eI r.2.2.2.2.2)], .d (eI r.1)]) [.box (.agg [.d (eS r.2.1), .slc 1 7 0 r.2.2.1.length none, .d ((eL 1 eI) r.2.2.2.1), .slc 2 6 0 r.2.2.2.2.1.length none, .d (eI r.2.2.2.2.2)]), .row 7 (List.map eApiColumn r.2.2.1) true, .row 6 (List.map eApiIndex r.2.2.2.2.1) true] := by
 unfold schema_checked at h0
 refine fn0 [0] Tryz.func28 rfl rfl rfl rfl rfl ?_
 obtain ⟨r13, hq14, h0⟩ := ob h0
 refine sr (s1 (bxo (k := 0) rfl rfl rfl) (s1 (alo (k := 1) zo26 rfl) (sa rfl (sn (sq (sr (s1 (lod (v := .d (eApiTable p0)) rfl (ld_box ts26 ta26 rfl rfl)) (c0 (schema_Check_ok p0 _ hq14) wf rfl rfl rfl cb10 rfl (fun _ => rfl) (fun _ => rfl) (sa rfl ?_)))))))))
 refine sn (sr (sm rfl (s1 (bi rfl rfl q_i64_neq) (sn (cB h0 rfl (fun h0 => ?_) (fun h0 => ?_))))))
 ·have q := si h0; subst q
  exact sr (s1 (bld rfl (bd26_ )) (sm rfl (s0 (sto rfl rfl (sB (d' := .d (.agg [(eS ([] : List UInt8)), .nils, .nils, .nils, (eI (0 : Int))])) ts26 rfl rfl rfl rfl rfl rfl rfl)) (sa rfl (sn (SC.ret (finR (Wk.trans (Wk.pushE (σ' := [.box (.d (eApiTable p0)), .box (.d (.agg [(eS ([] : List UInt8)), .nils, .nils, .nils, (eI (0 : Int))])), .row 7 (List.map eApiColumn ([] : List ApiColumn)) true]) (.row 7 [] true) (fun _ hh => by cases hh) rfl) (Wk.trans (Wk.boxE (id := 1) (y := .agg [.d (eS ([] : List UInt8)), .slc 2 7 0 (([] : List ApiColumn).length) none, .d .nils, .d .nils, .d (eI (0 : Int))]) (σ' := [.box (.d (eApiTable p0)), .box (.agg [.d (eS ([] : List UInt8)), .slc 2 7 0 (([] : List ApiColumn).length) none, .d .nils, .d .nils, .d (eI (0 : Int))]), .row 7 (List.map eApiColumn ([] : List ApiColumn)) true]) rfl (AWs.cons (AW.refl _) (AWs.cons (AW.slcn _ _ _) (AWs.cons (AW.refl _) (AWs.cons (AW.refl _) (AWs.cons (AW.refl _) AWs.nil))))) rfl) (Wk.trans (Wk.pushE (σ' := [.box (.d (eApiTable p0)), .box (.agg [.d (eS ([] : List UInt8)), .slc 2 7 0 (([] : List ApiColumn).length) none, .d .nils, .d .nils, .d (eI (0 : Int))]), .row 7 (List.map eApiColumn ([] : List ApiColumn)) true, .row 6 (List.map eApiIndex ([] : List ApiIndex)) true]) (.row 6 [] true) (fun _ hh => by cases hh) rfl) (Wk.trans (Wk.boxE (id := 1) (y := .agg [.d (eS ([] : List UInt8)), .slc 2 7 0 (([] : List ApiColumn).length) none, .d .nils, .slc 3 6 0 (([] : List ApiIndex).length) none, .d (eI (0 : Int))]) (σ' := [.box (.d (eApiTable p0)), .box (.agg [.d (eS ([] : List UInt8)), .slc 2 7 0 (([] : List ApiColumn).length) none, .d .nils, .slc 3 6 0 (([] : List ApiIndex).length) none, .d (eI (0 : Int))]), .row 7 (List.map eApiColumn ([] : List ApiColumn)) true, .row 6 (List.map eApiIndex ([] : List ApiIndex)) true]) rfl (AWs.cons (AW.refl _) (AWs.cons (AW.refl _) (AWs.cons (AW.refl _) (AWs.cons (AW.slcn _ _ _) (AWs.cons (AW.refl _) AWs.nil))))) rfl) (Wk.trans (wq (e' := [(2, .ref 1 0 0), (3, .d (eI r13))]) rfl) (Wk.trans (Wk.boxE (id := 1) (y := .agg [.d (eS ([] : List UInt8)), .slc 2 7 0 (([] : List ApiColumn).length) none, .d ((eL 1 eI) ([] : List Int)), .slc 3 6 0 (([] : List ApiIndex).length) none, .d (eI (0 : Int))]) (σ' := [.box (.d (eApiTable p0)), .box (.agg [.d (eS ([] : List UInt8)), .slc 2 7 0 (([] : List ApiColumn).length) none, .d ((eL 1 eI) ([] : List Int)), .slc 3 6 0 (([] : List ApiIndex).length) none, .d (eI (0 : Int))]), .row 7 (List.map eApiColumn ([] : List ApiColumn)) true, .row 6 (List.map eApiIndex ([] : List ApiIndex)) true]) rfl (AWs.cons (AW.refl _) (AWs.cons (AW.refl _) (AWs.cons (AW.nl _) (AWs.cons (AW.refl _) (AWs.cons (AW.refl _) AWs.nil))))) rfl) (wc (e' := [(2, .ref 0 0 0), (3, .d (eI r13))]) [1, 2, 3] [1] (by kernel_rfl) rfl (by kernel_rfl)))))))) (lresC rfl (ld_box ts26 ta26 rfl rfl) (lresT rfl lresN)) rfl)))))))
 ·obtain ⟨⟨r15, r16, r17⟩, hq18, h0⟩ := ob h0; have q := si h0; subst q
  exact sk (sr (s1 (lod (v := .d (eApiTable p0)) rfl (ld_box ts26 ta26 rfl rfl)) (cq [] [2, 3, 4] (schema_own_ok p0 _ hq18) wf rfl rfl rfl cb27 rfl rfl rfl rfl rfl rfl rfl rfl (s0 (sto rfl rfl (sB (d' := .agg [.d (eS p0.Name), .slc 3 7 0 r15.length none, .d ((eL 1 eI) r16), .slc 4 6 0 r17.length none, .d (eI p0.Tree)]) ts26 rfl rfl rfl rfl rfl rfl rfl)) (sa rfl (sn (SC.ret (finR (wc (e' := [(2, .ref 0 0 0), (3, .d (eI (0 : Int)))]) [1, 3, 4] [1] (by kernel_rfl) rfl (by kernel_rfl)) (lresC rfl (ld_box ts26 ta26 rfl rfl) (lresT rfl lresN)) rfl))))))))
noncomputable def schema_With (p0 : ApiTable) (p1 : ApiIndex) : Option (Int × (List UInt8) × (List ApiColumn) × (List Int) × (List ApiIndex) × Int) :=
 Option.bind (schema_own p0) fun (r19, r20, r21) =>
 bif decide ((r21.length + [p1].length) * 80 ≤ room) then
 Option.bind (schema_checked (ApiTable.mk p0.Name r19 r20 (r21 ++ [p1]) p0.Tree)) fun (r24, r25, r26, r27, r28, r29) =>
 some (r24, r25, r26, r27, r28, r29)
 else none
theorem schema_With_ok (p0 : ApiTable) (p1 : ApiIndex) (r : Int × (List UInt8) × (List ApiColumn) × (List Int) × (List ApiIndex) × Int) (h0 : schema_With p0 p1 = some r) : CallAt Tryz.prog 7 [.d (eApiTable p0), .d (eApiIndex p1)] [] (.tuple [.agg [.d (eS r.2.1), .slc 1 7 0 r.2.2.1.length none, .d ((eL 1 eI) r.2.2.2.1), .slc 2 6 0 r.2.2.2.2.1.length none, .d (eI r.2.2.2.2.2)], .d (eI r.1)]) [.box (.agg [.d (eS r.2.1), .slc 1 7 0 r.2.2.1.length none, .d ((eL 1 eI) r.2.2.2.1), .slc 2 6 0 r.2.2.2.2.1.length none, .d (eI r.2.2.2.2.2)]), .row 7 (List.map eApiColumn r.2.2.1) true, .row 6 (List.map eApiIndex r.2.2.2.2.1) true] := by
 unfold schema_With at h0
 refine fn0 [0, 1] Tryz.func7 rfl rfl rfl rfl rfl ?_
 obtain ⟨⟨r19, r20, r21⟩, hq22, h0⟩ := ob h0; obtain ⟨hg23, h0⟩ := gd h0; obtain ⟨⟨r24, r25, r26, r27, r28, r29⟩, hq30, h0⟩ := ob h0; have q := si h0; subst q
 refine sr (s1 (bxo (k := 0) rfl rfl rfl) (s1 (bxo (k := 1) rfl rfl rfl) (s1 (alo (k := 2) zo26 rfl) (sa rfl (sn (sr (s1 (lod (v := .d (eApiTable p0)) rfl (ld_box ts26 ta26 rfl rfl)) (cq [] [3, 4, 5] (schema_own_ok p0 _ hq22) wf rfl rfl rfl cb27 rfl rfl rfl rfl rfl rfl rfl rfl (s0 (sto rfl rfl (sB (d' := .agg [.d (eS p0.Name), .slc 4 7 0 r19.length none, .d ((eL 1 eI) r20), .slc 5 6 0 r21.length none, .d (eI p0.Tree)]) ts26 rfl rfl rfl rfl rfl rfl rfl)) ?_)))))))))
 refine sn (sr (s1 (far (k := 3) rfl fo26_3 ts24 rfl) (s1 (lod rfl (ld_box ts24 ta24 rfl rfl)) (s1 (lod (v := .d (eApiIndex p1)) rfl (ld_box ts29 ta29 rfl rfl)) (s1 (bsn (k := 6) (ds := List.map eApiIndex [p1]) (off := 0) (l' := [p1].length) rfl un24 ei29 rfl rfl (by rfl) rfl rfl rfl) (s1 (app rfl rfl rfl rfl bc24 (aF (f := eApiIndex) (xs := r21) (k := 7) rfl un24 ei29 rfl (el_full (xs := [p1]) rfl) hg23 rfl)) (s1 (far (k := 3) rfl fo26_3 ts24 rfl) (s0 (sto rfl rfl (sB (d' := .agg [.d (eS p0.Name), .slc 4 7 0 r19.length none, .d ((eL 1 eI) r20), .slc 7 6 0 ((r21 ++ [p1]).length) none, .d (eI p0.Tree)]) ts24 rfl rfl rfl rfl rfl rfl rfl)) (sn ?_)))))))))
 exact sr (s1 (lod (v := .agg [.d (eS p0.Name), .slc 4 7 0 r19.length none, .d ((eL 1 eI) r20), .slc 7 6 0 ((r21 ++ [p1]).length) none, .d (eI p0.Tree)]) rfl (ld_box ts26 ta26 rfl rfl)) (cq (args' := [.agg [.d (eS p0.Name), .slc 0 7 0 r19.length none, .d ((eL 1 eI) r20), .slc 1 6 0 ((r21 ++ [p1]).length) none, .d (eI p0.Tree)]]) (σc := [.row 7 (List.map eApiColumn r19) true, .row 6 (List.map eApiIndex (r21 ++ [p1])) true]) [4, 7] [8, 9, 10] (CallAt.frz (ArgF.frzw (y := .d (eApiTable (ApiTable.mk p0.Name r19 r20 (r21 ++ [p1]) p0.Tree))) rfl (frzs_d rfl (frzs_slc (fF rfl rfl rfl) (frzs_d rfl (frzs_slc (fF rfl rfl rfl) (frzs_d rfl frzs_nil))))) (AW.aggd rfl (AWs.cons (AW.refl _) (AWs.cons (AW.refl _) (AWs.cons (AW.refl _) (AWs.cons (AW.refl _) (AWs.cons (AW.refl _) AWs.nil)))))) (ArgF.nil _)) (fq [] [2, 3, 4] (schema_checked_ok (ApiTable.mk p0.Name r19 r20 (r21 ++ [p1]) p0.Tree) _ hq30) rfl rfl rfl rfl rfl rfl rfl rfl)) wf rfl rfl rfl cb28 rfl rfl rfl rfl rfl rfl rfl rfl (s1 (ext rfl rfl) (s1 (ext rfl rfl) (s0 (sto rfl rfl (sB (d' := .agg [.d (eS r25), .slc 9 7 0 r26.length none, .d ((eL 1 eI) r27), .slc 10 6 0 r28.length none, .d (eI r29)]) ts26 rfl rfl rfl rfl rfl rfl rfl)) (sa rfl (sn (SC.ret (finR (wc (e' := [(4, .ref 0 0 0), (5, .d (eI r24))]) [2, 9, 10] [2] (by kernel_rfl) rfl (by kernel_rfl)) (lresC rfl (ld_box ts26 ta26 rfl rfl) (lresT rfl lresN)) rfl)))))))))
noncomputable def schema_Without_1 (p0 : ApiIndex) (p1 : List UInt8) : Option Unit :=
 some ()
theorem schema_Without_1_ok (p0 : ApiIndex) (p1 : List UInt8) (r : Unit) (h0 : schema_Without_1 p0 p1 = some r) : CallAt Tryz.prog 30 [.d (eApiIndex p0), .ref 0 0 0] [.box (.d (eS p1))] (.d (eB (p0.Name == p1))) [.box (.d (eS p1))] := by
 unfold schema_Without_1 at h0
 refine fn0 [0, 1] Tryz.func30 rfl rfl rfl rfl rfl ?_
 have q := si h0; subst q
 refine sr (s1 (bxo (k := 1) rfl rfl rfl) (sa rfl (sn (sr (s1 (far (k := 0) rfl fo29_0 ts9 rfl) (s1 (lod rfl (ld_box ts9 ta9 rfl rfl)) (s1 (lod rfl (ld_box ts9 ta9 rfl rfl)) (s1 (bi rfl rfl q_str_eql) (sa rfl ?_)))))))))
 exact sn (SC.ret (finR (wc (e' := [(3, .d (eB (p0.Name == p1)))]) [0] [0] (by kernel_rfl) rfl (by kernel_rfl)) (lresT rfl lresN) rfl))
noncomputable def slices_IndexFunc_api_Index_api_Index_1 (p0 : List ApiIndex) (p1 : List UInt8) : Option Int :=
 bindE (Y := Unit) (E := Int)
 (Option.bind (α := Unit ⊕ Int)
 (loop (Y := Int) (W := Unit ⊕ Int) (fun y39 =>
 bif (decide (y39 < (p0.length : Int))) then
 Option.bind (getI p0 y39) fun v45 =>
 Option.bind (schema_Without_1 v45 p1) fun _ =>
 bif (v45.Name == p1) then
 some (Sum.inr (Sum.inr y39))
 else
 some (Sum.inl (w64 (y39 + (1 : Int))))
 else
 some (Sum.inr (Sum.inl ()))) (0 : Int))
 (Sum.elim (fun e => some (Sum.inl e)) (fun e => some (Sum.inr e))))
 (fun _ =>
 some (-1 : Int))
 (fun e => some e)
theorem slices_IndexFunc_api_Index_api_Index_1_ok (p0 : List ApiIndex) (p1 : List UInt8) (r : Int) (h0 : slices_IndexFunc_api_Index_api_Index_1 p0 p1 = some r) : CallAt Tryz.prog 29 [.d ((eL 6 eApiIndex) p0), .fn (.func 30) [] [.ref 0 0 0]] [.box (.d (eS p1))] (.d (eI r)) [.box (.d (eS p1))] := by
 unfold slices_IndexFunc_api_Index_api_Index_1 at h0
 refine fn0 [0, 1] Tryz.func29 rfl rfl rfl rfl rfl ?_
 refine sr (sa rfl (sn (SC.seqB h0 (fun y => ⟨mk 19 [], [.box (.d (eS p1))]⟩) ?_ ?_)))
 ·intro u1_36 h1 h0
  obtain ⟨u2_44, h2, h1⟩ := ob h1
  refine sr (sm rfl (s1 (len rfl rfl rfl (len_lst un24)) (sm rfl (sn (SC.blk (SC.loopB h2 (fun y => ⟨mk 19 [(0, .d ((eL 6 eApiIndex) p0)), (1, .fn (.func 30) [] [.ref 0 0 0]), (7, .d (eI (p0.length : Int))), (8, .d (eI y))], [.box (.d (eS p1))]⟩) (wq rfl) ?_))))))
  intro n47
  rintro y39 w2_43 h3 hv3
  refine sr (s1 (bi rfl rfl q_i64_lss) (sn (sq (cB h3 rfl (fun h3 => ?_) (fun h3 => ?_)))))
  ·obtain ⟨v45, hv45, h3⟩ := ob h3; obtain ⟨_, hq46, h3⟩ := ob h3
   refine sk (sq (SC.blk (sr (sm rfl (sa rfl (sn (sr (sm rfl (sm rfl ?_)))))))))
   refine sm rfl (s1 (ial rfl rfl un24 ts29 (getI_some hv45).1 (map_get (getI_some hv45).2) rfl) (s1 (lod (v := .d (eApiIndex v45)) rfl (ld_rop ts29 ta29 rfl)) (cq [0] [] (schema_Without_1_ok v45 p1 _ hq46) wf rfl rfl rfl cb30 rfl rfl rfl rfl rfl rfl rfl rfl (sn (cB h3 rfl (fun h3 => ?_) (fun h3 => ?_))))))
   ·have q := si h3; subst q; have q : _ = _ := hv3; subst q; have q := si h1; subst q; have q := si h0; subst q
    exact sr (sm rfl (sa rfl (sn (SC.ret (finR (Wk.refl _) (lresT rfl lresN) rfl)))))
   ·refine SC.skip ?_
    change SC _ _ _ _ _
    have q := si h3; subst q
    exact SC.region (s1 (bi rfl rfl q_i64_add) (sm rfl (SO.nil (lf (wq rfl)))))
  ·have q := si h3; subst q; have q : _ = _ := hv3; subst q; have q := si h1; subst q
   exact SC.exit (lf (wq rfl))
 ·intro _ h0
  have q := si h0; subst q
  exact sr (sa rfl (sn (SC.ret (finR (Wk.refl _) (lresT rfl lresN) rfl))))
theorem delete31_ok (p0 : List ApiIndex) (p1 p2 : Int) (r : List ApiIndex) (h0 : delF 80 p0 p1 p2 = some r) : CallAt Tryz.prog 31 [.slc 0 6 0 p0.length none, .d (eI p1), .d (eI p2)] [.row 6 (List.map eApiIndex p0) true] (.d (eL 6 eApiIndex r)) [.row 6 (List.map eApiIndex (r ++ List.replicate (p2.toNat - p1.toNat) (ApiIndex.mk ([] : List UInt8) ([] : List ApiPart) ([] : List Int) false false (0 : Int)))) false] := by
 obtain ⟨hi, hij, hj, hr, rfl⟩ := delF_some h0
 have n1 : p1.toNat ≤ p2.toNat := by omega
 have n2 : p2.toNat ≤ p0.length := by omega
 refine CallAt.capN (by omega) fun c hc => ?_
 refine fn0 [0, 1, 2] Tryz.func31 rfl rfl rfl rfl rfl ?_
 refine sr (s1 (asg (v := .d .nils) rfl) (sn (sr (sm rfl (sm rfl (sm rfl (sm rfl (s1 (len rfl rfl rfl (len_slc un24)) (s1 (slo rfl rfl rfl rfl (sl_c3 un24 ts29 hi (by omega) hj hc (by omega))) (sn ?_))))))))))
 have he : (p1 == p2) = false := by simp; omega
 refine sq (sr (sm rfl (sm rfl (s1 (bi (v := .d (eB false)) rfl rfl (by have q := q_i64_eql (P := Tryz.prog) (t := 3) (a := p1) (b := p2); rw [he] at q; exact q)) (sn (cF rfl (sk ?_)))))))
 refine sr (sm rfl (s1 (len rfl rfl rfl (len_slc un24)) (sa rfl (sn (sd (by kernel_rfl) ?_)))))
 refine t1 ([], false) (mv rfl) rfl (t1 ([], false) (mv rfl) rfl (t1 ([], false) (slo rfl rfl rfl rfl (sl_ch un24 ts29 hi (by omega) hc)) rfl (t1 ([], false) (mv rfl) rfl (t1 ([], false) (mv rfl) rfl (t1 ([], false) (slo rfl rfl rfl rfl (sl_cl un24 ts29 (by omega) hj hc)) rfl ?_)))))
 refine t1 ([0, 0], true) (app rfl rfl rfl rfl bc24 (delA un24 ei29 n1 n2 hc hr)) rfl (t1 ([], false) (asg rfl) rfl (tn (by decide +kernel) ?_))
 refine sr (sm rfl (sm rfl (s1 (len rfl rfl rfl (len_slc un24)) (sm rfl (s1 (slo rfl rfl rfl rfl (sl_cb un24 ts29 (by omega) hc)) (clr (z := eApiIndex (ApiIndex.mk ([] : List UInt8) ([] : List ApiPart) ([] : List Int) false false (0 : Int))) rfl rfl rfl rfl un24 ei29 (AW.aggd rfl (AWs.cons (AW.refl _) (AWs.cons (AW.nl _) (AWs.cons (AW.nl _) (AWs.cons (AW.refl _) (AWs.cons (AW.refl _) (AWs.cons (AW.refl _) AWs.nil))))))) rfl rfl rfl (delC' n1 n2) (congrArg (fun l => [Ob.row 6 l true]) (delC (Z := (ApiIndex.mk ([] : List UInt8) ([] : List ApiPart) ([] : List Int) false false (0 : Int))) n1 n2)) (sn ?_)))))))
 exact sr (sm rfl (sa rfl (sn (SC.ret (finR (Wk.frz (i := 6) (x := .slc 0 6 0 (p1.toNat + (p0.length - p2.toNat)) (some c)) rfl rfl (delZ n1 n2)) (lresT rfl lresN) rfl)))))
noncomputable def schema_Without (p0 : ApiTable) (p1 : List UInt8) : Option (Int × (List UInt8) × (List ApiColumn) × (List Int) × (List ApiIndex) × Int) :=
 Option.bind (slices_IndexFunc_api_Index_api_Index_1 p0.Indexes p1) fun r15 =>
 bif (decide (r15 < (0 : Int))) then
 some ((5 : Int), ([] : List UInt8), ([] : List ApiColumn), ([] : List Int), ([] : List ApiIndex), (0 : Int))
 else
 Option.bind (schema_own p0) fun (r17, r18, r19) =>
 Option.bind (delF 80 r19 r15 (w64 (r15 + (1 : Int)))) fun r21 =>
 some ((0 : Int), p0.Name, r17, r18, r21, p0.Tree)
theorem schema_Without_ok (p0 : ApiTable) (p1 : List UInt8) (r : Int × (List UInt8) × (List ApiColumn) × (List Int) × (List ApiIndex) × Int) (h0 : schema_Without p0 p1 = some r) : CallAt Tryz.prog 8 [.d (eApiTable p0), .d (eS p1)] [] (.tuple [.agg [.d (eS r.2.1), .slc 1 7 0 r.2.2.1.length none, .d ((eL 1 eI) r.2.2.2.1), .d ((eL 6 eApiIndex) r.2.2.2.2.1), .d (eI r.2.2.2.2.2)], .d (eI r.1)]) [.box (.agg [.d (eS r.2.1), .slc 1 7 0 r.2.2.1.length none, .d ((eL 1 eI) r.2.2.2.1), .d ((eL 6 eApiIndex) r.2.2.2.2.1), .d (eI r.2.2.2.2.2)]), .row 7 (List.map eApiColumn r.2.2.1) true] := by
 unfold schema_Without at h0
 refine fn0 [0, 1] Tryz.func8 rfl rfl rfl rfl rfl ?_
 obtain ⟨r15, hq16, h0⟩ := ob h0
 refine sr (s1 (bxo (k := 0) rfl rfl rfl) (s1 (bxo (k := 1) rfl rfl rfl) (s1 (alo (k := 2) zo26 rfl) (sa rfl (sn (sr (s1 (far (k := 3) rfl fo26_3 ts24 rfl) (s1 (lod rfl (ld_box ts24 ta24 rfl rfl)) (s1 (mkf rfl rfl) ?_)))))))))
 refine cq [1] [] (slices_IndexFunc_api_Index_api_Index_1_ok p0.Indexes p1 _ hq16) wf rfl rfl rfl cb29 rfl rfl rfl rfl rfl rfl rfl rfl (sa rfl (sn (sq (sr (sm rfl (s1 (bi rfl rfl q_i64_lss) (sn (cB h0 rfl (fun h0 => ?_) (fun h0 => ?_)))))))))
 ·have q := si h0; subst q
  exact sr (s1 (bld rfl (bd26_ )) (s0 (sto rfl rfl (sB (d' := .d (.agg [(eS ([] : List UInt8)), .nils, .nils, .nils, (eI (0 : Int))])) ts26 rfl rfl rfl rfl rfl rfl rfl)) (sa rfl (sn (SC.ret (finR (Wk.trans (Wk.pushE (σ' := [.box (.d (eApiTable p0)), .box (.d (eS p1)), .box (.d (.agg [(eS ([] : List UInt8)), .nils, .nils, .nils, (eI (0 : Int))])), .row 7 (List.map eApiColumn ([] : List ApiColumn)) true]) (.row 7 [] true) (fun _ hh => by cases hh) rfl) (Wk.trans (Wk.boxE (id := 2) (y := .agg [.d (eS ([] : List UInt8)), .slc 3 7 0 (([] : List ApiColumn).length) none, .d .nils, .d .nils, .d (eI (0 : Int))]) (σ' := [.box (.d (eApiTable p0)), .box (.d (eS p1)), .box (.agg [.d (eS ([] : List UInt8)), .slc 3 7 0 (([] : List ApiColumn).length) none, .d .nils, .d .nils, .d (eI (0 : Int))]), .row 7 (List.map eApiColumn ([] : List ApiColumn)) true]) rfl (AWs.cons (AW.refl _) (AWs.cons (AW.slcn _ _ _) (AWs.cons (AW.refl _) (AWs.cons (AW.refl _) (AWs.cons (AW.refl _) AWs.nil))))) rfl) (Wk.trans (wq (e' := [(4, .ref 2 0 0), (5, .d (eI (5 : Int)))]) rfl) (Wk.trans (Wk.boxE (id := 2) (y := .agg [.d (eS ([] : List UInt8)), .slc 3 7 0 (([] : List ApiColumn).length) none, .d ((eL 1 eI) ([] : List Int)), .d ((eL 6 eApiIndex) ([] : List ApiIndex)), .d (eI (0 : Int))]) (σ' := [.box (.d (eApiTable p0)), .box (.d (eS p1)), .box (.agg [.d (eS ([] : List UInt8)), .slc 3 7 0 (([] : List ApiColumn).length) none, .d ((eL 1 eI) ([] : List Int)), .d ((eL 6 eApiIndex) ([] : List ApiIndex)), .d (eI (0 : Int))]), .row 7 (List.map eApiColumn ([] : List ApiColumn)) true]) rfl (AWs.cons (AW.refl _) (AWs.cons (AW.refl _) (AWs.cons (AW.nl _) (AWs.cons (AW.nl _) (AWs.cons (AW.refl _) AWs.nil))))) rfl) (wc (e' := [(4, .ref 0 0 0), (5, .d (eI (5 : Int)))]) [2, 3] [2] (by kernel_rfl) rfl (by kernel_rfl)))))) (lresC rfl (ld_box ts26 ta26 rfl rfl) (lresT rfl lresN)) rfl))))))
 ·obtain ⟨⟨r17, r18, r19⟩, hq20, h0⟩ := ob h0; obtain ⟨r21, hq22, h0⟩ := ob h0; have q := si h0; subst q
  refine sk (sr (s1 (lod (v := .d (eApiTable p0)) rfl (ld_box ts26 ta26 rfl rfl)) (cq [] [3, 4, 5] (schema_own_ok p0 _ hq20) wf rfl rfl rfl cb27 rfl rfl rfl rfl rfl rfl rfl rfl (s0 (sto rfl rfl (sB (d' := .agg [.d (eS p0.Name), .slc 4 7 0 r17.length none, .d ((eL 1 eI) r18), .slc 5 6 0 r19.length none, .d (eI p0.Tree)]) ts26 rfl rfl rfl rfl rfl rfl rfl)) (sn (sr (s1 (far (k := 3) rfl fo26_3 ts24 rfl) (s1 (lod rfl (ld_box ts24 ta24 rfl rfl)) (sm rfl ?_)))))))))
  refine sm rfl (s1 (bi rfl rfl q_i64_add) (cq [5] [] (delete31_ok r19 r15 (w64 (r15 + (1 : Int))) _ hq22) wf rfl rfl rfl cb31 rfl rfl rfl rfl rfl rfl rfl rfl (s1 (far (k := 3) rfl fo26_3 ts24 rfl) (s0 (sto rfl rfl (sB (d' := .agg [.d (eS p0.Name), .slc 4 7 0 r17.length none, .d ((eL 1 eI) r18), .d ((eL 6 eApiIndex) r21), .d (eI p0.Tree)]) ts24 rfl rfl rfl rfl rfl rfl rfl)) (sn (sr (s1 (lod (v := .agg [.d (eS p0.Name), .slc 4 7 0 r17.length none, .d ((eL 1 eI) r18), .d ((eL 6 eApiIndex) r21), .d (eI p0.Tree)]) rfl (ld_box ts26 ta26 rfl rfl)) (s0 (sto rfl rfl (sB (d' := .agg [.d (eS p0.Name), .slc 4 7 0 r17.length none, .d ((eL 1 eI) r18), .d ((eL 6 eApiIndex) r21), .d (eI p0.Tree)]) ts26 rfl rfl rfl rfl rfl rfl rfl)) (sa rfl ?_)))))))))
  exact sn (SC.ret (finR (wc (e' := [(4, .ref 0 0 0), (5, .d (eI (0 : Int)))]) [2, 4] [2] (by kernel_rfl) rfl (by kernel_rfl)) (lresC rfl (ld_box ts26 ta26 rfl rfl) (lresT rfl lresN)) rfl))
noncomputable def raw_Ints (p0 : List Int) (p1 : List Int) : Option Bool :=
 bif ((p0.length : Int) != (p1.length : Int)) then
 some false
 else
 bindE (Y := Unit) (E := Bool)
 (Option.bind (α := Unit ⊕ Bool)
 (loop (Y := Int) (W := Unit ⊕ Bool) (fun y39 =>
 bif (decide (y39 < (p0.length : Int))) then
 Option.bind (getI p0 y39) fun v45 =>
 Option.bind (getI p1 y39) fun v46 =>
 bif (v45 != v46) then
 some (Sum.inr (Sum.inr false))
 else
 some (Sum.inl (w64 (y39 + (1 : Int))))
 else
 some (Sum.inr (Sum.inl ()))) (0 : Int))
 (Sum.elim (fun e => some (Sum.inl e)) (fun e => some (Sum.inr e))))
 (fun _ =>
 some true)
 (fun e => some e)
theorem raw_Ints_ok (p0 : List Int) (p1 : List Int) (r : Bool) (h0 : raw_Ints p0 p1 = some r) : CallAt Tryz.prog 32 [.d ((eL 1 eI) p0), .d ((eL 1 eI) p1)] [] (.d (eB r)) [] := by
 unfold raw_Ints at h0
 refine fn0 [0, 1] Tryz.func32 rfl rfl rfl rfl rfl ?_
 refine sr (sa rfl (sn (sq (sr (sm rfl (s1 (len rfl rfl rfl (len_lst un23)) (sm rfl (s1 (len rfl rfl rfl (len_lst un23)) (s1 (bi rfl rfl q_i64_neq) ?_)))))))))
 refine sn (cB h0 rfl (fun h0 => ?_) (fun h0 => ?_))
 ·have q := si h0; subst q
  exact sr (sa rfl (sn (SC.ret (finR (Wk.refl _) (lresT rfl lresN) rfl))))
 ·refine sk (SC.seqB h0 (fun y => ⟨mk 26 [], []⟩) ?_ ?_)
  ·intro u1_36 h1 h0
   obtain ⟨u2_44, h2, h1⟩ := ob h1
   refine sr (sa rfl (sn (SC.blk (SC.loopB h2 (fun y => ⟨mk 26 [(0, .d ((eL 1 eI) p0)), (1, .d ((eL 1 eI) p1)), (5, .d (eI y))], []⟩) (wq rfl) ?_))))
   intro n47
   rintro y39 w2_43 h3 hv3
   refine sq (sr (sm rfl (sm rfl (s1 (len rfl rfl rfl (len_lst un23)) (s1 (bi rfl rfl q_i64_lss) (sn (cB h3 rfl (fun h3 => ?_) (fun h3 => ?_))))))))
   ·obtain ⟨v45, hv45, h3⟩ := ob h3; obtain ⟨v46, hv46, h3⟩ := ob h3
    refine sk (sq (SC.blk (sd (by kernel_rfl) (t1 ([], false) (mv rfl) rfl (t1 ([], false) (mv rfl) rfl (t1 ([], false) (ial rfl rfl un23 ts3 (getI_some hv45).1 (map_get (getI_some hv45).2) rfl) rfl (t1 ([], false) (lod rfl (ld_rop ts3 ta3 rfl)) rfl (t1 ([], false) (mv rfl) rfl (t1 ([], false) (mv rfl) rfl ?_)))))))))
    refine t1 ([], false) (ial rfl rfl un23 ts3 (getI_some hv46).1 (map_get (getI_some hv46).2) rfl) rfl (t1 ([], false) (lod rfl (ld_rop ts3 ta3 rfl)) rfl (t1 ([], false) (bi rfl rfl q_i64_neq) rfl (tn (by decide +kernel) (cB h3 rfl (fun h3 => ?_) (fun h3 => ?_)))))
    ·have q := si h3; subst q; have q : _ = _ := hv3; subst q; have q := si h1; subst q; have q := si h0; subst q
     exact sr (sa rfl (sn (SC.ret (finR (Wk.refl _) (lresT rfl lresN) rfl))))
    ·refine SC.skip ?_
     change SC _ _ _ _ _
     have q := si h3; subst q
     exact SC.region (sm rfl (s1 (bi rfl rfl q_i64_add) (sa rfl (SO.nil (lf (wq rfl))))))
   ·have q := si h3; subst q; have q : _ = _ := hv3; subst q; have q := si h1; subst q
    exact SC.exit (lf (wq rfl))
  ·intro _ h0
   have q := si h0; subst q
   exact sr (sa rfl (sn (SC.ret (finR (Wk.refl _) (lresT rfl lresN) rfl))))
noncomputable def ref17_Same (p0 : ApiTable) (p1 : ApiTable) : Option Bool :=
 Option.bind (α := Bool)
 (bif (p0.Name != p1.Name) then
 some true
 else
 bif (p0.Tree != p1.Tree) then
 some true
 else
 bif ((p0.Cols.length : Int) != (p1.Cols.length : Int)) then
 some true
 else
 Option.bind (raw_Ints p0.Primary p1.Primary) fun r280 =>
 bif (!r280) then
 some true
 else
 some ((p0.Indexes.length : Int) != (p1.Indexes.length : Int)))
 fun y278 =>
 bif y278 then
 some false
 else
 bindE (Y := Unit) (E := Bool)
 (Option.bind (α := Unit ⊕ Bool)
 (loop (Y := Int) (W := Unit ⊕ Bool) (fun y296 =>
 bif (decide (y296 < (p0.Cols.length : Int))) then
 Option.bind (getI p0.Cols y296) fun v302 =>
 Option.bind (getI p1.Cols y296) fun v303 =>
 bif (!(eqApiColumn v302 v303)) then
 some (Sum.inr (Sum.inr false))
 else
 some (Sum.inl (w64 (y296 + (1 : Int))))
 else
 some (Sum.inr (Sum.inl ()))) (0 : Int))
 (Sum.elim (fun e => some (Sum.inl e)) (fun e => some (Sum.inr e))))
 (fun _ =>
 bindE (Y := Unit) (E := Bool)
 (Option.bind (α := Unit ⊕ Bool)
 (loop (Y := Int) (W := Unit ⊕ Bool) (fun y467 =>
 bif (decide (y467 < (p0.Indexes.length : Int))) then
 bindE (Y := Unit) (E := Bool)
 (Option.bind (getI p0.Indexes y467) fun v530 =>
 Option.bind (getI p1.Indexes y467) fun v531 =>
 Option.bind (α := Bool)
 (bif (v530.Name != v531.Name) then
 some true
 else
 bif (v530.Unique != v531.Unique) then
 some true
 else
 bif (v530.Ready != v531.Ready) then
 some true
 else
 bif (v530.Tree != v531.Tree) then
 some true
 else
 Option.bind (raw_Ints v530.Extra v531.Extra) fun r536 =>
 bif (!r536) then
 some true
 else
 some ((v530.Parts.length : Int) != (v531.Parts.length : Int)))
 fun y534 =>
 bif y534 then
 some (Sum.inr false)
 else
 Option.bind (α := Unit ⊕ Bool)
 (loop (Y := Int) (W := Unit ⊕ Bool) (fun y540 =>
 bif (decide (y540 < (v530.Parts.length : Int))) then
 Option.bind (getI v530.Parts y540) fun v546 =>
 Option.bind (getI v531.Parts y540) fun v547 =>
 bif (!(eqApiPart v546 v547)) then
 some (Sum.inr (Sum.inr false))
 else
 some (Sum.inl (w64 (y540 + (1 : Int))))
 else
 some (Sum.inr (Sum.inl ()))) (0 : Int))
 (Sum.elim (fun e => some (Sum.inl e)) (fun e => some (Sum.inr e))))
 (fun _ =>
 some (Sum.inl (w64 (y467 + (1 : Int)))))
 (fun e => some (Sum.inr (Sum.inr e)))
 else
 some (Sum.inr (Sum.inl ()))) (0 : Int))
 (Sum.elim (fun e => some (Sum.inl e)) (fun e => some (Sum.inr e))))
 (fun _ =>
 some true)
 (fun e => some e))
 (fun e => some e)
theorem ref17_Same_ok (p0 : ApiTable) (p1 : ApiTable) (r : Bool) (h0 : ref17_Same p0 p1 = some r) : CallAt Tryz.prog 9 [.d (eApiTable p0), .d (eApiTable p1)] [] (.d (eB r)) [] := by
 unfold ref17_Same at h0
 refine fn0 [0, 1] Tryz.func9 rfl rfl rfl rfl rfl ?_
 refine sr (s1 (bxo (k := 0) rfl rfl rfl) (s1 (bxo (k := 1) rfl rfl rfl) (sa rfl (sn (sq (SC.seqP h0 (fun y => ⟨mk 144 [(2, .ref 0 0 0), (3, .ref 1 0 0), (47, .d (eB y))], [.box (.d (eApiTable p0)), .box (.d (eApiTable p1))]⟩) ?_ ?_))))))
 ·intro u1_279 h1
  refine SC.region (s1 (far (k := 0) rfl fo26_0 ts9 rfl) (s1 (lod rfl (ld_box ts9 ta9 rfl rfl)) (s1 (far (k := 0) rfl fo26_0 ts9 rfl) (s1 (lod rfl (ld_box ts9 ta9 rfl rfl)) (s1 (bi rfl rfl q_str_neq) (sm rfl (sp h1 (fun h1 => ?_) (fun h1 => ?_))))))))
  ·have q := si h1; subst q
   refine kw rfl (kw rfl (kw rfl (kw rfl (kw rfl (s1 (pkt rfl rfl) (sm rfl (kw rfl (kw rfl (kw rfl ?_)))))))))
   refine kw rfl (kw rfl (kw rfl (kw rfl (s1 (pkt rfl rfl) (sm rfl (kw rfl (kw rfl (kw rfl (kw rfl ?_)))))))))
   refine kw rfl (kw rfl (s1 (pkt rfl rfl) (sm rfl (kw rfl (kw rfl (kw rfl (kw rfl (kw rfl (kw rfl ?_)))))))))
   exact kw rfl (s1 (pkt rfl rfl) (SO.nil ((wq rfl))))
  ·refine gw rfl (far (k := 4) rfl fo26_4 ts3 rfl) (gw rfl (lod rfl (ld_box ts3 ta3 rfl rfl)) (gw rfl (far (k := 4) rfl fo26_4 ts3 rfl) (gw rfl (lod rfl (ld_box ts3 ta3 rfl rfl)) (gw rfl (bi rfl rfl q_i64_neq) (s1 (pkf rfl rfl) (sm rfl (sp h1 (fun h1 => ?_) (fun h1 => ?_))))))))
   ·have q := si h1; subst q
    refine kw rfl (kw rfl (kw rfl (kw rfl (kw rfl (kw rfl (kw rfl (s1 (pkt rfl rfl) (sm rfl (kw rfl ?_)))))))))
    refine kw rfl (kw rfl (kw rfl (kw rfl (kw rfl (s1 (pkt rfl rfl) (sm rfl (kw rfl (kw rfl (kw rfl ?_)))))))))
    exact kw rfl (kw rfl (kw rfl (kw rfl (s1 (pkt rfl rfl) (SO.nil ((wq rfl)))))))
   ·refine gw rfl (far (k := 1) rfl fo26_1 ts22 rfl) (gw rfl (lod rfl (ld_box ts22 ta22 rfl rfl)) (gw rfl (len rfl rfl rfl (len_lst un22)) (gw rfl (far (k := 1) rfl fo26_1 ts22 rfl) (gw rfl (lod rfl (ld_box ts22 ta22 rfl rfl)) (gw rfl (len rfl rfl rfl (len_lst un22)) (gw rfl (bi rfl rfl q_i64_neq) (s1 (pkf rfl rfl) (sm rfl (sp h1 (fun h1 => ?_) (fun h1 => ?_))))))))))
    ·have q := si h1; subst q
     refine kw rfl (kw rfl (kw rfl (kw rfl (kw rfl (kw rfl (s1 (pkt rfl rfl) (sm rfl (kw rfl (kw rfl ?_)))))))))
     exact kw rfl (kw rfl (kw rfl (kw rfl (kw rfl (s1 (pkt rfl rfl) (SO.nil ((wq rfl))))))))
    ·obtain ⟨r280, hq281, h1⟩ := ob h1
     refine gw rfl (far (k := 2) rfl fo26_2 ts23 rfl) (gw rfl (lod rfl (ld_box ts23 ta23 rfl rfl)) (gw rfl (far (k := 2) rfl fo26_2 ts23 rfl) (gw rfl (lod rfl (ld_box ts23 ta23 rfl rfl)) (c0 (raw_Ints_ok p0.Primary p1.Primary _ hq281) (ww rfl) rfl rfl rfl cb32 rfl (fun _ => rfl) (fun _ => rfl) (gw rfl (nt rfl) (s1 (pkf rfl rfl) (sm rfl (sp h1 (fun h1 => ?_) (fun h1 => ?_)))))))))
     ·have q := si h1; subst q
      exact kw rfl (kw rfl (kw rfl (kw rfl (kw rfl (kw rfl (kw rfl (s1 (pkt rfl rfl) (SO.nil ((wq rfl))))))))))
     ·have q := si h1; subst q
      exact gw rfl (far (k := 3) rfl fo26_3 ts24 rfl) (gw rfl (lod rfl (ld_box ts24 ta24 rfl rfl)) (gw rfl (len rfl rfl rfl (len_lst un24)) (gw rfl (far (k := 3) rfl fo26_3 ts24 rfl) (gw rfl (lod rfl (ld_box ts24 ta24 rfl rfl)) (gw rfl (len rfl rfl rfl (len_lst un24)) (gw rfl (bi rfl rfl q_i64_neq) (s1 (pkf rfl rfl) (SO.nil ((wq rfl))))))))))
 ·rintro y278 h0
  refine cB h0 rfl (fun h0 => ?_) (fun h0 => ?_)
  ·have q := si h0; subst q
   exact sr (sa rfl (sn (SC.ret (finR (wc (e' := [(4, .d (eB false))]) [] [] (by kernel_rfl) rfl (by kernel_rfl)) (lresT rfl lresN) rfl))))
  ·refine sk (SC.seqB h0 (fun y => ⟨mk 144 [(2, .ref 0 0 0), (3, .ref 1 0 0)], [.box (.d (eApiTable p0)), .box (.d (eApiTable p1))]⟩) ?_ ?_)
   ·intro u1_293 h1 h0
    obtain ⟨u2_301, h2, h1⟩ := ob h1
    refine sr (sa rfl (sn (SC.blk (SC.loopB h2 (fun y => ⟨mk 144 [(2, .ref 0 0 0), (3, .ref 1 0 0), (5, .d (eI y))], [.box (.d (eApiTable p0)), .box (.d (eApiTable p1))]⟩) (wq rfl) ?_))))
    intro n304
    rintro y296 w2_300 h3 hv3
    refine sq (sr (sm rfl (s1 (far (k := 1) rfl fo26_1 ts22 rfl) (s1 (lod rfl (ld_box ts22 ta22 rfl rfl)) (s1 (len rfl rfl rfl (len_lst un22)) (s1 (bi rfl rfl q_i64_lss) (sn (cB h3 rfl (fun h3 => ?_) (fun h3 => ?_)))))))))
    ·obtain ⟨v302, hv302, h3⟩ := ob h3; obtain ⟨v303, hv303, h3⟩ := ob h3
     refine sk (sq (SC.blk (sd (by kernel_rfl) (t1 ([], false) (far (k := 1) rfl fo26_1 ts22 rfl) rfl (t1 ([0], false) (lod rfl (ld_box ts22 ta22 rfl rfl)) rfl (t1 ([], false) (mv rfl) rfl (t1 ([], false) (ial rfl rfl un22 ts42 (getI_some hv302).1 (map_get (getI_some hv302).2) rfl) rfl (t1 ([], false) (lod (v := .d (eApiColumn v302)) rfl (ld_rop ts42 ta42 rfl)) rfl (t1 ([], false) (far (k := 1) rfl fo26_1 ts22 rfl) rfl ?_)))))))))
     refine t1 ([1], false) (lod rfl (ld_box ts22 ta22 rfl rfl)) rfl (t1 ([], false) (mv rfl) rfl (t1 ([], false) (ial rfl rfl un22 ts42 (getI_some hv303).1 (map_get (getI_some hv303).2) rfl) rfl (t1 ([], false) (lod (v := .d (eApiColumn v303)) rfl (ld_rop ts42 ta42 rfl)) rfl (t1 ([], false) (bi (v := .d (eB (!(eqApiColumn v302 v303)))) rfl rfl (fun X Y => eqApiColumn_neq_42 X Y v302 v303)) rfl (tn (by decide +kernel) (cB h3 rfl (fun h3 => ?_) (fun h3 => ?_)))))))
     ·have q := si h3; subst q; have q : _ = _ := hv3; subst q; have q := si h1; subst q; have q := si h0; subst q
      exact sr (sa rfl (sn (SC.ret (finR (wc (e' := [(4, .d (eB false))]) [] [] (by kernel_rfl) rfl (by kernel_rfl)) (lresT rfl lresN) rfl))))
     ·refine SC.skip ?_
      change SC _ _ _ _ _
      have q := si h3; subst q
      exact SC.region (sm rfl (s1 (bi rfl rfl q_i64_add) (sa rfl (SO.nil (lf (wq rfl))))))
    ·have q := si h3; subst q; have q : _ = _ := hv3; subst q; have q := si h1; subst q
     exact SC.exit (lf (wq rfl))
   ·intro _ h0
    refine SC.seqB h0 (fun y => ⟨mk 144 [], []⟩) ?_ ?_
    ·intro u1_427 h1 h0
     obtain ⟨u2_509, h2, h1⟩ := ob h1
     refine sr (sa rfl (sn (SC.blk (SC.loopB h2 (fun y => ⟨mk 144 [(2, .ref 0 0 0), (3, .ref 1 0 0), (6, .d (eI y))], [.box (.d (eApiTable p0)), .box (.d (eApiTable p1))]⟩) (wq rfl) ?_))))
     intro n549
     rintro y467 w2_508 h3 hv3
     refine sq (sr (sm rfl (s1 (far (k := 3) rfl fo26_3 ts24 rfl) (s1 (lod rfl (ld_box ts24 ta24 rfl rfl)) (s1 (len rfl rfl rfl (len_lst un24)) (s1 (bi rfl rfl q_i64_lss) (sn (cB h3 rfl (fun h3 => ?_) (fun h3 => ?_)))))))))
     ·refine sk (SC.seqB h3 (fun y => ⟨mk 144 [(2, .ref 0 0 0), (3, .ref 1 0 0), (6, .d (eI y467))], [.box (.d (eApiTable p0)), .box (.d (eApiTable p1))]⟩) ?_ ?_)
      ·intro u4_529 h4 h3
       obtain ⟨v530, hv530, h4⟩ := ob h4; obtain ⟨v531, hv531, h4⟩ := ob h4
       refine SC.blk (sr (s1 (far (k := 3) rfl fo26_3 ts24 rfl) (s1 (lod rfl (ld_box ts24 ta24 rfl rfl)) (sm rfl (s1 (ial rfl rfl un24 ts29 (getI_some hv530).1 (map_get (getI_some hv530).2) rfl) (s1 (lod (v := .d (eApiIndex v530)) rfl (ld_rop ts29 ta29 rfl)) (s1 (alo (k := 2) zo29 rfl) (s0 (sto rfl rfl (sB (d' := .d (eApiIndex v530)) ts29 rfl rfl rfl rfl rfl rfl rfl)) (sn ?_)))))))))
       refine sr (s1 (far (k := 3) rfl fo26_3 ts24 rfl) (s1 (lod rfl (ld_box ts24 ta24 rfl rfl)) (sm rfl (s1 (ial rfl rfl un24 ts29 (getI_some hv531).1 (map_get (getI_some hv531).2) rfl) (s1 (lod (v := .d (eApiIndex v531)) rfl (ld_rop ts29 ta29 rfl)) (s1 (alo (k := 3) zo29 rfl) (s0 (sto rfl rfl (sB (d' := .d (eApiIndex v531)) ts29 rfl rfl rfl rfl rfl rfl rfl)) (sn (sq ?_)))))))))
       refine SC.seqP h4 (fun y => ⟨mk 144 [(2, .ref 0 0 0), (3, .ref 1 0 0), (6, .d (eI y467)), (7, .ref 2 0 0), (8, .ref 3 0 0), (125, .d (eB y))], [.box (.d (eApiTable p0)), .box (.d (eApiTable p1)), .box (.d (eApiIndex v530)), .box (.d (eApiIndex v531))]⟩) ?_ ?_
       ·intro u5_535 h5
        refine SC.region (s1 (far (k := 0) rfl fo29_0 ts9 rfl) (s1 (lod rfl (ld_box ts9 ta9 rfl rfl)) (s1 (far (k := 0) rfl fo29_0 ts9 rfl) (s1 (lod rfl (ld_box ts9 ta9 rfl rfl)) (s1 (bi rfl rfl q_str_neq) (sm rfl (sp h5 (fun h5 => ?_) (fun h5 => ?_))))))))
        ·have q := si h5; subst q
         refine kw rfl (kw rfl (kw rfl (kw rfl (kw rfl (s1 (pkt rfl rfl) (sm rfl (kw rfl (kw rfl (kw rfl ?_)))))))))
         refine kw rfl (kw rfl (s1 (pkt rfl rfl) (sm rfl (kw rfl (kw rfl (kw rfl (kw rfl (kw rfl (s1 (pkt rfl rfl) ?_)))))))))
         refine sm rfl (kw rfl (kw rfl (kw rfl (kw rfl (kw rfl (kw rfl (s1 (pkt rfl rfl) (sm rfl (kw rfl ?_)))))))))
         exact kw rfl (kw rfl (kw rfl (kw rfl (kw rfl (kw rfl (s1 (pkt rfl rfl) (SO.nil ((wq rfl)))))))))
        ·refine gw rfl (far (k := 3) rfl fo29_3 ts4 rfl) (gw rfl (lod rfl (ld_box ts4 ta4 rfl rfl)) (gw rfl (far (k := 3) rfl fo29_3 ts4 rfl) (gw rfl (lod rfl (ld_box ts4 ta4 rfl rfl)) (gw rfl (bi (v := .d (eB (v530.Unique != v531.Unique))) rfl rfl (fun X Y => b_bool_neq un4 X Y v530.Unique v531.Unique)) (s1 (pkf rfl rfl) (sm rfl (sp h5 (fun h5 => ?_) (fun h5 => ?_))))))))
         ·have q := si h5; subst q
          refine kw rfl (kw rfl (kw rfl (kw rfl (kw rfl (s1 (pkt rfl rfl) (sm rfl (kw rfl (kw rfl (kw rfl ?_)))))))))
          refine kw rfl (kw rfl (s1 (pkt rfl rfl) (sm rfl (kw rfl (kw rfl (kw rfl (kw rfl (kw rfl (kw rfl ?_)))))))))
          refine s1 (pkt rfl rfl) (sm rfl (kw rfl (kw rfl (kw rfl (kw rfl (kw rfl (kw rfl (kw rfl (s1 (pkt rfl rfl) ?_)))))))))
          exact SO.nil ((wq rfl))
         ·refine gw rfl (far (k := 4) rfl fo29_4 ts4 rfl) (gw rfl (lod rfl (ld_box ts4 ta4 rfl rfl)) (gw rfl (far (k := 4) rfl fo29_4 ts4 rfl) (gw rfl (lod rfl (ld_box ts4 ta4 rfl rfl)) (gw rfl (bi (v := .d (eB (v530.Ready != v531.Ready))) rfl rfl (fun X Y => b_bool_neq un4 X Y v530.Ready v531.Ready)) (s1 (pkf rfl rfl) (sm rfl (sp h5 (fun h5 => ?_) (fun h5 => ?_))))))))
          ·have q := si h5; subst q
           refine kw rfl (kw rfl (kw rfl (kw rfl (kw rfl (s1 (pkt rfl rfl) (sm rfl (kw rfl (kw rfl (kw rfl ?_)))))))))
           refine kw rfl (kw rfl (kw rfl (s1 (pkt rfl rfl) (sm rfl (kw rfl (kw rfl (kw rfl (kw rfl (kw rfl ?_)))))))))
           exact kw rfl (kw rfl (s1 (pkt rfl rfl) (SO.nil ((wq rfl)))))
          ·refine gw rfl (far (k := 5) rfl fo29_5 ts3 rfl) (gw rfl (lod rfl (ld_box ts3 ta3 rfl rfl)) (gw rfl (far (k := 5) rfl fo29_5 ts3 rfl) (gw rfl (lod rfl (ld_box ts3 ta3 rfl rfl)) (gw rfl (bi rfl rfl q_i64_neq) (s1 (pkf rfl rfl) (sm rfl (sp h5 (fun h5 => ?_) (fun h5 => ?_))))))))
           ·have q := si h5; subst q
            refine kw rfl (kw rfl (kw rfl (kw rfl (kw rfl (kw rfl (s1 (pkt rfl rfl) (sm rfl (kw rfl (kw rfl ?_)))))))))
            exact kw rfl (kw rfl (kw rfl (kw rfl (kw rfl (s1 (pkt rfl rfl) (SO.nil ((wq rfl))))))))
           ·obtain ⟨r536, hq537, h5⟩ := ob h5
            refine gw rfl (far (k := 2) rfl fo29_2 ts23 rfl) (gw rfl (lod rfl (ld_box ts23 ta23 rfl rfl)) (gw rfl (far (k := 2) rfl fo29_2 ts23 rfl) (gw rfl (lod rfl (ld_box ts23 ta23 rfl rfl)) (c0 (raw_Ints_ok v530.Extra v531.Extra _ hq537) (ww rfl) rfl rfl rfl cb32 rfl (fun _ => rfl) (fun _ => rfl) (gw rfl (nt rfl) (s1 (pkf rfl rfl) (sm rfl (sp h5 (fun h5 => ?_) (fun h5 => ?_)))))))))
            ·have q := si h5; subst q
             exact kw rfl (kw rfl (kw rfl (kw rfl (kw rfl (kw rfl (kw rfl (s1 (pkt rfl rfl) (SO.nil ((wq rfl))))))))))
            ·have q := si h5; subst q
             exact gw rfl (far (k := 1) rfl fo29_1 ts27 rfl) (gw rfl (lod rfl (ld_box ts27 ta27 rfl rfl)) (gw rfl (len rfl rfl rfl (len_lst un27)) (gw rfl (far (k := 1) rfl fo29_1 ts27 rfl) (gw rfl (lod rfl (ld_box ts27 ta27 rfl rfl)) (gw rfl (len rfl rfl rfl (len_lst un27)) (gw rfl (bi rfl rfl q_i64_neq) (s1 (pkf rfl rfl) (SO.nil ((wq rfl))))))))))
       ·rintro y534 h4
        refine cB h4 rfl (fun h4 => ?_) (fun h4 => ?_)
        ·have q := si h4; subst q; have q := si h3; subst q; have q : _ = _ := hv3; subst q; have q := si h1; subst q; have q := si h0; subst q
         exact sr (sa rfl (sn (SC.ret (finR (wc (e' := [(4, .d (eB false))]) [] [] (by kernel_rfl) rfl (by kernel_rfl)) (lresT rfl lresN) rfl))))
        ·obtain ⟨u5_545, h5, h4⟩ := ob h4
         refine sk (sr (sa rfl (sn (SC.blk (SC.loopB h5 (fun y => ⟨mk 144 [(2, .ref 0 0 0), (3, .ref 1 0 0), (6, .d (eI y467)), (7, .ref 2 0 0), (8, .ref 3 0 0), (9, .d (eI y))], [.box (.d (eApiTable p0)), .box (.d (eApiTable p1)), .box (.d (eApiIndex v530)), .box (.d (eApiIndex v531))]⟩) (wq rfl) ?_)))))
         intro n548
         rintro y540 w5_544 h6 hv6
         refine sq (sr (sm rfl (s1 (far (k := 1) rfl fo29_1 ts27 rfl) (s1 (lod rfl (ld_box ts27 ta27 rfl rfl)) (s1 (len rfl rfl rfl (len_lst un27)) (s1 (bi rfl rfl q_i64_lss) (sn (cB h6 rfl (fun h6 => ?_) (fun h6 => ?_)))))))))
         ·obtain ⟨v546, hv546, h6⟩ := ob h6; obtain ⟨v547, hv547, h6⟩ := ob h6
          refine sk (sq (SC.blk (sd (by kernel_rfl) (t1 ([], false) (far (k := 1) rfl fo29_1 ts27 rfl) rfl (t1 ([2], false) (lod rfl (ld_box ts27 ta27 rfl rfl)) rfl (t1 ([], false) (mv rfl) rfl (t1 ([], false) (ial rfl rfl un27 ts48 (getI_some hv546).1 (map_get (getI_some hv546).2) rfl) rfl (t1 ([], false) (lod (v := .d (eApiPart v546)) rfl (ld_rop ts48 ta48 rfl)) rfl (t1 ([], false) (far (k := 1) rfl fo29_1 ts27 rfl) rfl ?_)))))))))
          refine t1 ([3], false) (lod rfl (ld_box ts27 ta27 rfl rfl)) rfl (t1 ([], false) (mv rfl) rfl (t1 ([], false) (ial rfl rfl un27 ts48 (getI_some hv547).1 (map_get (getI_some hv547).2) rfl) rfl (t1 ([], false) (lod (v := .d (eApiPart v547)) rfl (ld_rop ts48 ta48 rfl)) rfl (t1 ([], false) (bi (v := .d (eB (!(eqApiPart v546 v547)))) rfl rfl (fun X Y => eqApiPart_neq_48 X Y v546 v547)) rfl (tn (by decide +kernel) (cB h6 rfl (fun h6 => ?_) (fun h6 => ?_)))))))
          ·have q := si h6; subst q; have q : _ = _ := hv6; subst q; have q := si h4; subst q; have q := si h3; subst q; have q : _ = _ := hv3; subst q; have q := si h1; subst q; have q := si h0; subst q
           exact sr (sa rfl (sn (SC.ret (finR (wc (e' := [(4, .d (eB false))]) [] [] (by kernel_rfl) rfl (by kernel_rfl)) (lresT rfl lresN) rfl))))
          ·refine SC.skip ?_
           change SC _ _ _ _ _
           have q := si h6; subst q
           exact SC.region (sm rfl (s1 (bi rfl rfl q_i64_add) (sa rfl (SO.nil (lf (wq rfl))))))
         ·have q := si h6; subst q; have q : _ = _ := hv6; subst q; have q := si h4; subst q
          exact SC.exit (lf (wc [0, 1] [0, 1] (by kernel_rfl) rfl (by kernel_rfl)))
      ·intro _ h3
       have q := si h3; subst q
       exact SC.region (sm rfl (s1 (bi rfl rfl q_i64_add) (sa rfl (SO.nil (lf (wq rfl))))))
     ·have q := si h3; subst q; have q : _ = _ := hv3; subst q; have q := si h1; subst q
      exact SC.exit (lf (wc [] [] (by kernel_rfl) rfl (by kernel_rfl)))
    ·intro _ h0
     have q := si h0; subst q
     exact sr (sa rfl (sn (SC.ret (finR (Wk.refl _) (lresT rfl lresN) rfl))))
noncomputable def law17_SchemaNames (p0 : ApiTable) (p1 : ApiIndex) : Option Bool :=
 Option.bind law17_awake fun r52 =>
 bif (!r52) then
 some false
 else
 Option.bind (ref17_Check p0) fun r54 =>
 bif (r54 != (0 : Int)) then
 some true
 else
 Option.bind (schema_With p0 p1) fun (r56, r57, r58, r59, r60, r61) =>
 bif (r56 != (0 : Int)) then
 some ((r58.length : Int) == (0 : Int))
 else
 Option.bind (schema_With (ApiTable.mk r57 r58 r59 r60 r61) p1) fun (r63, r64, r65, r66, r67, r68) =>
 Option.bind (schema_Without (ApiTable.mk r57 r58 r59 r60 r61) p1.Name) fun (r70, r71, r72, r73, r74, r75) =>
 Option.bind (schema_Without p0 p1.Name) fun (r77, r78, r79, r80, r81, r82) =>
 Option.bind (α := Bool)
 (bif (r63 == (6 : Int)) then
 bif (r70 == (0 : Int)) then
 Option.bind (ref17_Same (ApiTable.mk r71 r72 r73 r74 r75) p0) fun r94 =>
 bif r94 then
 bif (r77 == (5 : Int)) then
 Option.bind (schema_Check (ApiTable.mk r57 r58 r59 r60 r61)) fun r96 =>
 some (r96 == (0 : Int))
 else
 some false
 else
 some false
 else
 some false
 else
 bif (r63 == (7 : Int)) then
 bif (r70 == (0 : Int)) then
 Option.bind (ref17_Same (ApiTable.mk r71 r72 r73 r74 r75) p0) fun r98 =>
 bif r98 then
 bif (r77 == (5 : Int)) then
 Option.bind (schema_Check (ApiTable.mk r57 r58 r59 r60 r61)) fun r100 =>
 some (r100 == (0 : Int))
 else
 some false
 else
 some false
 else
 some false
 else
 some false)
 fun y92 =>
 some y92
theorem law17_SchemaNames_ok (p0 : ApiTable) (p1 : ApiIndex) (r : Bool) (h0 : law17_SchemaNames p0 p1 = some r) : CallAt Tryz.prog 3 [.d (eApiTable p0), .d (eApiIndex p1)] [] (.d (eB r)) [] := by
 unfold law17_SchemaNames at h0
 refine fn0 [0, 1] Tryz.func3 rfl rfl rfl rfl rfl ?_
 obtain ⟨r52, hq53, h0⟩ := ob h0
 refine sr (s1 (bxo (k := 0) rfl rfl rfl) (s1 (bxo (k := 1) rfl rfl rfl) (sa rfl (sn (sq (sr (c0 (law17_awake_ok _ hq53) wf rfl rfl rfl cb5 rfl (fun _ => rfl) (fun _ => rfl) (s1 (nt rfl) (sn ?_)))))))))
 refine cB h0 rfl (fun h0 => ?_) (fun h0 => ?_)
 ·have q := si h0; subst q
  exact sr (sa rfl (sn (SC.ret (finR (wc (e' := [(4, .d (eB false))]) [] [] (by kernel_rfl) rfl (by kernel_rfl)) (lresT rfl lresN) rfl))))
 ·obtain ⟨r54, hq55, h0⟩ := ob h0
  refine sk (sq (sr (s1 (lod (v := .d (eApiTable p0)) rfl (ld_box ts26 ta26 rfl rfl)) (c0 (ref17_Check_ok p0 _ hq55) wf rfl rfl rfl cb6 rfl (fun _ => rfl) (fun _ => rfl) (s1 (bi rfl rfl q_i64_neq) (sn (cB h0 rfl (fun h0 => ?_) (fun h0 => ?_))))))))
  ·have q := si h0; subst q
   exact sr (sa rfl (sn (SC.ret (finR (wc (e' := [(4, .d (eB true))]) [] [] (by kernel_rfl) rfl (by kernel_rfl)) (lresT rfl lresN) rfl))))
  ·obtain ⟨⟨r56, r57, r58, r59, r60, r61⟩, hq62, h0⟩ := ob h0
   refine sk (sr (s1 (lod (v := .d (eApiTable p0)) rfl (ld_box ts26 ta26 rfl rfl)) (s1 (lod (v := .d (eApiIndex p1)) rfl (ld_box ts29 ta29 rfl rfl)) (cq [] [2, 3, 4] (schema_With_ok p0 p1 _ hq62) wf rfl rfl rfl cb7 rfl rfl rfl rfl rfl rfl rfl rfl (sm rfl (s1 (ext rfl rfl) (s1 (ext rfl rfl) (s1 (alo (k := 5) zo26 rfl) (s0 (sto rfl rfl (sB (d' := .agg [.d (eS r57), .slc 3 7 0 r58.length none, .d ((eL 1 eI) r59), .slc 4 6 0 r60.length none, .d (eI r61)]) ts26 rfl rfl rfl rfl rfl rfl rfl)) ?_)))))))))
   refine sa rfl (sn (sq (sr (sm rfl (s1 (bi rfl rfl q_i64_neq) (sn (cB h0 rfl (fun h0 => ?_) (fun h0 => ?_))))))))
   ·have q := si h0; subst q
    exact sr (s1 (far (k := 1) rfl fo26_1 ts22 rfl) (s1 (lod rfl (ld_box ts22 ta22 rfl rfl)) (s1 (len rfl rfl rfl (len_slc un22)) (s1 (bi rfl rfl q_i64_eql) (sa rfl (sn (SC.ret (finR (wc (e' := [(4, .d (eB ((r58.length : Int) == (0 : Int))))]) [] [] (by kernel_rfl) rfl (by kernel_rfl)) (lresT rfl lresN) rfl))))))))
   ·obtain ⟨⟨r63, r64, r65, r66, r67, r68⟩, hq69, h0⟩ := ob h0; obtain ⟨⟨r70, r71, r72, r73, r74, r75⟩, hq76, h0⟩ := ob h0; obtain ⟨⟨r77, r78, r79, r80, r81, r82⟩, hq83, h0⟩ := ob h0
    refine sk (sr (s1 (lod (v := .agg [.d (eS r57), .slc 3 7 0 r58.length none, .d ((eL 1 eI) r59), .slc 4 6 0 r60.length none, .d (eI r61)]) rfl (ld_box ts26 ta26 rfl rfl)) (s1 (lod (v := .d (eApiIndex p1)) rfl (ld_box ts29 ta29 rfl rfl)) (cq (args' := [.agg [.d (eS r57), .slc 0 7 0 r58.length none, .d ((eL 1 eI) r59), .slc 1 6 0 r60.length none, .d (eI r61)], .d (eApiIndex p1)]) (σc := [.row 7 (List.map eApiColumn r58) true, .row 6 (List.map eApiIndex r60) true]) [3, 4] [6, 7, 8] (CallAt.frz (ArgF.frzw (y := .d (eApiTable (ApiTable.mk r57 r58 r59 r60 r61))) rfl (frzs_d rfl (frzs_slc (fF rfl rfl rfl) (frzs_d rfl (frzs_slc (fF rfl rfl rfl) (frzs_d rfl frzs_nil))))) (AW.aggd rfl (AWs.cons (AW.refl _) (AWs.cons (AW.refl _) (AWs.cons (AW.refl _) (AWs.cons (AW.refl _) (AWs.cons (AW.refl _) AWs.nil)))))) (ArgF.keep (ArgF.nil _))) (fq [] [2, 3, 4] (schema_With_ok (ApiTable.mk r57 r58 r59 r60 r61) p1 _ hq69) rfl rfl rfl rfl rfl rfl rfl rfl)) wf rfl rfl rfl cb7 rfl rfl rfl rfl rfl rfl rfl rfl (sm rfl (s1 (ext rfl rfl) (s1 (ext rfl rfl) (s1 (alo (k := 9) zo26 rfl) (s0 (sto rfl rfl (sB (d' := .agg [.d (eS r64), .slc 7 7 0 r65.length none, .d ((eL 1 eI) r66), .slc 8 6 0 r67.length none, .d (eI r68)]) ts26 rfl rfl rfl rfl rfl rfl rfl)) ?_)))))))))
    refine sa rfl (sn (sr (s1 (lod (v := .agg [.d (eS r57), .slc 3 7 0 r58.length none, .d ((eL 1 eI) r59), .slc 4 6 0 r60.length none, .d (eI r61)]) rfl (ld_box ts26 ta26 rfl rfl)) (s1 (far (k := 0) rfl fo29_0 ts9 rfl) (s1 (lod rfl (ld_box ts9 ta9 rfl rfl)) (cq (args' := [.agg [.d (eS r57), .slc 0 7 0 r58.length none, .d ((eL 1 eI) r59), .slc 1 6 0 r60.length none, .d (eI r61)], .d (eS p1.Name)]) (σc := [.row 7 (List.map eApiColumn r58) false, .row 6 (List.map eApiIndex r60) false]) [3, 4] [10, 11] (CallAt.frz (ArgF.frzw (y := .d (eApiTable (ApiTable.mk r57 r58 r59 r60 r61))) rfl (frzs_d rfl (frzs_slc (fF rfl rfl rfl) (frzs_d rfl (frzs_slc (fF rfl rfl rfl) (frzs_d rfl frzs_nil))))) (AW.aggd rfl (AWs.cons (AW.refl _) (AWs.cons (AW.refl _) (AWs.cons (AW.refl _) (AWs.cons (AW.refl _) (AWs.cons (AW.refl _) AWs.nil)))))) (ArgF.keep (ArgF.nil _))) (fq [] [2, 3] (schema_Without_ok (ApiTable.mk r57 r58 r59 r60 r61) p1.Name _ hq76) rfl rfl rfl rfl rfl rfl rfl rfl)) wf rfl rfl rfl cb8 rfl rfl rfl rfl rfl rfl rfl rfl (sm rfl (s1 (ext rfl rfl) (s1 (ext rfl rfl) ?_)))))))))
    refine s1 (alo (k := 12) zo26 rfl) (s0 (sto rfl rfl (sB (d' := .agg [.d (eS r71), .slc 11 7 0 r72.length none, .d ((eL 1 eI) r73), .d ((eL 6 eApiIndex) r74), .d (eI r75)]) ts26 rfl rfl rfl rfl rfl rfl rfl)) (sa rfl (sn (sr (s1 (lod (v := .d (eApiTable p0)) rfl (ld_box ts26 ta26 rfl rfl)) (s1 (far (k := 0) rfl fo29_0 ts9 rfl) (s1 (lod rfl (ld_box ts9 ta9 rfl rfl)) (cq [] [13, 14] (schema_Without_ok p0 p1.Name _ hq83) wf rfl rfl rfl cb8 rfl rfl rfl rfl rfl rfl rfl rfl (sm rfl ?_)))))))))
    refine s1 (ext rfl rfl) (s1 (ext rfl rfl) (s1 (alo (k := 15) zo26 rfl) (s0 (sto rfl rfl (sB (d' := .agg [.d (eS r78), .slc 14 7 0 r79.length none, .d ((eL 1 eI) r80), .d ((eL 6 eApiIndex) r81), .d (eI r82)]) ts26 rfl rfl rfl rfl rfl rfl rfl)) (sa rfl (sn (SC.seqP h0 (fun y => ⟨mk 74 [(4, .d (eB y))], []⟩) ?_ ?_))))))
    ·intro u1_93 h1
     refine SC.region (sm rfl (s1 (bi rfl rfl q_i64_eql) (sm rfl (sp h1 (fun h1 => ?_) (fun h1 => ?_)))))
     ·refine kw rfl (kw rfl (s1 (pkt rfl rfl) (sm rfl (gw rfl (mv rfl) (gw rfl (bi rfl rfl q_i64_eql) (s1 (pkt rfl rfl) (sm rfl (sp h1 (fun h1 => ?_) (fun h1 => ?_)))))))))
      ·obtain ⟨r94, hq95, h1⟩ := ob h1
       refine gw rfl (lod (v := .agg [.d (eS r71), .slc 11 7 0 r72.length none, .d ((eL 1 eI) r73), .d ((eL 6 eApiIndex) r74), .d (eI r75)]) rfl (ld_box ts26 ta26 rfl rfl)) (gw rfl (lod (v := .d (eApiTable p0)) rfl (ld_box ts26 ta26 rfl rfl)) (cq (args' := [.agg [.d (eS r71), .slc 0 7 0 r72.length none, .d ((eL 1 eI) r73), .d ((eL 6 eApiIndex) r74), .d (eI r75)], .d (eApiTable p0)]) (σc := [.row 7 (List.map eApiColumn r72) true]) [11] [] (CallAt.frz (ArgF.frzw (y := .d (eApiTable (ApiTable.mk r71 r72 r73 r74 r75))) rfl (frzs_d rfl (frzs_slc (fF rfl rfl rfl) (frzs_d rfl (frzs_d rfl (frzs_d rfl frzs_nil))))) (AW.aggd rfl (AWs.cons (AW.refl _) (AWs.cons (AW.refl _) (AWs.cons (AW.refl _) (AWs.cons (AW.refl _) (AWs.cons (AW.refl _) AWs.nil)))))) (ArgF.keep (ArgF.nil _))) (fq [] [] (ref17_Same_ok (ApiTable.mk r71 r72 r73 r74 r75) p0 _ hq95) rfl rfl rfl rfl rfl rfl rfl rfl)) (ww rfl) rfl rfl rfl cb9 rfl rfl rfl rfl rfl rfl rfl rfl (s1 (pkt rfl rfl) (sm rfl (sp h1 (fun h1 => ?_) (fun h1 => ?_))))))
       ·refine gw rfl (mv rfl) (gw rfl (bi rfl rfl q_i64_eql) (s1 (pkt rfl rfl) (sm rfl (sp h1 (fun h1 => ?_) (fun h1 => ?_)))))
        ·obtain ⟨r96, hq97, h1⟩ := ob h1; have q := si h1; subst q
         exact gw rfl (lod (v := .agg [.d (eS r57), .slc 3 7 0 r58.length none, .d ((eL 1 eI) r59), .slc 4 6 0 r60.length none, .d (eI r61)]) rfl (ld_box ts26 ta26 rfl rfl)) (cq (args' := [.agg [.d (eS r57), .slc 0 7 0 r58.length none, .d ((eL 1 eI) r59), .slc 1 6 0 r60.length none, .d (eI r61)]]) (σc := [.row 7 (List.map eApiColumn r58) false, .row 6 (List.map eApiIndex r60) false]) [3, 4] [] (CallAt.frz (ArgF.frzw (y := .d (eApiTable (ApiTable.mk r57 r58 r59 r60 r61))) rfl (frzs_d rfl (frzs_slc (fF rfl rfl rfl) (frzs_d rfl (frzs_slc (fF rfl rfl rfl) (frzs_d rfl frzs_nil))))) (AW.aggd rfl (AWs.cons (AW.refl _) (AWs.cons (AW.refl _) (AWs.cons (AW.refl _) (AWs.cons (AW.refl _) (AWs.cons (AW.refl _) AWs.nil)))))) (ArgF.nil _)) (fq [] [] (schema_Check_ok (ApiTable.mk r57 r58 r59 r60 r61) _ hq97) rfl rfl rfl rfl rfl rfl rfl rfl)) (ww rfl) rfl rfl rfl cb10 rfl rfl rfl rfl rfl rfl rfl rfl (gw rfl (bi rfl rfl q_i64_eql) (s1 (pkt rfl rfl) (sa rfl (SO.nil ((wc [] [] (by kernel_rfl) rfl (by kernel_rfl))))))))
        ·have q := si h1; subst q
         exact kw rfl (kw rfl (kw rfl (s1 (pkf rfl rfl) (sa rfl (SO.nil ((wc [] [] (by kernel_rfl) rfl (by kernel_rfl))))))))
       ·have q := si h1; subst q
        refine kw rfl (kw rfl (s1 (pkf rfl rfl) (sm rfl (kw rfl (kw rfl (kw rfl (s1 (pkf rfl rfl) (sa rfl (SO.nil ?_)))))))))
        exact (wc [] [] (by kernel_rfl) rfl (by kernel_rfl))
      ·have q := si h1; subst q
       refine kw rfl (kw rfl (kw rfl (s1 (pkf rfl rfl) (sm rfl (kw rfl (kw rfl (s1 (pkf rfl rfl) (sm rfl (kw rfl ?_)))))))))
       exact kw rfl (kw rfl (s1 (pkf rfl rfl) (sa rfl (SO.nil ((wc [] [] (by kernel_rfl) rfl (by kernel_rfl)))))))
     ·refine gw rfl (mv rfl) (gw rfl (bi rfl rfl q_i64_eql) (s1 (pkf rfl rfl) (sm rfl (sp h1 (fun h1 => ?_) (fun h1 => ?_)))))
      ·refine gw rfl (mv rfl) (gw rfl (bi rfl rfl q_i64_eql) (s1 (pkt rfl rfl) (sm rfl (sp h1 (fun h1 => ?_) (fun h1 => ?_)))))
       ·obtain ⟨r98, hq99, h1⟩ := ob h1
        refine gw rfl (lod (v := .agg [.d (eS r71), .slc 11 7 0 r72.length none, .d ((eL 1 eI) r73), .d ((eL 6 eApiIndex) r74), .d (eI r75)]) rfl (ld_box ts26 ta26 rfl rfl)) (gw rfl (lod (v := .d (eApiTable p0)) rfl (ld_box ts26 ta26 rfl rfl)) (cq (args' := [.agg [.d (eS r71), .slc 0 7 0 r72.length none, .d ((eL 1 eI) r73), .d ((eL 6 eApiIndex) r74), .d (eI r75)], .d (eApiTable p0)]) (σc := [.row 7 (List.map eApiColumn r72) true]) [11] [] (CallAt.frz (ArgF.frzw (y := .d (eApiTable (ApiTable.mk r71 r72 r73 r74 r75))) rfl (frzs_d rfl (frzs_slc (fF rfl rfl rfl) (frzs_d rfl (frzs_d rfl (frzs_d rfl frzs_nil))))) (AW.aggd rfl (AWs.cons (AW.refl _) (AWs.cons (AW.refl _) (AWs.cons (AW.refl _) (AWs.cons (AW.refl _) (AWs.cons (AW.refl _) AWs.nil)))))) (ArgF.keep (ArgF.nil _))) (fq [] [] (ref17_Same_ok (ApiTable.mk r71 r72 r73 r74 r75) p0 _ hq99) rfl rfl rfl rfl rfl rfl rfl rfl)) (ww rfl) rfl rfl rfl cb9 rfl rfl rfl rfl rfl rfl rfl rfl (s1 (pkt rfl rfl) (sm rfl (sp h1 (fun h1 => ?_) (fun h1 => ?_))))))
        ·refine gw rfl (mv rfl) (gw rfl (bi rfl rfl q_i64_eql) (s1 (pkt rfl rfl) (sm rfl (sp h1 (fun h1 => ?_) (fun h1 => ?_)))))
         ·obtain ⟨r100, hq101, h1⟩ := ob h1; have q := si h1; subst q
          exact gw rfl (lod (v := .agg [.d (eS r57), .slc 3 7 0 r58.length none, .d ((eL 1 eI) r59), .slc 4 6 0 r60.length none, .d (eI r61)]) rfl (ld_box ts26 ta26 rfl rfl)) (cq (args' := [.agg [.d (eS r57), .slc 0 7 0 r58.length none, .d ((eL 1 eI) r59), .slc 1 6 0 r60.length none, .d (eI r61)]]) (σc := [.row 7 (List.map eApiColumn r58) false, .row 6 (List.map eApiIndex r60) false]) [3, 4] [] (CallAt.frz (ArgF.frzw (y := .d (eApiTable (ApiTable.mk r57 r58 r59 r60 r61))) rfl (frzs_d rfl (frzs_slc (fF rfl rfl rfl) (frzs_d rfl (frzs_slc (fF rfl rfl rfl) (frzs_d rfl frzs_nil))))) (AW.aggd rfl (AWs.cons (AW.refl _) (AWs.cons (AW.refl _) (AWs.cons (AW.refl _) (AWs.cons (AW.refl _) (AWs.cons (AW.refl _) AWs.nil)))))) (ArgF.nil _)) (fq [] [] (schema_Check_ok (ApiTable.mk r57 r58 r59 r60 r61) _ hq101) rfl rfl rfl rfl rfl rfl rfl rfl)) (ww rfl) rfl rfl rfl cb10 rfl rfl rfl rfl rfl rfl rfl rfl (gw rfl (bi rfl rfl q_i64_eql) (s1 (pkt rfl rfl) (sa rfl (SO.nil ((wc [] [] (by kernel_rfl) rfl (by kernel_rfl))))))))
         ·have q := si h1; subst q
          exact kw rfl (kw rfl (kw rfl (s1 (pkf rfl rfl) (sa rfl (SO.nil ((wc [] [] (by kernel_rfl) rfl (by kernel_rfl))))))))
        ·have q := si h1; subst q
         refine kw rfl (kw rfl (s1 (pkf rfl rfl) (sm rfl (kw rfl (kw rfl (kw rfl (s1 (pkf rfl rfl) (sa rfl (SO.nil ?_)))))))))
         exact (wc [] [] (by kernel_rfl) rfl (by kernel_rfl))
       ·have q := si h1; subst q
        refine kw rfl (kw rfl (kw rfl (s1 (pkf rfl rfl) (sm rfl (kw rfl (kw rfl (s1 (pkf rfl rfl) (sm rfl (kw rfl ?_)))))))))
        exact kw rfl (kw rfl (s1 (pkf rfl rfl) (sa rfl (SO.nil ((wc [] [] (by kernel_rfl) rfl (by kernel_rfl)))))))
      ·have q := si h1; subst q
       refine kw rfl (kw rfl (s1 (pkf rfl rfl) (sm rfl (kw rfl (kw rfl (kw rfl (s1 (pkf rfl rfl) (sm rfl (kw rfl ?_)))))))))
       exact kw rfl (s1 (pkf rfl rfl) (sm rfl (kw rfl (kw rfl (kw rfl (s1 (pkf rfl rfl) (sa rfl (SO.nil ((wc [] [] (by kernel_rfl) rfl (by kernel_rfl)))))))))))
    ·rintro y92 h0
     have q := si h0; subst q
     exact SC.ret (finR (Wk.refl _) (lresT rfl lresN) rfl)
end Lv
