/- Part of the proof of a law: functions and their walks. -/
import Derived.Test.YtihhhgaaagefgaaDoorXFn0
namespace Lv
open Go Go.Proofs
set_option linter.unusedVariables false
set_option linter.unusedSimpArgs false
set_option linter.unusedSectionVars false
set_option maxRecDepth 100000
variable [BaseTab] [TabOk]
noncomputable def value_Column (p0 : ApiColumn) : Option Int :=
 Option.bind (value_Name p0.Name) fun r22 =>
 bif (!r22) then
 some (1 : Int)
 else
 Option.bind (α := Bool)
 (bif (decide (p0.Kind < (1 : Int))) then
 some true
 else
 some (decide (p0.Kind > (5 : Int))))
 fun y24 =>
 bif y24 then
 some (8 : Int)
 else
 Option.bind (α := Bool)
 (Option.bind (value_long p0.Kind) fun r34 =>
 bif r34 then
 bif (decide (p0.Max < (1 : Int))) then
 some true
 else
 bif (decide (p0.Max > (64 : Int))) then
 some true
 else
 Option.bind (value_long p0.Kind) fun r36 =>
 bif (!r36) then
 some (p0.Max != (0 : Int))
 else
 some false
 else
 Option.bind (value_long p0.Kind) fun r38 =>
 bif (!r38) then
 some (p0.Max != (0 : Int))
 else
 some false)
 fun y32 =>
 bif y32 then
 some (7 : Int)
 else
 Option.bind (value_Fits p0 p0.Default) fun r40 =>
 some r40
theorem value_Column_ok (p0 : ApiColumn) (r : Int) (h0 : value_Column p0 = some r) : CallAt Tryd.prog 21 [.d (eApiColumn p0)] [] (.d (eI r)) [] := by
 unfold value_Column at h0
 refine fn0 [0] Tryd.func21 rfl rfl rfl rfl rfl ?_
 obtain ⟨r22, hq23, h0⟩ := ob h0
 refine sr (s1 (bxo (k := 0) rfl rfl rfl) (sa rfl (sn (sq (SC.blk (sr (s1 (far (k := 0) rfl fo35_0 ts9 rfl) (s1 (lod rfl (ld_box ts9 ta9 rfl rfl)) (c0 (value_Name_ok p0.Name _ hq23) wf rfl rfl rfl cb18 rfl (fun _ => rfl) (fun _ => rfl) ?_)))))))))
 refine s1 (nt rfl) (sa rfl (sn (cB h0 rfl (fun h0 => ?_) (fun h0 => ?_))))
 ·have q := si h0; subst q
  exact sr (sa rfl (sn (SC.ret (finR (wc (e' := [(2, .d (eI (1 : Int)))]) [] [] (by kernel_rfl) rfl (by kernel_rfl)) (lresT rfl lresN) rfl))))
 ·refine SC.seqP h0 (fun y => ⟨mk 46 [(1, .ref 0 0 0), (8, .d (eB y))], [.box (.d (eApiColumn p0))]⟩) ?_ ?_
  ·intro u1_25 h1
   refine SC.region (s1 (far (k := 1) rfl fo35_1 ts3 rfl) (s1 (lod rfl (ld_box ts3 ta3 rfl rfl)) (s1 (bi rfl rfl q_i64_lss) (sm rfl (sp h1 (fun h1 => ?_) (fun h1 => ?_))))))
   ·have q := si h1; subst q
    exact kw rfl (kw rfl (kw rfl (s1 (pkt rfl rfl) (sa rfl (SO.nil ((wq rfl)))))))
   ·have q := si h1; subst q
    exact gw rfl (far (k := 1) rfl fo35_1 ts3 rfl) (gw rfl (lod rfl (ld_box ts3 ta3 rfl rfl)) (gw rfl (bi rfl rfl q_i64_gtr) (s1 (pkf rfl rfl) (sa rfl (SO.nil ((wq rfl)))))))
  ·rintro y24 h0
   refine cB h0 rfl (fun h0 => ?_) (fun h0 => ?_)
   ·have q := si h0; subst q
    exact sr (sa rfl (sn (SC.ret (finR (wc (e' := [(2, .d (eI (8 : Int)))]) [] [] (by kernel_rfl) rfl (by kernel_rfl)) (lresT rfl lresN) rfl))))
   ·refine SC.seqP h0 (fun y => ⟨mk 46 [(1, .ref 0 0 0), (17, .d (eB y))], [.box (.d (eApiColumn p0))]⟩) ?_ ?_
    ·intro u1_33 h1
     obtain ⟨r34, hq35, h1⟩ := ob h1
     refine SC.region (s1 (far (k := 1) rfl fo35_1 ts3 rfl) (s1 (lod rfl (ld_box ts3 ta3 rfl rfl)) (c0 (value_long_ok p0.Kind _ hq35) wf rfl rfl rfl cb37 rfl (fun _ => rfl) (fun _ => rfl) (sm rfl (sp h1 (fun h1 => ?_) (fun h1 => ?_))))))
     ·refine gw rfl (far (k := 2) rfl fo35_2 ts3 rfl) (gw rfl (lod rfl (ld_box ts3 ta3 rfl rfl)) (gw rfl (bi rfl rfl q_i64_lss) (gw rfl (mv rfl) (sp h1 (fun h1 => ?_) (fun h1 => ?_)))))
      ·have q := si h1; subst q
       refine kw rfl (kw rfl (kw rfl (gw rfl (pkt rfl rfl) (s1 (pkt rfl rfl) (sm rfl (kw rfl (kw rfl (kw rfl (kw rfl ?_)))))))))
       exact kw rfl (kw rfl (kw rfl (kw rfl (kw rfl (s1 (pkt rfl rfl) (sa rfl (SO.nil ((wq rfl)))))))))
      ·refine gw rfl (far (k := 2) rfl fo35_2 ts3 rfl) (gw rfl (lod rfl (ld_box ts3 ta3 rfl rfl)) (gw rfl (bi rfl rfl q_i64_gtr) (gw rfl (pkf rfl rfl) (s1 (pkt rfl rfl) (sm rfl (sp h1 (fun h1 => ?_) (fun h1 => ?_)))))))
       ·have q := si h1; subst q
        refine kw rfl (kw rfl (kw rfl (kw rfl (kw rfl (kw rfl (kw rfl (kw rfl (kw rfl (s1 (pkt rfl rfl) ?_)))))))))
        exact sa rfl (SO.nil ((wq rfl)))
       ·obtain ⟨r36, hq37, h1⟩ := ob h1
        refine gw rfl (far (k := 1) rfl fo35_1 ts3 rfl) (gw rfl (lod rfl (ld_box ts3 ta3 rfl rfl)) (c0 (value_long_ok p0.Kind _ hq37) (ww rfl) rfl rfl rfl cb37 rfl (fun _ => rfl) (fun _ => rfl) (gw rfl (nt rfl) (gw rfl (mv rfl) (sp h1 (fun h1 => ?_) (fun h1 => ?_))))))
        ·have q := si h1; subst q
         exact gw rfl (far (k := 2) rfl fo35_2 ts3 rfl) (gw rfl (lod rfl (ld_box ts3 ta3 rfl rfl)) (gw rfl (bi rfl rfl q_i64_neq) (gw rfl (pkt rfl rfl) (s1 (pkf rfl rfl) (sa rfl (SO.nil ((wq rfl))))))))
        ·have q := si h1; subst q
         exact kw rfl (kw rfl (kw rfl (gw rfl (pkf rfl rfl) (s1 (pkf rfl rfl) (sa rfl (SO.nil ((wq rfl))))))))
     ·obtain ⟨r38, hq39, h1⟩ := ob h1
      refine kw rfl (kw rfl (kw rfl (kw rfl (kw rfl (kw rfl (kw rfl (kw rfl (s1 (pkf rfl rfl) (sm rfl ?_)))))))))
      refine gw rfl (far (k := 1) rfl fo35_1 ts3 rfl) (gw rfl (lod rfl (ld_box ts3 ta3 rfl rfl)) (c0 (value_long_ok p0.Kind _ hq39) (ww rfl) rfl rfl rfl cb37 rfl (fun _ => rfl) (fun _ => rfl) (gw rfl (nt rfl) (gw rfl (mv rfl) (sp h1 (fun h1 => ?_) (fun h1 => ?_))))))
      ·have q := si h1; subst q
       exact gw rfl (far (k := 2) rfl fo35_2 ts3 rfl) (gw rfl (lod rfl (ld_box ts3 ta3 rfl rfl)) (gw rfl (bi rfl rfl q_i64_neq) (gw rfl (pkt rfl rfl) (s1 (pkf rfl rfl) (sa rfl (SO.nil ((wq rfl))))))))
      ·have q := si h1; subst q
       exact kw rfl (kw rfl (kw rfl (gw rfl (pkf rfl rfl) (s1 (pkf rfl rfl) (sa rfl (SO.nil ((wq rfl))))))))
    ·rintro y32 h0
     refine cB h0 rfl (fun h0 => ?_) (fun h0 => ?_)
     ·have q := si h0; subst q
      exact sr (sa rfl (sn (SC.ret (finR (wc (e' := [(2, .d (eI (7 : Int)))]) [] [] (by kernel_rfl) rfl (by kernel_rfl)) (lresT rfl lresN) rfl))))
     ·refine SC.skip ?_
      change SC _ _ _ _ _
      obtain ⟨r40, hq41, h0⟩ := ob h0; have q := si h0; subst q
      exact sr (s1 (lod (v := .d (eApiColumn p0)) rfl (ld_box ts35 ta35 rfl rfl)) (s1 (far (k := 4) rfl fo35_4 ts24 rfl) (s1 (lod (v := .d (eApiValue p0.Default)) rfl (ld_box ts24 ta24 rfl rfl)) (c0 (value_Fits_ok p0 p0.Default _ hq41) wf rfl rfl rfl cb15 rfl (fun _ => rfl) (fun _ => rfl) (sa rfl (sn (SC.ret (finR (wc (e' := [(2, .d (eI r40))]) [] [] (by kernel_rfl) rfl (by kernel_rfl)) (lresT rfl lresN) rfl))))))))
noncomputable def ref06_Column (p0 : ApiColumn) : Option Int :=
 Option.bind (ref06_Name p0.Name) fun r10 =>
 bif (!r10) then
 some (1 : Int)
 else
 Option.bind (α := Bool)
 (bif (decide (p0.Kind < (1 : Int))) then
 some true
 else
 some (decide (p0.Kind > (5 : Int))))
 fun y12 =>
 bif y12 then
 some (8 : Int)
 else
 Option.bind (α := Bool)
 (bif (decide (p0.Kind < (4 : Int))) then
 bif (p0.Max != (0 : Int)) then
 some true
 else
 bif (decide (p0.Kind > (3 : Int))) then
 bif (decide (p0.Max < (1 : Int))) then
 some true
 else
 some (decide (p0.Max > (64 : Int)))
 else
 some false
 else
 bif (decide (p0.Kind > (3 : Int))) then
 bif (decide (p0.Max < (1 : Int))) then
 some true
 else
 some (decide (p0.Max > (64 : Int)))
 else
 some false)
 fun y14 =>
 bif y14 then
 some (7 : Int)
 else
 Option.bind (ref06_Fits p0 p0.Default) fun r16 =>
 some r16
theorem ref06_Column_ok (p0 : ApiColumn) (r : Int) (h0 : ref06_Column p0 = some r) : CallAt Tryd.prog 22 [.d (eApiColumn p0)] [] (.d (eI r)) [] := by
 unfold ref06_Column at h0
 refine fn0 [0] Tryd.func22 rfl rfl rfl rfl rfl ?_
 obtain ⟨r10, hq11, h0⟩ := ob h0
 refine sr (s1 (bxo (k := 0) rfl rfl rfl) (sa rfl (sn (sq (sr (s1 (far (k := 0) rfl fo35_0 ts9 rfl) (s1 (lod rfl (ld_box ts9 ta9 rfl rfl)) (c0 (ref06_Name_ok p0.Name _ hq11) wf rfl rfl rfl cb19 rfl (fun _ => rfl) (fun _ => rfl) (s1 (nt rfl) ?_)))))))))
 refine sn (cB h0 rfl (fun h0 => ?_) (fun h0 => ?_))
 ·have q := si h0; subst q
  exact sr (sa rfl (sn (SC.ret (finR (wc (e' := [(2, .d (eI (1 : Int)))]) [] [] (by kernel_rfl) rfl (by kernel_rfl)) (lresT rfl lresN) rfl))))
 ·refine sk (sq (SC.seqP h0 (fun y => ⟨mk 42 [(1, .ref 0 0 0), (14, .d (eB y))], [.box (.d (eApiColumn p0))]⟩) ?_ ?_))
  ·intro u1_13 h1
   refine SC.region (s1 (far (k := 1) rfl fo35_1 ts3 rfl) (s1 (lod rfl (ld_box ts3 ta3 rfl rfl)) (s1 (bi rfl rfl q_i64_lss) (sm rfl (sp h1 (fun h1 => ?_) (fun h1 => ?_))))))
   ·have q := si h1; subst q
    exact kw rfl (kw rfl (kw rfl (s1 (pkt rfl rfl) (SO.nil ((wq rfl))))))
   ·have q := si h1; subst q
    exact gw rfl (far (k := 1) rfl fo35_1 ts3 rfl) (gw rfl (lod rfl (ld_box ts3 ta3 rfl rfl)) (gw rfl (bi rfl rfl q_i64_gtr) (s1 (pkf rfl rfl) (SO.nil ((wq rfl))))))
  ·rintro y12 h0
   refine cB h0 rfl (fun h0 => ?_) (fun h0 => ?_)
   ·have q := si h0; subst q
    exact sr (sa rfl (sn (SC.ret (finR (wc (e' := [(2, .d (eI (8 : Int)))]) [] [] (by kernel_rfl) rfl (by kernel_rfl)) (lresT rfl lresN) rfl))))
   ·refine sk (sq (SC.seqP h0 (fun y => ⟨mk 42 [(1, .ref 0 0 0), (37, .d (eB y))], [.box (.d (eApiColumn p0))]⟩) ?_ ?_))
    ·intro u1_15 h1
     refine SC.region (s1 (far (k := 1) rfl fo35_1 ts3 rfl) (s1 (lod rfl (ld_box ts3 ta3 rfl rfl)) (s1 (bi rfl rfl q_i64_lss) (sm rfl (sp h1 (fun h1 => ?_) (fun h1 => ?_))))))
     ·refine gw rfl (far (k := 2) rfl fo35_2 ts3 rfl) (gw rfl (lod rfl (ld_box ts3 ta3 rfl rfl)) (gw rfl (bi rfl rfl q_i64_neq) (s1 (pkt rfl rfl) (sm rfl (sp h1 (fun h1 => ?_) (fun h1 => ?_))))))
      ·have q := si h1; subst q
       refine kw rfl (kw rfl (kw rfl (kw rfl (kw rfl (kw rfl (kw rfl (kw rfl (kw rfl (kw rfl ?_)))))))))
       exact kw rfl (kw rfl (kw rfl (s1 (pkt rfl rfl) (SO.nil ((wq rfl))))))
      ·refine gw rfl (far (k := 1) rfl fo35_1 ts3 rfl) (gw rfl (lod rfl (ld_box ts3 ta3 rfl rfl)) (gw rfl (bi rfl rfl q_i64_gtr) (gw rfl (mv rfl) (sp h1 (fun h1 => ?_) (fun h1 => ?_)))))
       ·refine gw rfl (far (k := 2) rfl fo35_2 ts3 rfl) (gw rfl (lod rfl (ld_box ts3 ta3 rfl rfl)) (gw rfl (bi rfl rfl q_i64_lss) (gw rfl (mv rfl) (sp h1 (fun h1 => ?_) (fun h1 => ?_)))))
        ·have q := si h1; subst q
         exact kw rfl (kw rfl (kw rfl (gw rfl (pkt rfl rfl) (gw rfl (pkt rfl rfl) (s1 (pkf rfl rfl) (SO.nil ((wq rfl))))))))
        ·have q := si h1; subst q
         exact gw rfl (far (k := 2) rfl fo35_2 ts3 rfl) (gw rfl (lod rfl (ld_box ts3 ta3 rfl rfl)) (gw rfl (bi rfl rfl q_i64_gtr) (gw rfl (pkf rfl rfl) (gw rfl (pkt rfl rfl) (s1 (pkf rfl rfl) (SO.nil ((wq rfl))))))))
       ·have q := si h1; subst q
        refine kw rfl (kw rfl (kw rfl (kw rfl (kw rfl (kw rfl (kw rfl (kw rfl (gw rfl (pkf rfl rfl) (s1 (pkf rfl rfl) ?_)))))))))
        exact SO.nil ((wq rfl))
     ·refine kw rfl (kw rfl (kw rfl (s1 (pkf rfl rfl) (sm rfl (gw rfl (far (k := 1) rfl fo35_1 ts3 rfl) (gw rfl (lod rfl (ld_box ts3 ta3 rfl rfl)) (gw rfl (bi rfl rfl q_i64_gtr) (gw rfl (mv rfl) (sp h1 (fun h1 => ?_) (fun h1 => ?_))))))))))
      ·refine gw rfl (far (k := 2) rfl fo35_2 ts3 rfl) (gw rfl (lod rfl (ld_box ts3 ta3 rfl rfl)) (gw rfl (bi rfl rfl q_i64_lss) (gw rfl (mv rfl) (sp h1 (fun h1 => ?_) (fun h1 => ?_)))))
       ·have q := si h1; subst q
        exact kw rfl (kw rfl (kw rfl (gw rfl (pkt rfl rfl) (gw rfl (pkt rfl rfl) (s1 (pkf rfl rfl) (SO.nil ((wq rfl))))))))
       ·have q := si h1; subst q
        exact gw rfl (far (k := 2) rfl fo35_2 ts3 rfl) (gw rfl (lod rfl (ld_box ts3 ta3 rfl rfl)) (gw rfl (bi rfl rfl q_i64_gtr) (gw rfl (pkf rfl rfl) (gw rfl (pkt rfl rfl) (s1 (pkf rfl rfl) (SO.nil ((wq rfl))))))))
      ·have q := si h1; subst q
       refine kw rfl (kw rfl (kw rfl (kw rfl (kw rfl (kw rfl (kw rfl (kw rfl (gw rfl (pkf rfl rfl) (s1 (pkf rfl rfl) ?_)))))))))
       exact SO.nil ((wq rfl))
    ·rintro y14 h0
     refine cB h0 rfl (fun h0 => ?_) (fun h0 => ?_)
     ·have q := si h0; subst q
      exact sr (sa rfl (sn (SC.ret (finR (wc (e' := [(2, .d (eI (7 : Int)))]) [] [] (by kernel_rfl) rfl (by kernel_rfl)) (lresT rfl lresN) rfl))))
     ·obtain ⟨r16, hq17, h0⟩ := ob h0; have q := si h0; subst q
      exact sk (sr (s1 (lod (v := .d (eApiColumn p0)) rfl (ld_box ts35 ta35 rfl rfl)) (s1 (far (k := 4) rfl fo35_4 ts24 rfl) (s1 (lod (v := .d (eApiValue p0.Default)) rfl (ld_box ts24 ta24 rfl rfl)) (c0 (ref06_Fits_ok p0 p0.Default _ hq17) wf rfl rfl rfl cb20 rfl (fun _ => rfl) (fun _ => rfl) (sa rfl (sn (SC.ret (finR (wc (e' := [(2, .d (eI r16))]) [] [] (by kernel_rfl) rfl (by kernel_rfl)) (lresT rfl lresN) rfl)))))))))
noncomputable def law06_ValueAll (p0 : ApiValue) (p1 : ApiValue) (p2 : ApiColumn) : Option Bool :=
 Option.bind law06_awake fun r46 =>
 bif (!r46) then
 some false
 else
 Option.bind (α := Bool)
 (Option.bind (value_Valid p0) fun r70 =>
 Option.bind (ref06_Valid p0) fun r72 =>
 bif (r70 == r72) then
 Option.bind (value_Cmp_1 p0 p1) fun r74 =>
 Option.bind (ref06_Cmp p0 p1) fun r76 =>
 bif (r74 == r76) then
 Option.bind (value_Name p2.Name) fun r78 =>
 Option.bind (ref06_Name p2.Name) fun r80 =>
 bif (r78 == r80) then
 Option.bind (value_Fits p2 p0) fun r82 =>
 Option.bind (ref06_Fits p2 p0) fun r84 =>
 bif (r82 == r84) then
 Option.bind (value_Column p2) fun r86 =>
 Option.bind (ref06_Column p2) fun r88 =>
 some (r86 == r88)
 else
 some false
 else
 some false
 else
 some false
 else
 some false)
 fun y68 =>
 some y68
theorem law06_ValueAll_ok (p0 : ApiValue) (p1 : ApiValue) (p2 : ApiColumn) (r : Bool) (h0 : law06_ValueAll p0 p1 p2 = some r) : CallAt Tryd.prog 7 [.d (eApiValue p0), .d (eApiValue p1), .d (eApiColumn p2)] [] (.d (eB r)) [] := by
 unfold law06_ValueAll at h0
 refine fn0 [0, 1, 2] Tryd.func7 rfl rfl rfl rfl rfl ?_
 obtain ⟨r46, hq47, h0⟩ := ob h0
 refine sr (s1 (bxo (k := 0) rfl rfl rfl) (s1 (bxo (k := 1) rfl rfl rfl) (s1 (bxo (k := 2) rfl rfl rfl) (sa rfl (sn (sq (sr (c0 (law06_awake_ok _ hq47) wf rfl rfl rfl cb8 rfl (fun _ => rfl) (fun _ => rfl) (s1 (nt rfl) ?_)))))))))
 refine sn (cB h0 rfl (fun h0 => ?_) (fun h0 => ?_))
 ·have q := si h0; subst q
  exact sr (sa rfl (sn (SC.ret (finR (wc (e' := [(6, .d (eB false))]) [] [] (by kernel_rfl) rfl (by kernel_rfl)) (lresT rfl lresN) rfl))))
 ·refine sk (SC.seqP h0 (fun y => ⟨mk 48 [(6, .d (eB y))], []⟩) ?_ ?_)
  ·intro u1_69 h1
   obtain ⟨r70, hq71, h1⟩ := ob h1; obtain ⟨r72, hq73, h1⟩ := ob h1
   refine SC.draws (by kernel_rfl) (t1 ([0], false) (lod (v := .d (eApiValue p0)) rfl (ld_box ts24 ta24 rfl rfl)) rfl (tc0 (value_Valid_ok p0 _ hq71) wf rfl rfl rfl cb13 rfl (fun _ => rfl) (fun _ => rfl) (t1 ([0], false) (lod (v := .d (eApiValue p0)) rfl (ld_box ts24 ta24 rfl rfl)) rfl (tc0 (ref06_Valid_ok p0 _ hq73) wf rfl rfl rfl cb16 rfl (fun _ => rfl) (fun _ => rfl) (t1 ([], false) (bi (v := .d (eB (r70 == r72))) rfl rfl (fun X Y => b_bool_eql un4 X Y r70 r72)) rfl (t1 ([], false) (mv rfl) rfl (tp h1 (fun h1 => ?_) (fun h1 => ?_))))))))
   ·obtain ⟨r74, hq75, h1⟩ := ob h1; obtain ⟨r76, hq77, h1⟩ := ob h1
    refine u1 ([0], false) (ww rfl) (lod (v := .d (eApiValue p0)) rfl (ld_box ts24 ta24 rfl rfl)) rfl (u1 ([1], false) (ww rfl) (lod (v := .d (eApiValue p1)) rfl (ld_box ts24 ta24 rfl rfl)) rfl (tc0 (value_Cmp_1_ok p0 p1 _ hq75) (ww rfl) rfl rfl rfl cb14 rfl (fun _ => rfl) (fun _ => rfl) (u1 ([0], false) (ww rfl) (lod (v := .d (eApiValue p0)) rfl (ld_box ts24 ta24 rfl rfl)) rfl (u1 ([1], false) (ww rfl) (lod (v := .d (eApiValue p1)) rfl (ld_box ts24 ta24 rfl rfl)) rfl (tc0 (ref06_Cmp_ok p0 p1 _ hq77) (ww rfl) rfl rfl rfl cb17 rfl (fun _ => rfl) (fun _ => rfl) (u1 ([], false) (ww rfl) (bi rfl rfl q_i64_eql) rfl (t1 ([], false) (pkt rfl rfl) rfl (t1 ([], false) (mv rfl) rfl (tp h1 (fun h1 => ?_) (fun h1 => ?_))))))))))
    ·obtain ⟨r78, hq79, h1⟩ := ob h1; obtain ⟨r80, hq81, h1⟩ := ob h1
     refine u1 ([], false) (ww rfl) (far (k := 0) rfl fo35_0 ts9 rfl) rfl (u1 ([2], false) (ww rfl) (lod rfl (ld_box ts9 ta9 rfl rfl)) rfl (tc0 (value_Name_ok p2.Name _ hq79) (ww rfl) rfl rfl rfl cb18 rfl (fun _ => rfl) (fun _ => rfl) (u1 ([], false) (ww rfl) (far (k := 0) rfl fo35_0 ts9 rfl) rfl (u1 ([2], false) (ww rfl) (lod rfl (ld_box ts9 ta9 rfl rfl)) rfl (tc0 (ref06_Name_ok p2.Name _ hq81) (ww rfl) rfl rfl rfl cb19 rfl (fun _ => rfl) (fun _ => rfl) (u1 ([], false) (ww rfl) (bi (v := .d (eB (r78 == r80))) rfl rfl (fun X Y => b_bool_eql un4 X Y r78 r80)) rfl (t1 ([], false) (pkt rfl rfl) rfl (t1 ([], false) (mv rfl) rfl (tp h1 (fun h1 => ?_) (fun h1 => ?_))))))))))
     ·obtain ⟨r82, hq83, h1⟩ := ob h1; obtain ⟨r84, hq85, h1⟩ := ob h1
      refine u1 ([2], false) (ww rfl) (lod (v := .d (eApiColumn p2)) rfl (ld_box ts35 ta35 rfl rfl)) rfl (u1 ([0], false) (ww rfl) (lod (v := .d (eApiValue p0)) rfl (ld_box ts24 ta24 rfl rfl)) rfl (tc0 (value_Fits_ok p2 p0 _ hq83) (ww rfl) rfl rfl rfl cb15 rfl (fun _ => rfl) (fun _ => rfl) (u1 ([2], false) (ww rfl) (lod (v := .d (eApiColumn p2)) rfl (ld_box ts35 ta35 rfl rfl)) rfl (u1 ([0], false) (ww rfl) (lod (v := .d (eApiValue p0)) rfl (ld_box ts24 ta24 rfl rfl)) rfl (tc0 (ref06_Fits_ok p2 p0 _ hq85) (ww rfl) rfl rfl rfl cb20 rfl (fun _ => rfl) (fun _ => rfl) (u1 ([], false) (ww rfl) (bi rfl rfl q_i64_eql) rfl (t1 ([], false) (pkt rfl rfl) rfl (t1 ([], false) (mv rfl) rfl (tp h1 (fun h1 => ?_) (fun h1 => ?_))))))))))
      ·obtain ⟨r86, hq87, h1⟩ := ob h1; obtain ⟨r88, hq89, h1⟩ := ob h1; have q := si h1; subst q
       refine u1 ([2], false) (ww rfl) (lod (v := .d (eApiColumn p2)) rfl (ld_box ts35 ta35 rfl rfl)) rfl (tc0 (value_Column_ok p2 _ hq87) (ww rfl) rfl rfl rfl cb21 rfl (fun _ => rfl) (fun _ => rfl) (u1 ([2], false) (ww rfl) (lod (v := .d (eApiColumn p2)) rfl (ld_box ts35 ta35 rfl rfl)) rfl (tc0 (ref06_Column_ok p2 _ hq89) (ww rfl) rfl rfl rfl cb22 rfl (fun _ => rfl) (fun _ => rfl) (u1 ([], false) (ww rfl) (bi rfl rfl q_i64_eql) rfl (t1 ([], false) (pkt rfl rfl) rfl (t1 ([], false) (asg rfl) rfl (ST.nil (And.intro (by decide +kernel) ?_))))))))
       exact (wc [] [] (by kernel_rfl) rfl (by kernel_rfl))
      ·have q := si h1; subst q
       refine jw rfl (jw rfl (jw rfl (jw rfl (jw rfl (t1 ([], false) (pkf rfl rfl) rfl (t1 ([], false) (asg rfl) rfl (ST.nil (And.intro (by decide +kernel) ?_))))))))
       exact (wc [] [] (by kernel_rfl) rfl (by kernel_rfl))
     ·have q := si h1; subst q
      refine jw rfl (jw rfl (jw rfl (jw rfl (jw rfl (jw rfl (jw rfl (t1 ([], false) (pkf rfl rfl) rfl (t1 ([], false) (mv rfl) rfl (jw rfl ?_)))))))))
      refine jw rfl (jw rfl (jw rfl (jw rfl (t1 ([], false) (pkf rfl rfl) rfl (t1 ([], false) (asg rfl) rfl (ST.nil (And.intro (by decide +kernel) ?_)))))))
      exact (wc [] [] (by kernel_rfl) rfl (by kernel_rfl))
    ·have q := si h1; subst q
     refine jw rfl (jw rfl (jw rfl (jw rfl (jw rfl (jw rfl (jw rfl (t1 ([], false) (pkf rfl rfl) rfl (t1 ([], false) (mv rfl) rfl (jw rfl ?_)))))))))
     refine jw rfl (jw rfl (jw rfl (jw rfl (jw rfl (jw rfl (t1 ([], false) (pkf rfl rfl) rfl (t1 ([], false) (mv rfl) rfl (jw rfl (jw rfl ?_)))))))))
     refine jw rfl (jw rfl (jw rfl (t1 ([], false) (pkf rfl rfl) rfl (t1 ([], false) (asg rfl) rfl (ST.nil (And.intro (by decide +kernel) ?_))))))
     exact (wc [] [] (by kernel_rfl) rfl (by kernel_rfl))
   ·have q := si h1; subst q
    refine jw rfl (jw rfl (jw rfl (jw rfl (jw rfl (jw rfl (jw rfl (t1 ([], false) (pkf rfl rfl) rfl (t1 ([], false) (mv rfl) rfl (jw rfl ?_)))))))))
    refine jw rfl (jw rfl (jw rfl (jw rfl (jw rfl (jw rfl (t1 ([], false) (pkf rfl rfl) rfl (t1 ([], false) (mv rfl) rfl (jw rfl (jw rfl ?_)))))))))
    refine jw rfl (jw rfl (jw rfl (jw rfl (jw rfl (t1 ([], false) (pkf rfl rfl) rfl (t1 ([], false) (mv rfl) rfl (jw rfl (jw rfl (jw rfl ?_)))))))))
    refine jw rfl (jw rfl (t1 ([], false) (pkf rfl rfl) rfl (t1 ([], false) (asg rfl) rfl (ST.nil (And.intro (by decide +kernel) ?_)))))
    exact (wc [] [] (by kernel_rfl) rfl (by kernel_rfl))
  ·rintro y68 h0
   have q := si h0; subst q
   exact SC.ret (finR (Wk.refl _) (lresT rfl lresN) rfl)
end Lv
