/- Part of the proof of a law: functions and their walks. -/
import Derived.Test.YtiipocnfifahpaaGreatDoorXFn1
namespace Lv
open Go Go.Proofs
set_option linter.unusedVariables false
set_option linter.unusedSimpArgs false
set_option linter.unusedSectionVars false
set_option maxRecDepth 100000
variable [BaseTab] [TabOk]
noncomputable def ref07_part_1 (p0 : ApiValue) (p1 : Bool) : Option ((List UInt8)) :=
 Option.bind (α := (List UInt8))
 (bif (p0.Kind == (0 : Int)) then
 Option.bind (ref01_Out_Num (0 : UInt64) (1 : Int)) fun r553 =>
 some r553
 else
 Option.bind (ref01_Out_Num (1 : UInt64) (1 : Int)) fun r555 =>
 some r555)
 fun y550 =>
 Option.bind (α := (List UInt8))
 (bif (p0.Kind == (1 : Int)) then
 Option.bind (ref01_Out_Num_1 (p0.N ^^^ (9223372036854775808 : UInt64)) (8 : Int) y550) fun r669 =>
 some r669
 else
 bif (p0.Kind == (2 : Int)) then
 Option.bind (ref01_Out_Num_1 p0.N (8 : Int) y550) fun r671 =>
 some r671
 else
 bif (p0.Kind == (3 : Int)) then
 Option.bind (ref01_Out_Num_1 p0.N (1 : Int) y550) fun r673 =>
 some r673
 else
 Option.bind (α := Bool)
 (bif (p0.Kind == (4 : Int)) then
 some (p0.Kind == (4 : Int))
 else
 some (p0.Kind == (5 : Int)))
 fun y674 =>
 bif y674 then
 Option.bind (α := (List UInt8))
 (Option.bind (α := (List UInt8))
 (loop (Y := Int × (List UInt8)) (W := (List UInt8)) (fun (y741, y742) =>
 bif (decide (y741 < (p0.S.length : Int))) then
 Option.bind (α := (List UInt8))
 (Option.bind (getI p0.S y741) fun v769 =>
 Option.bind (ref01_Out_Num_1 (v769.toUInt64) (1 : Int) y742) fun r771 =>
 Option.bind (getI p0.S y741) fun v772 =>
 bif (v772 == (0 : UInt8)) then
 Option.bind (ref01_Out_Num_1 (255 : UInt64) (1 : Int) r771) fun r774 =>
 some r774
 else
 some r771)
 fun y767 =>
 some (Sum.inl ((w64 (y741 + (1 : Int))), y767))
 else
 some (Sum.inr y742)) ((0 : Int), y550))
 (fun e => some e))
 fun y725 =>
 Option.bind (ref01_Out_Num_1 (0 : UInt64) (2 : Int) y725) fun r777 =>
 some r777
 else
 some y550)
 fun y666 =>
 Option.bind (α := (List UInt8))
 (Option.bind (α := (List UInt8))
 (loop (Y := Int × (List UInt8)) (W := (List UInt8)) (fun (y803, y804) =>
 Option.bind (α := Bool)
 (bif (decide (y803 < (y804.length : Int))) then
 some p1
 else
 some false)
 fun y813 =>
 bif y813 then
 Option.bind (getI y804 y803) fun v815 =>
 Option.bind (getI y804 y803) fun v816 =>
 some (Sum.inl ((w64 (y803 + (1 : Int))), (List.set y804 y803.toNat ((255 : UInt8) - v815))))
 else
 some (Sum.inr y804)) ((0 : Int), y666))
 (fun e => some e))
 fun y797 =>
 some y797
theorem ref07_part_1_ok (p0 : ApiValue) (p1 : Bool) (r : (List UInt8)) (h0 : ref07_part_1 p0 p1 = some r) : CallAt Tryz.prog 76 [.d (eApiValue p0), .d (eB p1)] [] (.d ((eL 1 eU8) r)) [] := by
 unfold ref07_part_1 at h0
 refine fn0 [0, 1] Tryz.func76 rfl rfl rfl rfl rfl ?_
 refine sr (s1 (bxo (k := 0) rfl rfl rfl) (s1 (asg (v := .d .nils) rfl) (sn (sr (s1 (bld rfl (bd137_ )) (s1 (bxo (k := 1) rfl rfl rfl) (sa rfl (sn (SC.seqP h0 (fun y => ⟨mk 94 [(1, .d (eB p1)), (2, .ref 0 0 0), (5, .ref 1 0 0)], [.box (.d (eApiValue p0)), .box (.agg [.slc 2 1 0 y.length none]), .row 1 (List.map eU8 y) true]⟩) ?_ ?_)))))))))
 ·intro u1_551 h1
  refine sr (s1 (far (k := 0) rfl fo41_0 ts3 rfl) (s1 (lod rfl (ld_box ts3 ta3 rfl rfl)) (s1 (bi rfl rfl q_i64_eql) (sn (cB h1 rfl (fun h1 => ?_) (fun h1 => ?_))))))
  ·obtain ⟨r553, hq552, h1⟩ := ob h1; have q := si h1; subst q
   exact SC.region (sm rfl (cq [1] [2] (ref01_Out_Num_ok (0 : UInt64) (1 : Int) _ hq552) wf rfl rfl rfl cb91 rfl rfl rfl rfl rfl rfl rfl rfl (SO.nil ((wq rfl)))))
  ·obtain ⟨r555, hq554, h1⟩ := ob h1; have q := si h1; subst q
   exact SC.region (sm rfl (cq [1] [2] (ref01_Out_Num_ok (1 : UInt64) (1 : Int) _ hq554) wf rfl rfl rfl cb91 rfl rfl rfl rfl rfl rfl rfl rfl (SO.nil ((wq rfl)))))
 ·rintro y550 h0
  refine SC.seqP h0 (fun y => ⟨mk 94 [(1, .d (eB p1)), (5, .ref 0 0 0)], [.box (.agg [.slc 1 1 0 y.length none]), .row 1 (List.map eU8 y) true]⟩) ?_ ?_
  ·intro u1_667 h1
   refine sr (s1 (far (k := 0) rfl fo41_0 ts3 rfl) (s1 (lod rfl (ld_box ts3 ta3 rfl rfl)) (sn (SC.blk (sr (s1 (bi rfl rfl q_i64_eql) (sa rfl (sn (cB h1 rfl (fun h1 => ?_) (fun h1 => ?_))))))))))
   ·obtain ⟨r669, hq668, h1⟩ := ob h1; have q := si h1; subst q
    exact SC.region (sm rfl (s1 (far (k := 1) rfl fo41_1 ts39 rfl) (s1 (lod rfl (ld_box ts39 ta39 rfl rfl)) (s1 (bi rfl rfl (q_u64_xor (b := (9223372036854775808 : UInt64)))) (cq [1, 2] [3] (ref01_Out_Num_1_ok (p0.N ^^^ (9223372036854775808 : UInt64)) (8 : Int) y550 _ hq668) wf rfl rfl rfl cb91 rfl rfl rfl rfl rfl rfl rfl rfl (SO.nil ((wc [1, 3] [1] (by kernel_rfl) rfl (by kernel_rfl)))))))))
   ·refine sr (s1 (bi rfl rfl q_i64_eql) (sa rfl (sn (cB h1 rfl (fun h1 => ?_) (fun h1 => ?_)))))
    ·obtain ⟨r671, hq670, h1⟩ := ob h1; have q := si h1; subst q
     exact SC.region (sm rfl (s1 (far (k := 1) rfl fo41_1 ts39 rfl) (s1 (lod rfl (ld_box ts39 ta39 rfl rfl)) (cq [1, 2] [3] (ref01_Out_Num_1_ok p0.N (8 : Int) y550 _ hq670) wf rfl rfl rfl cb91 rfl rfl rfl rfl rfl rfl rfl rfl (SO.nil ((wc [1, 3] [1] (by kernel_rfl) rfl (by kernel_rfl))))))))
    ·refine sr (s1 (bi rfl rfl q_i64_eql) (sa rfl (sn (cB h1 rfl (fun h1 => ?_) (fun h1 => ?_)))))
     ·obtain ⟨r673, hq672, h1⟩ := ob h1; have q := si h1; subst q
      exact SC.region (sm rfl (s1 (far (k := 1) rfl fo41_1 ts39 rfl) (s1 (lod rfl (ld_box ts39 ta39 rfl rfl)) (cq [1, 2] [3] (ref01_Out_Num_1_ok p0.N (1 : Int) y550 _ hq672) wf rfl rfl rfl cb91 rfl rfl rfl rfl rfl rfl rfl rfl (SO.nil ((wc [1, 3] [1] (by kernel_rfl) rfl (by kernel_rfl))))))))
     ·refine SC.seqP h1 (fun y => ⟨mk 94 [(1, .d (eB p1)), (2, .ref 0 0 0), (5, .ref 1 0 0), (38, .d (eB y))], [.box (.d (eApiValue p0)), .box (.agg [.slc 2 1 0 y550.length none]), .row 1 (List.map eU8 y550) true]⟩) ?_ ?_
      ·intro u2_675 h2
       refine sr (s1 (bi rfl rfl q_i64_eql) (sa rfl (sn (cB h2 rfl (fun h2 => ?_) (fun h2 => ?_)))))
       ·have q := si h2; subst q
        exact SC.skip ((wq rfl))
       ·have q := si h2; subst q
        exact SC.region (s1 (bi rfl rfl q_i64_eql) (sa rfl (SO.nil ((wq rfl)))))
      ·rintro y674 h1
       refine cB h1 rfl (fun h1 => ?_) (fun h1 => ?_)
       ·refine SC.seqP h1 (fun y => ⟨mk 94 [(1, .d (eB p1)), (5, .ref 0 0 0)], [.box (.agg [.slc 1 1 0 y.length none]), .row 1 (List.map eU8 y) true]⟩) ?_ ?_
        ·intro u2_726 h2
         obtain ⟨u3_760, h3, h2⟩ := ob h2
         refine sr (sa rfl (sn (SC.blk (SC.loopB h3 (fun y => ⟨mk 94 [(1, .d (eB p1)), (2, .ref 0 0 0), (5, .ref 1 0 0), (6, .d (eI y.1))], [.box (.d (eApiValue p0)), .box (.agg [.slc 2 1 0 y.2.length none]), .row 1 (List.map eU8 y.2) true]⟩) (wq rfl) ?_))))
         intro n775
         rintro ⟨y741, y742⟩ w3_759 h4 hv4
         refine sq (sr (sm rfl (s1 (far (k := 2) rfl fo41_2 ts9 rfl) (s1 (lod rfl (ld_box ts9 ta9 rfl rfl)) (s1 (len rfl rfl rfl (len_str un9)) (s1 (bi rfl rfl q_i64_lss) (sn (cB h4 rfl (fun h4 => ?_) (fun h4 => ?_)))))))))
         ·refine sk (SC.seqP h4 (fun y => ⟨mk 94 [(1, .d (eB p1)), (2, .ref 0 0 0), (5, .ref 1 0 0), (6, .d (eI y741))], [.box (.d (eApiValue p0)), .box (.agg [.slc 2 1 0 y.length none]), .row 1 (List.map eU8 y) true]⟩) ?_ ?_)
          ·intro u5_768 h5
           obtain ⟨v769, hv769, h5⟩ := ob h5; obtain ⟨r771, hq770, h5⟩ := ob h5; obtain ⟨v772, hv772, h5⟩ := ob h5
           refine SC.blk (sr (sm rfl (s1 (far (k := 2) rfl fo41_2 ts9 rfl) (s1 (lod rfl (ld_box ts9 ta9 rfl rfl)) (sm rfl (s1 (ixs rfl rfl rfl rfl (ix_str un9 (getI_some hv769).1 (getI_some hv769).2)) (s1 (cvo rfl (cv_u8_u64 un5 un39 v769)) (cq [1, 2] [3] (ref01_Out_Num_1_ok (v769.toUInt64) (1 : Int) y742 _ hq770) wf rfl rfl rfl cb91 rfl rfl rfl rfl rfl rfl rfl rfl (sn ?_)))))))))
           refine sr (s1 (far (k := 2) rfl fo41_2 ts9 rfl) (s1 (lod rfl (ld_box ts9 ta9 rfl rfl)) (sm rfl (s1 (ixs rfl rfl rfl rfl (ix_str un9 (getI_some hv772).1 (getI_some hv772).2)) (s1 (bi rfl rfl (q_u8_eql (b := (0 : UInt8)))) (sn (cB h5 rfl (fun h5 => ?_) (fun h5 => ?_))))))))
           ·obtain ⟨r774, hq773, h5⟩ := ob h5; have q := si h5; subst q
            exact SC.region (sm rfl (cq [1, 3] [4] (ref01_Out_Num_1_ok (255 : UInt64) (1 : Int) r771 _ hq773) wf rfl rfl rfl cb91 rfl rfl rfl rfl rfl rfl rfl rfl (SO.nil ((wc [0, 1, 4] [0, 1] (by kernel_rfl) rfl (by kernel_rfl))))))
           ·have q := si h5; subst q
            exact SC.skip ((wc [0, 1, 3] [0, 1] (by kernel_rfl) rfl (by kernel_rfl)))
          ·rintro y767 h4
           have q := si h4; subst q
           exact SC.region (sm rfl (s1 (bi rfl rfl q_i64_add) (sa rfl (SO.nil (lf (wq rfl))))))
         ·have q := si h4; subst q; have q : _ = _ := hv4; subst q; have q := si h2; subst q
          exact SC.exit ((wc [1, 2] [1] (by kernel_rfl) rfl (by kernel_rfl)))
        ·rintro y725 h1
         obtain ⟨r777, hq776, h1⟩ := ob h1; have q := si h1; subst q
         exact SC.region (sm rfl (cq [0, 1] [2] (ref01_Out_Num_1_ok (0 : UInt64) (2 : Int) y725 _ hq776) wf rfl rfl rfl cb91 rfl rfl rfl rfl rfl rfl rfl rfl (SO.nil ((wc [0, 2] [0] (by kernel_rfl) rfl (by kernel_rfl))))))
       ·have q := si h1; subst q
        exact SC.skip ((wc [1, 2] [1] (by kernel_rfl) rfl (by kernel_rfl)))
  ·rintro y666 h0
   refine SC.seqP h0 (fun y => ⟨mk 94 [(5, .ref 0 0 0)], [.box (.agg [.slc 1 1 0 y.length none]), .row 1 (List.map eU8 y) true]⟩) ?_ ?_
   ·intro u1_798 h1
    obtain ⟨u2_812, h2, h1⟩ := ob h1
    refine sr (sa rfl (sn (SC.blk (SC.loopB h2 (fun y => ⟨mk 94 [(1, .d (eB p1)), (5, .ref 0 0 0), (7, .d (eI y.1))], [.box (.agg [.slc 1 1 0 y.2.length none]), .row 1 (List.map eU8 y.2) true]⟩) (wq rfl) ?_))))
    intro n817
    rintro ⟨y803, y804⟩ w2_811 h3 hv3
    refine sq (SC.seqP h3 (fun y => ⟨mk 94 [(1, .d (eB p1)), (5, .ref 0 0 0), (7, .d (eI y803)), (73, .d (eB y))], [.box (.agg [.slc 1 1 0 y804.length none]), .row 1 (List.map eU8 y804) true]⟩) ?_ ?_)
    ·intro u4_814 h4
     refine SC.region (sm rfl (sm rfl (s1 (nkr rfl) (s1 (far (k := 0) rfl fo137_0 ts95 rfl) (s1 (lod rfl (ld_box ts95 ta95 rfl rfl)) (s1 (len rfl rfl rfl (len_slc un95)) (s1 (bi rfl rfl q_i64_lss) (sm rfl (sp h4 (fun h4 => ?_) (fun h4 => ?_))))))))))
     ·have q := si h4; subst q
      exact gw rfl (mv rfl) (s1 (pkt rfl rfl) (SO.nil ((wq rfl))))
     ·have q := si h4; subst q
      exact kw rfl (s1 (pkf rfl rfl) (SO.nil ((wq rfl))))
    ·rintro y813 h3
     refine cB h3 rfl (fun h3 => ?_) (fun h3 => ?_)
     ·obtain ⟨v815, hv815, h3⟩ := ob h3; obtain ⟨v816, hv816, h3⟩ := ob h3
      refine sk (sq (SC.blk (SC.draws (by kernel_rfl) (t1 ([], false) (mv rfl) rfl (t1 ([], false) (nkr rfl) rfl (t1 ([], false) (far (k := 0) rfl fo137_0 ts95 rfl) rfl (t1 ([0], false) (lod rfl (ld_box ts95 ta95 rfl rfl)) rfl (t1 ([], false) (mv rfl) rfl (t1 ([], false) (mv rfl) rfl ?_)))))))))
      refine t1 ([], false) (nkr rfl) rfl (t1 ([], false) (far (k := 0) rfl fo137_0 ts95 rfl) rfl (t1 ([0], false) (lod rfl (ld_box ts95 ta95 rfl rfl)) rfl (t1 ([], false) (mv rfl) rfl (t1 ([], false) (iaz rfl rfl un95 ts5 (getI_lt hv815)) rfl (t1 ([1], false) (lod rfl (ld_row ts5 ta5 rfl (map_get (getI_some hv815).2) rfl)) rfl (t1 ([], false) (bi rfl rfl (q_u8_sub (a := (255 : UInt8)))) rfl (t1 ([], false) (iaz rfl rfl un95 ts5 (getI_lt hv816)) rfl (t0 ([1], true) (sto (b := .d (eU8 ((255 : UInt8) - v815))) rfl rfl (sR (f := eU8) (v := ((255 : UInt8) - v815)) ts5 rfl rfl rfl rfl (getI_some hv816).2 rfl rfl)) rfl (ST.nil (And.intro (by decide +kernel) ?_))))))))))
      change SC _ _ _ _ _
      have q := si h3; subst q
      exact SC.region (sm rfl (s1 (bi rfl rfl q_i64_add) (sa rfl (SO.nil (lf (Wk.trans (wq (e' := [(1, .d (eB p1)), (5, .ref 0 0 0), (7, .d (eI (w64 (y803 + (1 : Int)))))]) rfl) (Wk.boxE (id := 0) (y := .agg [.slc 1 1 0 ((List.set y804 y803.toNat ((255 : UInt8) - v815)).length) none]) (σ' := [.box (.agg [.slc 1 1 0 ((List.set y804 y803.toNat ((255 : UInt8) - v815)).length) none]), .row 1 (List.map eU8 (List.set y804 y803.toNat ((255 : UInt8) - v815))) true]) rfl (AWs.cons (AW.slc rfl (by simp)) AWs.nil) rfl)))))))
     ·have q := si h3; subst q; have q : _ = _ := hv3; subst q; have q := si h1; subst q
      exact SC.exit ((wq rfl))
   ·rintro y797 h0
    have q := si h0; subst q
    exact sr (sm rfl (s1 (nkr rfl) (s1 (far (k := 0) rfl fo137_0 ts95 rfl) (s1 (lod rfl (ld_box ts95 ta95 rfl rfl)) (sa rfl (sn (SC.ret (finR (Wk.trans (Wk.frz (i := 4) (x := .slc 1 1 0 y797.length none) rfl rfl (fF rfl rfl rfl)) (wc (e' := [(4, .d ((eL 1 eU8) y797))]) [] [] (by kernel_rfl) rfl (by kernel_rfl))) (lresT rfl lresN) rfl))))))))
noncomputable def ref07_Key_1 (p0 : List ApiValue) (p1 : List Bool) : Option ((List UInt8)) :=
 Option.bind (α := (List UInt8))
 (Option.bind (α := (List UInt8))
 (loop (Y := (List UInt8) × Int) (W := (List UInt8)) (fun (y123, y124) =>
 bif (decide (y124 < (p0.length : Int))) then
 Option.bind (getI p0 y124) fun v134 =>
 Option.bind (getI p1 y124) fun v135 =>
 Option.bind (ref07_part_1 v134 v135) fun r137 =>
 bif decide ((y123.length + r137.length) * 1 ≤ room) then
 some (Sum.inl ((y123 ++ r137), (w64 (y124 + (1 : Int)))))
 else none
 else
 some (Sum.inr y123)) (([] : List UInt8), (0 : Int)))
 (fun e => some e))
 fun y116 =>
 some y116
theorem ref07_Key_1_ok (p0 : List ApiValue) (p1 : List Bool) (r : (List UInt8)) (h0 : ref07_Key_1 p0 p1 = some r) : CallAt Tryz.prog 56 [.d ((eL 3 eApiValue) p0), .d ((eL 1 eB) p1)] [] (.d (eS r)) [] := by
 unfold ref07_Key_1 at h0
 refine fn0 [0, 1] Tryz.func56 rfl rfl rfl rfl rfl ?_
 refine sr (s1 (asg (v := .d (eS ([] : List UInt8))) rfl) (sn (sr (s1 (asg (v := .d .nils) rfl) (sn (SC.seqP h0 (fun y => ⟨mk 26 [(5, .slc 0 1 0 y.length none)], [.row 1 (List.map eU8 y) true]⟩) ?_ ?_))))))
 ·intro u1_117 h1
  obtain ⟨u2_133, h2, h1⟩ := ob h1
  refine sr (sa rfl (sn (SC.blk (SC.loopB h2 (fun y => ⟨mk 26 [(0, .d ((eL 3 eApiValue) p0)), (1, .d ((eL 1 eB) p1)), (5, .slc 0 1 0 y.1.length none), (6, .d (eI y.2))], [.row 1 (List.map eU8 y.1) true]⟩) (Wk.trans (Wk.pushE (σ' := [.row 1 (List.map eU8 ([] : List UInt8)) true]) (.row 1 [] true) (fun _ hh => by cases hh) rfl) (Wk.trans (Wk.env (e' := [(0, .d ((eL 3 eApiValue) p0)), (1, .d ((eL 1 eB) p1)), (5, .slc 0 1 0 (([] : List UInt8).length) none), (6, .d (eI (0 : Int)))]) (EW.cons (AW.refl _) (EW.cons (AW.refl _) (EW.cons (AW.slcn _ _ _) (EW.cons (AW.refl _) EW.nil))))) (wq rfl))) ?_))))
  intro n139
  rintro ⟨y123, y124⟩ w2_132 h3 hv3
  refine sq (sr (sm rfl (sm rfl (s1 (len rfl rfl rfl (len_lst un24)) (s1 (bi rfl rfl q_i64_lss) (sn (cB h3 rfl (fun h3 => ?_) (fun h3 => ?_))))))))
  ·obtain ⟨v134, hv134, h3⟩ := ob h3; obtain ⟨v135, hv135, h3⟩ := ob h3; obtain ⟨r137, hq136, h3⟩ := ob h3; obtain ⟨hg138, h3⟩ := gd h3
   refine sk (sq (SC.blk (SC.draws (by kernel_rfl) (t1 ([], false) (mv rfl) rfl (t1 ([], false) (mv rfl) rfl (t1 ([], false) (mv rfl) rfl (t1 ([], false) (ial rfl rfl un24 ts41 (getI_some hv134).1 (map_get (getI_some hv134).2) rfl) rfl (t1 ([], false) (lod (v := .d (eApiValue v134)) rfl (ld_rop ts41 ta41 rfl)) rfl (t1 ([], false) (mv rfl) rfl ?_)))))))))
   refine t1 ([], false) (mv rfl) rfl (t1 ([], false) (ial rfl rfl un63 ts4 (getI_some hv135).1 (map_get (getI_some hv135).2) rfl) rfl (t1 ([], false) (lod rfl (ld_rop ts4 ta4 rfl)) rfl (tc0 (ref07_part_1_ok v134 v135 _ hq136) wf rfl rfl rfl cb76 rfl (fun _ => rfl) (fun _ => rfl) (t1 ([0, 1], true) (app rfl rfl rfl rfl bc95 (aF (f := eU8) (xs := y123) (k := 1) rfl un95 ei5 rfl el_lst hg138 rfl)) rfl (t1 ([], false) (asg rfl) rfl (ST.nil (And.intro (by decide +kernel) ?_)))))))
   change SC _ _ _ _ _
   have q := si h3; subst q
   exact SC.region (sm rfl (s1 (bi rfl rfl q_i64_add) (sa rfl (SO.nil (lf (wc [1] [1] (by kernel_rfl) rfl (by kernel_rfl)))))))
  ·have q := si h3; subst q; have q : _ = _ := hv3; subst q; have q := si h1; subst q
   exact SC.exit ((wq rfl))
 ·rintro y116 h0
  have q := si h0; subst q
  exact sr (sm rfl (s1 (cvo (v := .d (eS y116)) rfl (cv_bytes_str un95 un9 un5 (el_full (xs := y116) rfl) (fun _ hh => by cases hh))) (sa rfl (sn (SC.ret (finR (wc (e' := [(4, .d (eS y116))]) [] [] (by kernel_rfl) rfl (by kernel_rfl)) (lresT rfl lresN) rfl))))))
noncomputable def ref17_keyed (p0 : List ApiPart) (p1 : List ApiValue) : Option ((List UInt8) × Bool) :=
 Option.bind (α := (List ApiValue) × (List Bool) × Bool)
 (Option.bind (α := (List ApiValue) × (List Bool) × Bool)
 (loop (Y := (List ApiValue) × (List Bool) × Bool × Int) (W := (List ApiValue) × (List Bool) × Bool) (fun (y154, y155, y156, y157) =>
 bif (decide (y157 < (p0.length : Int))) then
 Option.bind (getI p0 y157) fun v169 =>
 Option.bind (getI p1 v169.Col) fun v170 =>
 bif decide ((y154.length + [v170].length) * 32 ≤ room) then
 Option.bind (getI p0 y157) fun v172 =>
 bif decide ((y155.length + [v172.Down].length) * 1 ≤ room) then
 bif y156 then
 some (Sum.inl ((y154 ++ [v170]), (y155 ++ [v172.Down]), true, (w64 (y157 + (1 : Int)))))
 else
 some (Sum.inl ((y154 ++ [v170]), (y155 ++ [v172.Down]), (v170.Kind == (0 : Int)), (w64 (y157 + (1 : Int)))))
 else none
 else none
 else
 some (Sum.inr (y154, y155, y156))) (([] : List ApiValue), ([] : List Bool), false, (0 : Int)))
 (fun e => some e))
 fun (y145, y146, y147) =>
 Option.bind (ref07_Key_1 y145 y146) fun r176 =>
 some (r176, y147)
theorem ref17_keyed_ok (p0 : List ApiPart) (p1 : List ApiValue) (r : (List UInt8) × Bool) (h0 : ref17_keyed p0 p1 = some r) : CallAt Tryz.prog 46 [.d ((eL 2 eApiPart) p0), .d ((eL 3 eApiValue) p1)] [] (.tuple [.d (eS r.1), .d (eB r.2)]) [] := by
 unfold ref17_keyed at h0
 refine fn0 [0, 1] Tryz.func46 rfl rfl rfl rfl rfl ?_
 refine sr (s1 (asg (v := .d (eS ([] : List UInt8))) rfl) (sa rfl (sn (sr (s1 (asg (v := .d .nils) rfl) (sn (sr (s1 (asg (v := .d .nils) rfl) (sn ?_)))))))))
 refine sr (sa rfl (sn (SC.seqP h0 (fun y => ⟨mk 47 [(6, .slc 0 3 0 y.1.length none), (7, .slc 1 1 0 y.2.1.length none), (8, .d (eB y.2.2))], [.row 3 (List.map eApiValue y.1) true, .row 1 (List.map eB y.2.1) true]⟩) ?_ ?_)))
 ·intro u1_148 h1
  obtain ⟨u2_168, h2, h1⟩ := ob h1
  refine sr (sa rfl (sn (SC.blk (SC.loopB h2 (fun y => ⟨mk 47 [(0, .d ((eL 2 eApiPart) p0)), (1, .d ((eL 3 eApiValue) p1)), (6, .slc 0 3 0 y.1.length none), (7, .slc 1 1 0 y.2.1.length none), (8, .d (eB y.2.2.1)), (9, .d (eI y.2.2.2))], [.row 3 (List.map eApiValue y.1) true, .row 1 (List.map eB y.2.1) true]⟩) (Wk.trans (Wk.pushE (σ' := [.row 3 (List.map eApiValue ([] : List ApiValue)) true]) (.row 3 [] true) (fun _ hh => by cases hh) rfl) (Wk.trans (Wk.env (e' := [(0, .d ((eL 2 eApiPart) p0)), (1, .d ((eL 3 eApiValue) p1)), (6, .slc 0 3 0 (([] : List ApiValue).length) none), (7, .d .nils), (8, .d (eB false)), (9, .d (eI (0 : Int)))]) (EW.cons (AW.refl _) (EW.cons (AW.refl _) (EW.cons (AW.slcn _ _ _) (EW.cons (AW.refl _) (EW.cons (AW.refl _) (EW.cons (AW.refl _) EW.nil))))))) (Wk.trans (Wk.pushE (σ' := [.row 3 (List.map eApiValue ([] : List ApiValue)) true, .row 1 (List.map eB ([] : List Bool)) true]) (.row 1 [] true) (fun _ hh => by cases hh) rfl) (Wk.trans (Wk.env (e' := [(0, .d ((eL 2 eApiPart) p0)), (1, .d ((eL 3 eApiValue) p1)), (6, .slc 0 3 0 (([] : List ApiValue).length) none), (7, .slc 1 1 0 (([] : List Bool).length) none), (8, .d (eB false)), (9, .d (eI (0 : Int)))]) (EW.cons (AW.refl _) (EW.cons (AW.refl _) (EW.cons (AW.refl _) (EW.cons (AW.slcn _ _ _) (EW.cons (AW.refl _) (EW.cons (AW.refl _) EW.nil))))))) (wq rfl))))) ?_))))
  intro n174
  rintro ⟨y154, y155, y156, y157⟩ w2_167 h3 hv3
  refine sq (sr (sm rfl (sm rfl (s1 (len rfl rfl rfl (len_lst un25)) (s1 (bi rfl rfl q_i64_lss) (sn (cB h3 rfl (fun h3 => ?_) (fun h3 => ?_))))))))
  ·obtain ⟨v169, hv169, h3⟩ := ob h3; obtain ⟨v170, hv170, h3⟩ := ob h3; obtain ⟨hg171, h3⟩ := gd h3; obtain ⟨v172, hv172, h3⟩ := ob h3; obtain ⟨hg173, h3⟩ := gd h3
   refine sk (sq (SC.blk (sr (sm rfl (sm rfl (sm rfl (s1 (ial rfl rfl un25 ts52 (getI_some hv169).1 (map_get (getI_some hv169).2) rfl) (s1 (fap rfl fo52_0 ts3 rfl) (s1 (lod rfl (ld_rop ts3 ta3 rfl)) ?_)))))))))
   refine s1 (ial rfl rfl un24 ts41 (getI_some hv170).1 (map_get (getI_some hv170).2) rfl) (s1 (lod (v := .d (eApiValue v170)) rfl (ld_rop ts41 ta41 rfl)) (s1 (alo (k := 2) zo41 rfl) (s0 (sto rfl rfl (sB (d' := .d (eApiValue v170)) ts41 rfl rfl rfl rfl rfl rfl rfl)) (sn (sr (sm rfl (s1 (lod (v := .d (eApiValue v170)) rfl (ld_box ts41 ta41 rfl rfl)) (s1 (bsn (k := 3) (ds := List.map eApiValue [v170]) (off := 0) (l' := [v170].length) rfl un24 ei41 rfl rfl (by rfl) rfl rfl rfl) (s1 (app rfl rfl rfl rfl bc24 (aF (f := eApiValue) (xs := y154) (k := 4) rfl un24 ei41 rfl (el_full (xs := [v170]) rfl) hg171 rfl)) ?_)))))))))
   refine sa rfl (sn (sr (sm rfl (sm rfl (sm rfl (s1 (ial rfl rfl un25 ts52 (getI_some hv172).1 (map_get (getI_some hv172).2) rfl) (s1 (fap rfl fo52_1 ts4 rfl) (s1 (lod rfl (ld_rop ts4 ta4 rfl)) (s1 (bsn (k := 5) (ds := List.map eB [v172.Down]) (off := 0) (l' := [v172.Down].length) rfl un63 ei4 rfl rfl (by rfl) rfl rfl rfl) ?_)))))))))
   refine s1 (app rfl rfl rfl rfl bc63 (aF (f := eB) (xs := y155) (k := 6) rfl un63 ei4 rfl (el_full (xs := [v172.Down]) rfl) hg173 rfl)) (sa rfl (sn (SC.region (sm rfl (sm rfl (sp h3 (fun h3 => ?_) (fun h3 => ?_)))))))
   ·refine kw rfl (kw rfl (kw rfl (s1 (pkt rfl rfl) (sa rfl (SO.nil ?_)))))
    change SC _ _ _ _ _
    have q := si h3; subst q
    exact SC.region (sm rfl (s1 (bi rfl rfl q_i64_add) (sa rfl (SO.nil (lf (wc [4, 6] [4, 6] (by kernel_rfl) rfl (by kernel_rfl)))))))
   ·refine gw rfl (far (k := 0) rfl fo41_0 ts3 rfl) (gw rfl (lod rfl (ld_box ts3 ta3 rfl rfl)) (gw rfl (bi rfl rfl q_i64_eql) (s1 (pkf rfl rfl) (sa rfl (SO.nil ?_)))))
    change SC _ _ _ _ _
    have q := si h3; subst q
    exact SC.region (sm rfl (s1 (bi rfl rfl q_i64_add) (sa rfl (SO.nil (lf (wc [4, 6] [4, 6] (by kernel_rfl) rfl (by kernel_rfl)))))))
  ·have q := si h3; subst q; have q : _ = _ := hv3; subst q; have q := si h1; subst q
   exact SC.exit ((wq rfl))
 ·rintro ⟨y145, y146, y147⟩ h0
  obtain ⟨r176, hq175, h0⟩ := ob h0; have q := si h0; subst q
  exact sr (sm rfl (sm rfl (cq (args' := [.slc 0 3 0 y145.length none, .slc 1 1 0 y146.length none]) (σc := [.row 3 (List.map eApiValue y145) true, .row 1 (List.map eB y146) true]) [0, 1] [] (CallAt.frz (ArgF.frz (fF rfl rfl rfl) (ArgF.frz (fF rfl rfl rfl) (ArgF.nil _))) (fq [] [] (ref07_Key_1_ok y145 y146 _ hq175) rfl rfl rfl rfl rfl rfl rfl rfl)) wf rfl rfl rfl cb56 rfl rfl rfl rfl rfl rfl rfl rfl (sm rfl (sa rfl (sa rfl (sn (SC.ret (finR (wc (e' := [(4, .d (eS r176)), (5, .d (eB y147))]) [] [] (by kernel_rfl) rfl (by kernel_rfl)) (lresT rfl (lresT rfl lresN)) rfl)))))))))
noncomputable def ref17_Front_1 (p0 : List UInt8) (p1 : List ApiPart) (p2 : Bool) (p3 : Bool) (p4 : Int) (p5 : List ApiValue) : Option ((List UInt8) × Bool) :=
 Option.bind (ref17_keyed p1 p5) fun (r10, r11) =>
 some (r10, r11)
theorem ref17_Front_1_ok (p0 : List UInt8) (p1 : List ApiPart) (p2 : Bool) (p3 : Bool) (p4 : Int) (p5 : List ApiValue) (r : (List UInt8) × Bool) (h0 : ref17_Front_1 p0 p1 p2 p3 p4 p5 = some r) : CallAt Tryz.prog 31 [.d (.agg [(eS p0), ((eL 2 eApiPart) p1), .nils, (eB p2), (eB p3), (eI p4)]), .d ((eL 3 eApiValue) p5)] [] (.tuple [.d (eS r.1), .d (eB r.2)]) [] := by
 unfold ref17_Front_1 at h0
 refine fn0 [0, 1] Tryz.func31 rfl rfl rfl rfl rfl ?_
 obtain ⟨⟨r10, r11⟩, hq9, h0⟩ := ob h0; have q := si h0; subst q
 refine sr (s1 (bxo (k := 0) rfl rfl rfl) (s1 (asg (v := .d (eS ([] : List UInt8))) rfl) (sa rfl (sn (sr (s1 (far (k := 1) rfl fo75_1 ts25 rfl) (s1 (lod rfl (ld_box ts25 ta25 rfl rfl)) (sm rfl (c0 (ref17_keyed_ok p1 p5 _ hq9) wf rfl rfl rfl cb46 rfl (fun _ => rfl) (fun _ => rfl) ?_)))))))))
 exact s1 (ext rfl rfl) (s1 (ext rfl rfl) (sa rfl (sa rfl (sn (SC.ret (finR (wc (e' := [(4, .d (eS r10)), (5, .d (eB r11))]) [] [] (by kernel_rfl) rfl (by kernel_rfl)) (lresT rfl (lresT rfl lresN)) rfl))))))
noncomputable def ref20_Key (p0 : List ApiPart) (p1 : List ApiValue) : Option ((List UInt8)) :=
 Option.bind (ref17_Front_1 ([] : List UInt8) p0 false false (0 : Int) p1) fun (r9, r10) =>
 some r9
theorem ref20_Key_ok (p0 : List ApiPart) (p1 : List ApiValue) (r : (List UInt8)) (h0 : ref20_Key p0 p1 = some r) : CallAt Tryz.prog 13 [.d ((eL 2 eApiPart) p0), .d ((eL 3 eApiValue) p1)] [] (.d (eS r)) [] := by
 unfold ref20_Key at h0
 refine fn0 [0, 1] Tryz.func13 rfl rfl rfl rfl rfl ?_
 obtain ⟨⟨r9, r10⟩, hq8, h0⟩ := ob h0; have q := si h0; subst q
 refine sr (s1 (asg (v := .d (eS ([] : List UInt8))) rfl) (sn (sr (sm rfl (s1 (bld rfl (bd75_1 p0)) (sm rfl (c0 (ref17_Front_1_ok ([] : List UInt8) p0 false false (0 : Int) p1 _ hq8) wf rfl rfl rfl cb31 rfl (fun _ => rfl) (fun _ => rfl) (sm rfl (s1 (ext rfl rfl) ?_)))))))))
 exact s1 (ext rfl rfl) (sa rfl (sa rfl (sn (sr (sm rfl (sa rfl (sn (SC.ret (finR (Wk.refl _) (lresT rfl lresN) rfl)))))))))
noncomputable def ref07_In (p0 : ApiSpan) (p1 : List UInt8) : Option Bool :=
 Option.bind (α := Bool)
 (bif (!(ltS p1 p0.Lo)) then
 bif p0.Open then
 some true
 else
 some (ltS p1 p0.Hi)
 else
 some false)
 fun y6 =>
 some y6
theorem ref07_In_ok (p0 : ApiSpan) (p1 : List UInt8) (r : Bool) (h0 : ref07_In p0 p1 = some r) : CallAt Tryz.prog 14 [.d (eApiSpan p0), .d (eS p1)] [] (.d (eB r)) [] := by
 unfold ref07_In at h0
 refine fn0 [0, 1] Tryz.func14 rfl rfl rfl rfl rfl ?_
 refine sr (s1 (bxo (k := 0) rfl rfl rfl) (sa rfl (sn (SC.seqP h0 (fun y => ⟨mk 19 [(4, .d (eB y))], []⟩) ?_ ?_))))
 ·intro u1_7 h1
  refine SC.region (sm rfl (s1 (far (k := 0) rfl fo33_0 ts9 rfl) (s1 (lod rfl (ld_box ts9 ta9 rfl rfl)) (s1 (bi rfl rfl q_str_geq) (sm rfl (sp h1 (fun h1 => ?_) (fun h1 => ?_)))))))
  ·refine gw rfl (far (k := 2) rfl fo33_2 ts4 rfl) (gw rfl (lod rfl (ld_box ts4 ta4 rfl rfl)) (gw rfl (mv rfl) (sp h1 (fun h1 => ?_) (fun h1 => ?_))))
   ·have q := si h1; subst q
    exact kw rfl (kw rfl (kw rfl (kw rfl (gw rfl (pkt rfl rfl) (s1 (pkt rfl rfl) (sa rfl (SO.nil ((wc [] [] (by kernel_rfl) rfl (by kernel_rfl))))))))))
   ·have q := si h1; subst q
    exact gw rfl (mv rfl) (gw rfl (far (k := 1) rfl fo33_1 ts9 rfl) (gw rfl (lod rfl (ld_box ts9 ta9 rfl rfl)) (gw rfl (bi rfl rfl q_str_lss) (gw rfl (pkf rfl rfl) (s1 (pkt rfl rfl) (sa rfl (SO.nil ((wc [] [] (by kernel_rfl) rfl (by kernel_rfl))))))))))
  ·have q := si h1; subst q
   refine kw rfl (kw rfl (kw rfl (kw rfl (kw rfl (kw rfl (kw rfl (kw rfl (s1 (pkf rfl rfl) (sa rfl ?_)))))))))
   exact SO.nil ((wc [] [] (by kernel_rfl) rfl (by kernel_rfl)))
 ·rintro y6 h0
  have q := si h0; subst q
  exact SC.ret (finR (Wk.refl _) (lresT rfl lresN) rfl)
noncomputable def law20_PredBounds (p0 : List ApiColumn) (p1 : List PredNode) (p2 : List ApiValue) (p3 : List ApiPart) (p4 : List UInt8) : Option Bool :=
 Option.bind law20_awake fun r79 =>
 bif (!r79) then
 some false
 else
 Option.bind (α := Bool)
 (bif (decide ((p0.length : Int) > (24 : Int))) then
 some true
 else
 Option.bind (pred_Check p0 p1) fun r91 =>
 bif (r91 != (0 : Int)) then
 some true
 else
 Option.bind (law20_parts p0 p3) fun r93 =>
 bif (!r93) then
 some true
 else
 Option.bind (ref08_Fits p0 p2) fun r95 =>
 bif (r95 != (0 : Int)) then
 some true
 else
 Option.bind (pred_Eval p1 p2) fun r97 =>
 some (!r97))
 fun y88 =>
 bif y88 then
 some true
 else
 Option.bind (pred_Bounds p3 p1) fun (r99, r100, r101) =>
 Option.bind (ref20_Key p3 p2) fun r103 =>
 Option.bind (α := Bool)
 (bif (decide (r99 ≥ (0 : Int))) then
 bif (decide (r99 ≤ (p3.length : Int))) then
 Option.bind (ref07_In r101 r103) fun r112 =>
 bif r112 then
 bif decide (r103.length + p4.length ≤ 9223372036854775807) then
 Option.bind (ref07_In r101 (r103 ++ p4)) fun r115 =>
 some r115
 else none
 else
 some false
 else
 some false
 else
 some false)
 fun y109 =>
 some y109
theorem law20_PredBounds_ok (p0 : List ApiColumn) (p1 : List PredNode) (p2 : List ApiValue) (p3 : List ApiPart) (p4 : List UInt8) (r : Bool) (h0 : law20_PredBounds p0 p1 p2 p3 p4 = some r) : CallAt Tryz.prog 3 [.d ((eL 7 eApiColumn) p0), .d ((eL 6 ePredNode) p1), .d ((eL 3 eApiValue) p2), .d ((eL 2 eApiPart) p3), .d (eS p4)] [] (.d (eB r)) [] := by
 unfold law20_PredBounds at h0
 refine fn0 [0, 1, 2, 3, 4] Tryz.func3 rfl rfl rfl rfl rfl ?_
 obtain ⟨r79, hq78, h0⟩ := ob h0
 refine sr (sa rfl (sn (sq (sr (c0 (law20_awake_ok _ hq78) wf rfl rfl rfl cb7 rfl (fun _ => rfl) (fun _ => rfl) (s1 (nt rfl) (sn (cB h0 rfl (fun h0 => ?_) (fun h0 => ?_)))))))))
 ·have q := si h0; subst q
  exact sr (sa rfl (sn (SC.ret (finR (Wk.refl _) (lresT rfl lresN) rfl))))
 ·refine sk (sq (SC.seqP h0 (fun y => ⟨mk 74 [(1, .d ((eL 6 ePredNode) p1)), (2, .d ((eL 3 eApiValue) p2)), (3, .d ((eL 2 eApiPart) p3)), (4, .d (eS p4)), (43, .d (eB y))], []⟩) ?_ ?_))
  ·intro u1_89 h1
   refine SC.region (sm rfl (s1 (len rfl rfl rfl (len_lst un22)) (s1 (bi rfl rfl q_i64_gtr) (sm rfl (sp h1 (fun h1 => ?_) (fun h1 => ?_))))))
   ·have q := si h1; subst q
    refine kw rfl (kw rfl (kw rfl (kw rfl (s1 (pkt rfl rfl) (sm rfl (kw rfl (kw rfl (kw rfl (kw rfl ?_)))))))))
    refine s1 (pkt rfl rfl) (sm rfl (kw rfl (kw rfl (kw rfl (kw rfl (s1 (pkt rfl rfl) (sm rfl (kw rfl (kw rfl ?_)))))))))
    exact kw rfl (kw rfl (s1 (pkt rfl rfl) (SO.nil ((wq rfl)))))
   ·obtain ⟨r91, hq90, h1⟩ := ob h1
    refine gw rfl (mv rfl) (gw rfl (mv rfl) (c0 (pred_Check_ok p0 p1 _ hq90) (ww rfl) rfl rfl rfl cb8 rfl (fun _ => rfl) (fun _ => rfl) (gw rfl (bi rfl rfl q_i64_neq) (s1 (pkf rfl rfl) (sm rfl (sp h1 (fun h1 => ?_) (fun h1 => ?_)))))))
    ·have q := si h1; subst q
     refine kw rfl (kw rfl (kw rfl (kw rfl (s1 (pkt rfl rfl) (sm rfl (kw rfl (kw rfl (kw rfl (kw rfl ?_)))))))))
     exact s1 (pkt rfl rfl) (sm rfl (kw rfl (kw rfl (kw rfl (kw rfl (s1 (pkt rfl rfl) (SO.nil ((wq rfl)))))))))
    ·obtain ⟨r93, hq92, h1⟩ := ob h1
     refine gw rfl (mv rfl) (gw rfl (mv rfl) (c0 (law20_parts_ok p0 p3 _ hq92) (ww rfl) rfl rfl rfl cb9 rfl (fun _ => rfl) (fun _ => rfl) (gw rfl (nt rfl) (s1 (pkf rfl rfl) (sm rfl (sp h1 (fun h1 => ?_) (fun h1 => ?_)))))))
     ·have q := si h1; subst q
      refine kw rfl (kw rfl (kw rfl (kw rfl (s1 (pkt rfl rfl) (sm rfl (kw rfl (kw rfl (kw rfl (kw rfl ?_)))))))))
      exact s1 (pkt rfl rfl) (SO.nil ((wq rfl)))
     ·obtain ⟨r95, hq94, h1⟩ := ob h1
      refine gw rfl (mv rfl) (gw rfl (mv rfl) (c0 (ref08_Fits_ok p0 p2 _ hq94) (ww rfl) rfl rfl rfl cb10 rfl (fun _ => rfl) (fun _ => rfl) (gw rfl (bi rfl rfl q_i64_neq) (s1 (pkf rfl rfl) (sm rfl (sp h1 (fun h1 => ?_) (fun h1 => ?_)))))))
      ·have q := si h1; subst q
       exact kw rfl (kw rfl (kw rfl (kw rfl (s1 (pkt rfl rfl) (SO.nil ((wq rfl)))))))
      ·obtain ⟨r97, hq96, h1⟩ := ob h1; have q := si h1; subst q
       exact gw rfl (mv rfl) (gw rfl (mv rfl) (c0 (pred_Eval_ok p1 p2 _ hq96) (ww rfl) rfl rfl rfl cb11 rfl (fun _ => rfl) (fun _ => rfl) (gw rfl (nt rfl) (s1 (pkf rfl rfl) (SO.nil ((wq rfl)))))))
  ·rintro y88 h0
   refine cB h0 rfl (fun h0 => ?_) (fun h0 => ?_)
   ·have q := si h0; subst q
    exact sr (sa rfl (sn (SC.ret (finR (Wk.refl _) (lresT rfl lresN) rfl))))
   ·obtain ⟨⟨r99, r100, r101⟩, hq98, h0⟩ := ob h0; obtain ⟨r103, hq102, h0⟩ := ob h0
    refine sk (sr (sm rfl (sm rfl (cq [] [0] (pred_Bounds_ok p3 p1 _ hq98) wf rfl rfl rfl cb12 rfl rfl rfl rfl rfl rfl rfl rfl (sm rfl (s1 (ext rfl rfl) (s1 (ext rfl rfl) (s1 (ext rfl rfl) (s1 (alo (k := 1) zo33 rfl) ?_)))))))))
    refine s0 (sto rfl rfl (sB (d' := .d (eApiSpan r101)) ts33 rfl rfl rfl rfl rfl rfl rfl)) (sa rfl (sa rfl (sn (sr (sm rfl (sm rfl (c0 (ref20_Key_ok p3 p2 _ hq102) wf rfl rfl rfl cb13 rfl (fun _ => rfl) (fun _ => rfl) (sa rfl (sn ?_)))))))))
    refine SC.seqP h0 (fun y => ⟨mk 74 [(10, .d (eB y))], []⟩) ?_ ?_
    ·intro u1_110 h1
     refine SC.region (sm rfl (s1 (bi rfl rfl q_i64_geq) (sm rfl (sp h1 (fun h1 => ?_) (fun h1 => ?_)))))
     ·refine gw rfl (mv rfl) (gw rfl (mv rfl) (gw rfl (len rfl rfl rfl (len_lst un25)) (gw rfl (bi rfl rfl q_i64_leq) (s1 (pkt rfl rfl) (sm rfl (sp h1 (fun h1 => ?_) (fun h1 => ?_)))))))
      ·obtain ⟨r112, hq111, h1⟩ := ob h1
       refine gw rfl (lod (v := .d (eApiSpan r101)) rfl (ld_box ts33 ta33 rfl rfl)) (gw rfl (mv rfl) (c0 (ref07_In_ok r101 r103 _ hq111) (ww rfl) rfl rfl rfl cb14 rfl (fun _ => rfl) (fun _ => rfl) (s1 (pkt rfl rfl) (sm rfl (sp h1 (fun h1 => ?_) (fun h1 => ?_))))))
       ·obtain ⟨hg113, h1⟩ := gd h1; obtain ⟨r115, hq114, h1⟩ := ob h1; have q := si h1; subst q
        exact gw rfl (lod (v := .d (eApiSpan r101)) rfl (ld_box ts33 ta33 rfl rfl)) (gw rfl (mv rfl) (gw rfl (mv rfl) (gw rfl (bi (v := .d (eS (r103 ++ p4))) rfl rfl (fun X Y => b_str_add _ X Y r103 p4 hg113)) (c0 (ref07_In_ok r101 (r103 ++ p4) _ hq114) (ww rfl) rfl rfl rfl cb14 rfl (fun _ => rfl) (fun _ => rfl) (s1 (pkt rfl rfl) (sa rfl (SO.nil ((wc [] [] (by kernel_rfl) rfl (by kernel_rfl))))))))))
       ·have q := si h1; subst q
        exact kw rfl (kw rfl (kw rfl (kw rfl (kw rfl (s1 (pkf rfl rfl) (sa rfl (SO.nil ((wc [] [] (by kernel_rfl) rfl (by kernel_rfl))))))))))
      ·have q := si h1; subst q
       refine kw rfl (kw rfl (kw rfl (s1 (pkf rfl rfl) (sm rfl (kw rfl (kw rfl (kw rfl (kw rfl (kw rfl ?_)))))))))
       exact s1 (pkf rfl rfl) (sa rfl (SO.nil ((wc [] [] (by kernel_rfl) rfl (by kernel_rfl)))))
     ·have q := si h1; subst q
      refine kw rfl (kw rfl (kw rfl (kw rfl (s1 (pkf rfl rfl) (sm rfl (kw rfl (kw rfl (kw rfl (s1 (pkf rfl rfl) ?_)))))))))
      exact sm rfl (kw rfl (kw rfl (kw rfl (kw rfl (kw rfl (s1 (pkf rfl rfl) (sa rfl (SO.nil ((wc [] [] (by kernel_rfl) rfl (by kernel_rfl)))))))))))
    ·rintro y109 h0
     have q := si h0; subst q
     exact SC.ret (finR (Wk.refl _) (lresT rfl lresN) rfl)
end Lv
