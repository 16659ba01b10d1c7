/- Part of the proof of a law: functions and their walks. -/
import Derived.Test.YtmkgfooomdagmaaDoorXFn2
namespace Lv
open Go Go.Proofs
set_option linter.unusedVariables false
set_option linter.unusedSimpArgs false
set_option linter.unusedSectionVars false
set_option maxRecDepth 100000
variable [BaseTab] [TabOk]
noncomputable def law18_CatalogOps (p0 : Int) (p1 : List ApiPair) (p2 : List ApiPair) : Option Bool :=
 Option.bind law18_awake fun r641 =>
 bif (!r641) then
 some false
 else
 bindE (Y := Unit) (E := Bool)
 (Option.bind (α := Unit ⊕ Bool)
 (loop (Y := Int) (W := Unit ⊕ Bool) (fun y656 =>
 bif (decide (y656 < (p1.length : Int))) then
 Option.bind (getI p1 (w64 (y656 - (1 : Int)))) fun v662 =>
 Option.bind (getI p1 y656) fun v663 =>
 bif (!(ltS v662.Key v663.Key)) then
 some (Sum.inr (Sum.inr true))
 else
 some (Sum.inl (w64 (y656 + (1 : Int))))
 else
 some (Sum.inr (Sum.inl ()))) (1 : Int))
 (Sum.elim (fun e => some (Sum.inl e)) (fun e => some (Sum.inr e))))
 (fun _ =>
 bindE (Y := Unit) (E := Bool)
 (Option.bind (α := Unit ⊕ Bool)
 (loop (Y := Int) (W := Unit ⊕ Bool) (fun y679 =>
 bif (decide (y679 < (p2.length : Int))) then
 Option.bind (getI p2 (w64 (y679 - (1 : Int)))) fun v685 =>
 Option.bind (getI p2 y679) fun v686 =>
 bif (!(ltS v685.Key v686.Key)) then
 some (Sum.inr (Sum.inr true))
 else
 some (Sum.inl (w64 (y679 + (1 : Int))))
 else
 some (Sum.inr (Sum.inl ()))) (1 : Int))
 (Sum.elim (fun e => some (Sum.inl e)) (fun e => some (Sum.inr e))))
 (fun _ =>
 bif decide ((([] : List ApiPair).length + p1.length) * 32 ≤ room) then
 bif decide ((([] : List ApiPair).length + p2.length) * 32 ≤ room) then
 Option.bind (catalog_Ops p0 (([] : List ApiPair) ++ p1) (([] : List ApiPair) ++ p2)) fun r691 =>
 Option.bind (ref18_Ops p0 p1 p2) fun r693 =>
 bif ((r691.length : Int) != (r693.length : Int)) then
 some false
 else
 Option.bind (α := (List ApiEntry))
 (Option.bind (α := (List ApiEntry))
 (loop (Y := Int × (List ApiEntry)) (W := (List ApiEntry)) (fun (y719, y720) =>
 bif (decide (y719 < (p1.length : Int))) then
 Option.bind (getI p1 y719) fun v729 =>
 Option.bind (getI p1 y719) fun v730 =>
 Option.bind (ref11_Tree_Inject_1 (ApiMsg.mk (0 : UInt64) (1 : Int) v729.Key (0 : UInt64) v730.Val (0 : Int) (0 : UInt64)) y720) fun r732 =>
 some (Sum.inl ((w64 (y719 + (1 : Int))), r732))
 else
 some (Sum.inr y720)) ((0 : Int), ([] : List ApiEntry)))
 (fun e => some e))
 fun y713 =>
 bindE (Y := (List ApiEntry)) (E := Bool)
 (Option.bind (α := ((List ApiEntry)) ⊕ Bool)
 (loop (Y := Int × (List ApiEntry)) (W := ((List ApiEntry)) ⊕ Bool) (fun (y835, y836) =>
 bif (decide (y835 < (r691.length : Int))) then
 Option.bind (α := Bool)
 (Option.bind (getI r691 y835) fun v872 =>
 Option.bind (getI r693 y835) fun v873 =>
 bif (v872.Kind != v873.Kind) then
 some true
 else
 Option.bind (getI r691 y835) fun v874 =>
 Option.bind (getI r693 y835) fun v875 =>
 bif (v874.Tree != v875.Tree) then
 some true
 else
 Option.bind (getI r691 y835) fun v876 =>
 Option.bind (getI r693 y835) fun v877 =>
 some (!(eqApiMsg v876.Msg v877.Msg)))
 fun y870 =>
 bif y870 then
 some (Sum.inr (Sum.inr false))
 else
 Option.bind (getI r691 y835) fun v878 =>
 Option.bind (ref11_Tree_Get v878.Msg.Key y836) fun r880 =>
 Option.bind (getI r691 y835) fun v881 =>
 Option.bind (ref11_Tree_Inject_1 v881.Msg y836) fun r883 =>
 Option.bind (getI r691 y835) fun v884 =>
 Option.bind (ref11_Tree_Get v884.Msg.Key r883) fun r886 =>
 bif (eqApiEntry r886 r880) then
 some (Sum.inr (Sum.inr false))
 else
 some (Sum.inl ((w64 (y835 + (1 : Int))), r883))
 else
 some (Sum.inr (Sum.inl y836))) ((0 : Int), y713))
 (Sum.elim (fun e => some (Sum.inl e)) (fun e => some (Sum.inr e))))
 (fun y810 =>
 bif ((y810.length : Int) != (p2.length : Int)) then
 some false
 else
 bindE (Y := Unit) (E := Bool)
 (Option.bind (α := Unit ⊕ Bool)
 (loop (Y := Int) (W := Unit ⊕ Bool) (fun y934 =>
 bif (decide (y934 < (p2.length : Int))) then
 Option.bind (α := Bool)
 (Option.bind (getI y810 y934) fun v954 =>
 Option.bind (getI p2 y934) fun v955 =>
 bif (v954.Key != v955.Key) then
 some true
 else
 Option.bind (getI y810 y934) fun v956 =>
 Option.bind (getI p2 y934) fun v957 =>
 some (v956.Val != v957.Val))
 fun y952 =>
 bif y952 then
 some (Sum.inr (Sum.inr false))
 else
 some (Sum.inl (w64 (y934 + (1 : Int))))
 else
 some (Sum.inr (Sum.inl ()))) (0 : Int))
 (Sum.elim (fun e => some (Sum.inl e)) (fun e => some (Sum.inr e))))
 (fun _ =>
 some true)
 (fun e => some e))
 (fun e => some e)
 else none
 else none)
 (fun e => some e))
 (fun e => some e)
theorem law18_CatalogOps_ok (p0 : Int) (p1 : List ApiPair) (p2 : List ApiPair) (r : Bool) (h0 : law18_CatalogOps p0 p1 p2 = some r) : CallAt Tryd.prog 3 [.d (eI p0), .d ((eL 2 eApiPair) p1), .d ((eL 2 eApiPair) p2)] [] (.d (eB r)) [] := by
 unfold law18_CatalogOps at h0
 refine fn0 [0, 1, 2] Tryd.func3 rfl rfl rfl rfl rfl ?_
 obtain ⟨r641, hq640, h0⟩ := ob h0
 refine sr (sa rfl (sn (sq (sr (c0 (law18_awake_ok _ hq640) wf rfl rfl rfl cb6 rfl (fun _ => rfl) (fun _ => rfl) (s1 (nt rfl) (sn (cB h0 rfl (fun h0 => ?_) (fun h0 => ?_)))))))))
 ·have q := si h0; subst q
  exact sr (sa rfl (sn (SC.ret (finR (Wk.refl _) (lresT rfl lresN) rfl))))
 ·refine sk (SC.seqB h0 (fun y => ⟨mk 204 [(0, .d (eI p0)), (1, .d ((eL 2 eApiPair) p1)), (2, .d ((eL 2 eApiPair) p2))], []⟩) ?_ ?_)
  ·intro u1_653 h1 h0
   obtain ⟨u2_661, h2, h1⟩ := ob h1
   refine sr (sa rfl (sn (SC.blk (SC.loopB h2 (fun y => ⟨mk 204 [(0, .d (eI p0)), (1, .d ((eL 2 eApiPair) p1)), (2, .d ((eL 2 eApiPair) p2)), (7, .d (eI y))], []⟩) (wq rfl) ?_))))
   intro n664
   rintro y656 w2_660 h3 hv3
   refine sq (sr (sm rfl (sm rfl (s1 (len rfl rfl rfl (len_lst un22)) (s1 (bi rfl rfl q_i64_lss) (sn (cB h3 rfl (fun h3 => ?_) (fun h3 => ?_))))))))
   ·obtain ⟨v662, hv662, h3⟩ := ob h3; obtain ⟨v663, hv663, h3⟩ := ob h3
    refine sk (sq (SC.blk (sd (by kernel_rfl) (t1 ([], false) (mv rfl) rfl (t1 ([], false) (mv rfl) rfl (t1 ([], false) (bi rfl rfl q_i64_sub) rfl (t1 ([], false) (ial rfl rfl un22 ts25 (getI_some hv662).1 (map_get (getI_some hv662).2) rfl) rfl (t1 ([], false) (fap rfl fo25_0 ts9 rfl) rfl (t1 ([], false) (lod rfl (ld_rop ts9 ta9 rfl)) rfl ?_)))))))))
    refine t1 ([], false) (mv rfl) rfl (t1 ([], false) (mv rfl) rfl (t1 ([], false) (ial rfl rfl un22 ts25 (getI_some hv663).1 (map_get (getI_some hv663).2) rfl) rfl (t1 ([], false) (fap rfl fo25_0 ts9 rfl) rfl (t1 ([], false) (lod rfl (ld_rop ts9 ta9 rfl)) rfl (t1 ([], false) (bi rfl rfl q_str_geq) rfl (tn (by decide +kernel) (cB h3 rfl (fun h3 => ?_) (fun h3 => ?_))))))))
    ·have q := si h3; subst q; have q : _ = _ := hv3; subst q; have q := si h1; subst q; have q := si h0; subst q
     exact sr (sa rfl (sn (SC.ret (finR (Wk.refl _) (lresT rfl lresN) rfl))))
    ·refine SC.skip ?_
     change SC _ _ _ _ _
     have q := si h3; subst q
     exact SC.region (sm rfl (s1 (bi rfl rfl q_i64_add) (sa rfl (SO.nil (lf (wq rfl))))))
   ·have q := si h3; subst q; have q : _ = _ := hv3; subst q; have q := si h1; subst q
    exact SC.exit (lf (wq rfl))
  ·intro _ h0
   refine SC.seqB h0 (fun y => ⟨mk 204 [(0, .d (eI p0)), (1, .d ((eL 2 eApiPair) p1)), (2, .d ((eL 2 eApiPair) p2))], []⟩) ?_ ?_
   ·intro u1_676 h1 h0
    obtain ⟨u2_684, h2, h1⟩ := ob h1
    refine sr (sa rfl (sn (SC.blk (SC.loopB h2 (fun y => ⟨mk 204 [(0, .d (eI p0)), (1, .d ((eL 2 eApiPair) p1)), (2, .d ((eL 2 eApiPair) p2)), (8, .d (eI y))], []⟩) (wq rfl) ?_))))
    intro n687
    rintro y679 w2_683 h3 hv3
    refine sq (sr (sm rfl (sm rfl (s1 (len rfl rfl rfl (len_lst un22)) (s1 (bi rfl rfl q_i64_lss) (sn (cB h3 rfl (fun h3 => ?_) (fun h3 => ?_))))))))
    ·obtain ⟨v685, hv685, h3⟩ := ob h3; obtain ⟨v686, hv686, h3⟩ := ob h3
     refine sk (sq (SC.blk (sd (by kernel_rfl) (t1 ([], false) (mv rfl) rfl (t1 ([], false) (mv rfl) rfl (t1 ([], false) (bi rfl rfl q_i64_sub) rfl (t1 ([], false) (ial rfl rfl un22 ts25 (getI_some hv685).1 (map_get (getI_some hv685).2) rfl) rfl (t1 ([], false) (fap rfl fo25_0 ts9 rfl) rfl (t1 ([], false) (lod rfl (ld_rop ts9 ta9 rfl)) rfl ?_)))))))))
     refine t1 ([], false) (mv rfl) rfl (t1 ([], false) (mv rfl) rfl (t1 ([], false) (ial rfl rfl un22 ts25 (getI_some hv686).1 (map_get (getI_some hv686).2) rfl) rfl (t1 ([], false) (fap rfl fo25_0 ts9 rfl) rfl (t1 ([], false) (lod rfl (ld_rop ts9 ta9 rfl)) rfl (t1 ([], false) (bi rfl rfl q_str_geq) rfl (tn (by decide +kernel) (cB h3 rfl (fun h3 => ?_) (fun h3 => ?_))))))))
     ·have q := si h3; subst q; have q : _ = _ := hv3; subst q; have q := si h1; subst q; have q := si h0; subst q
      exact sr (sa rfl (sn (SC.ret (finR (Wk.refl _) (lresT rfl lresN) rfl))))
     ·refine SC.skip ?_
      change SC _ _ _ _ _
      have q := si h3; subst q
      exact SC.region (sm rfl (s1 (bi rfl rfl q_i64_add) (sa rfl (SO.nil (lf (wq rfl))))))
    ·have q := si h3; subst q; have q : _ = _ := hv3; subst q; have q := si h1; subst q
     exact SC.exit (lf (wq rfl))
   ·intro _ h0
    obtain ⟨hg688, h0⟩ := gd h0; obtain ⟨hg689, h0⟩ := gd h0; obtain ⟨r691, hq690, h0⟩ := ob h0; obtain ⟨r693, hq692, h0⟩ := ob h0
    refine sr (sm rfl (s1 (bsn (k := 0) (ds := List.map eApiPair ([] : List ApiPair)) (off := 0) (l' := ([] : List ApiPair).length) rfl un22 ei25 rfl rfl rfl rfl rfl rfl) (sm rfl (s1 (app rfl rfl rfl rfl bc22 (aF (f := eApiPair) (xs := ([] : List ApiPair)) (k := 1) rfl un22 ei25 rfl el_lst hg688 rfl)) (s1 (bsn (k := 2) (ds := List.map eApiPair ([] : List ApiPair)) (off := 0) (l' := ([] : List ApiPair).length) rfl un22 ei25 rfl rfl rfl rfl rfl rfl) (sm rfl (s1 (app rfl rfl rfl rfl bc22 (aF (f := eApiPair) (xs := ([] : List ApiPair)) (k := 3) rfl un22 ei25 rfl el_lst hg689 rfl)) (cq (args' := [.d (eI p0), .slc 0 2 0 ((([] : List ApiPair) ++ p1).length) none, .slc 1 2 0 ((([] : List ApiPair) ++ p2).length) none]) (σc := [.row 2 (List.map eApiPair (([] : List ApiPair) ++ p1)) true, .row 2 (List.map eApiPair (([] : List ApiPair) ++ p2)) true]) [1, 3] [] (CallAt.frz (ArgF.keep (ArgF.frz (fF rfl rfl rfl) (ArgF.frz (fF rfl rfl rfl) (ArgF.nil _)))) (fq [] [] (catalog_Ops_ok p0 (([] : List ApiPair) ++ p1) (([] : List ApiPair) ++ p2) _ hq690) rfl rfl rfl rfl rfl rfl rfl rfl)) wf rfl rfl rfl cb7 rfl rfl rfl rfl rfl rfl rfl rfl (sa rfl ?_)))))))))
    refine sn (sr (sm rfl (sm rfl (sm rfl (c0 (ref18_Ops_ok p0 p1 p2 _ hq692) wf rfl rfl rfl cb8 rfl (fun _ => rfl) (fun _ => rfl) (sa rfl (sn (sq (sr ?_)))))))))
    refine sm rfl (s1 (len rfl rfl rfl (len_lst un26)) (sm rfl (s1 (len rfl rfl rfl (len_lst un28)) (s1 (bi rfl rfl q_i64_neq) (sn (cB h0 rfl (fun h0 => ?_) (fun h0 => ?_)))))))
    ·have q := si h0; subst q
     exact sr (sa rfl (sn (SC.ret (finR (wc (e' := [(6, .d (eB false))]) [] [] (by kernel_rfl) rfl (by kernel_rfl)) (lresT rfl lresN) rfl))))
    ·refine sk (sr (s1 (bld rfl (bd33_ )) (s1 (bxo (k := 4) rfl rfl rfl) (sa rfl (sn (SC.seqP h0 (fun y => ⟨mk 204 [(2, .d ((eL 2 eApiPair) p2)), (9, .d ((eL 9 eForestOp) r691)), (10, .d ((eL 9 eGranaryref14Op) r693)), (11, .ref 0 0 0)], [.box (.agg [.slc 1 6 0 y.length none]), .row 6 (List.map eApiEntry y) true]⟩) ?_ ?_))))))
     ·intro u1_714 h1
      obtain ⟨u2_728, h2, h1⟩ := ob h1
      refine sr (sa rfl (sn (SC.blk (SC.loopB h2 (fun y => ⟨mk 204 [(1, .d ((eL 2 eApiPair) p1)), (2, .d ((eL 2 eApiPair) p2)), (9, .d ((eL 9 eForestOp) r691)), (10, .d ((eL 9 eGranaryref14Op) r693)), (11, .ref 0 0 0), (12, .d (eI y.1))], [.box (.agg [.slc 1 6 0 y.2.length none]), .row 6 (List.map eApiEntry y.2) true]⟩) (Wk.trans (Wk.pushE (σ' := [.dead, .row 2 (List.map eApiPair (([] : List ApiPair) ++ p1)) false, .dead, .row 2 (List.map eApiPair (([] : List ApiPair) ++ p2)) false, .box (.d (.agg [.nils])), .row 6 (List.map eApiEntry ([] : List ApiEntry)) true]) (.row 6 [] true) (fun _ hh => by cases hh) rfl) (Wk.trans (Wk.boxE (id := 4) (y := .agg [.slc 5 6 0 (([] : List ApiEntry).length) none]) (σ' := [.dead, .row 2 (List.map eApiPair (([] : List ApiPair) ++ p1)) false, .dead, .row 2 (List.map eApiPair (([] : List ApiPair) ++ p2)) false, .box (.agg [.slc 5 6 0 (([] : List ApiEntry).length) none]), .row 6 (List.map eApiEntry ([] : List ApiEntry)) true]) rfl (AWs.cons (AW.slcn _ _ _) AWs.nil) rfl) (wc [4, 5] [4] (by kernel_rfl) rfl (by kernel_rfl)))) ?_))))
      intro n733
      rintro ⟨y719, y720⟩ w2_727 h3 hv3
      refine sq (sr (sm rfl (sm rfl (s1 (len rfl rfl rfl (len_lst un22)) (s1 (bi rfl rfl q_i64_lss) (sn (cB h3 rfl (fun h3 => ?_) (fun h3 => ?_))))))))
      ·obtain ⟨v729, hv729, h3⟩ := ob h3; obtain ⟨v730, hv730, h3⟩ := ob h3; obtain ⟨r732, hq731, h3⟩ := ob h3
       refine sk (sq (SC.blk (SC.draws (by kernel_rfl) (t1 ([], false) (mv rfl) rfl (t1 ([], false) (mv rfl) rfl (t1 ([], false) (mv rfl) rfl (t1 ([], false) (ial rfl rfl un22 ts25 (getI_some hv729).1 (map_get (getI_some hv729).2) rfl) rfl (t1 ([], false) (fap rfl fo25_0 ts9 rfl) rfl (t1 ([], false) (lod rfl (ld_rop ts9 ta9 rfl)) rfl ?_)))))))))
       refine t1 ([], false) (mv rfl) rfl (t1 ([], false) (mv rfl) rfl (t1 ([], false) (ial rfl rfl un22 ts25 (getI_some hv730).1 (map_get (getI_some hv730).2) rfl) rfl (t1 ([], false) (fap rfl fo25_1 ts9 rfl) rfl (t1 ([], false) (lod rfl (ld_rop ts9 ta9 rfl)) rfl (t1 ([], false) (bld rfl (bd37_1_2_4 (1 : Int) v729.Key v730.Val)) rfl (tq [0, 1] [2] ([0, 1, 2], true) (ref11_Tree_Inject_1_ok (ApiMsg.mk (0 : UInt64) (1 : Int) v729.Key (0 : UInt64) v730.Val (0 : Int) (0 : UInt64)) y720 _ hq731) wf rfl rfl rfl cb9 rfl rfl rfl rfl rfl rfl rfl rfl rfl (ST.nil (And.intro (by decide +kernel) ?_))))))))
       change SC _ _ _ _ _
       have q := si h3; subst q
       exact SC.region (sm rfl (s1 (bi rfl rfl q_i64_add) (sa rfl (SO.nil (lf (wc [0, 2] [0] (by kernel_rfl) rfl (by kernel_rfl)))))))
      ·have q := si h3; subst q; have q : _ = _ := hv3; subst q; have q := si h1; subst q
       exact SC.exit ((wq rfl))
     ·rintro y713 h0
      refine SC.seqB h0 (fun y => ⟨mk 204 [(2, .d ((eL 2 eApiPair) p2)), (11, .ref 0 0 0)], [.box (.agg [.slc 1 6 0 y.length none]), .row 6 (List.map eApiEntry y) true]⟩) ?_ ?_
      ·intro u1_811 h1 h0
       obtain ⟨u2_863, h2, h1⟩ := ob h1
       refine sr (sa rfl (sn (SC.blk (SC.loopB h2 (fun y => ⟨mk 204 [(2, .d ((eL 2 eApiPair) p2)), (9, .d ((eL 9 eForestOp) r691)), (10, .d ((eL 9 eGranaryref14Op) r693)), (11, .ref 0 0 0), (13, .d (eI y.1))], [.box (.agg [.slc 1 6 0 y.2.length none]), .row 6 (List.map eApiEntry y.2) true]⟩) (wq rfl) ?_))))
       intro n887
       rintro ⟨y835, y836⟩ w2_862 h3 hv3
       refine sq (sr (sm rfl (sm rfl (s1 (len rfl rfl rfl (len_lst un26)) (s1 (bi rfl rfl q_i64_lss) (sn (cB h3 rfl (fun h3 => ?_) (fun h3 => ?_))))))))
       ·refine sk (sq (SC.blk (sq (SC.seqP h3 (fun y => ⟨mk 204 [(2, .d ((eL 2 eApiPair) p2)), (9, .d ((eL 9 eForestOp) r691)), (10, .d ((eL 9 eGranaryref14Op) r693)), (11, .ref 0 0 0), (13, .d (eI y835)), (134, .d (eB y))], [.box (.agg [.slc 1 6 0 y836.length none]), .row 6 (List.map eApiEntry y836) true]⟩) ?_ ?_))))
        ·intro u4_871 h4
         obtain ⟨v872, hv872, h4⟩ := ob h4; obtain ⟨v873, hv873, h4⟩ := ob h4
         refine SC.draws (by kernel_rfl) (t1 ([], false) (mv rfl) rfl (t1 ([], false) (mv rfl) rfl (t1 ([], false) (ial rfl rfl un26 ts39 (getI_some hv872).1 (map_get (getI_some hv872).2) rfl) rfl (t1 ([], false) (fap rfl fo39_0 ts3 rfl) rfl (t1 ([], false) (lod rfl (ld_rop ts3 ta3 rfl)) rfl (t1 ([], false) (mv rfl) rfl (t1 ([], false) (mv rfl) rfl (t1 ([], false) (ial rfl rfl un28 ts40 (getI_some hv873).1 (map_get (getI_some hv873).2) rfl) rfl (t1 ([], false) (fap rfl fo40_0 ts3 rfl) rfl ?_)))))))))
         refine t1 ([], false) (lod rfl (ld_rop ts3 ta3 rfl)) rfl (t1 ([], false) (bi rfl rfl q_i64_neq) rfl (t1 ([], false) (mv rfl) rfl (tp h4 (fun h4 => ?_) (fun h4 => ?_))))
         ·have q := si h4; subst q
          refine jw rfl (jw rfl (jw rfl (jw rfl (jw rfl (jw rfl (jw rfl (jw rfl (jw rfl (jw rfl ?_)))))))))
          refine jw rfl (t1 ([], false) (pkt rfl rfl) rfl (t1 ([], false) (mv rfl) rfl (jw rfl (jw rfl (jw rfl (jw rfl (jw rfl (jw rfl (jw rfl ?_)))))))))
          refine jw rfl (jw rfl (jw rfl (jw rfl (t1 ([], false) (pkt rfl rfl) rfl (ST.nil (And.intro (by decide +kernel) ?_))))))
          exact (wq rfl)
         ·obtain ⟨v874, hv874, h4⟩ := ob h4; obtain ⟨v875, hv875, h4⟩ := ob h4
          refine u1 ([], false) (ww rfl) (mv rfl) rfl (u1 ([], false) (ww rfl) (mv rfl) rfl (u1 ([], false) (ww rfl) (ial rfl rfl un26 ts39 (getI_some hv874).1 (map_get (getI_some hv874).2) rfl) rfl (u1 ([], false) (ww rfl) (fap rfl fo39_1 ts3 rfl) rfl (u1 ([], false) (ww rfl) (lod rfl (ld_rop ts3 ta3 rfl)) rfl (u1 ([], false) (ww rfl) (mv rfl) rfl (u1 ([], false) (ww rfl) (mv rfl) rfl (u1 ([], false) (ww rfl) (ial rfl rfl un28 ts40 (getI_some hv875).1 (map_get (getI_some hv875).2) rfl) rfl (u1 ([], false) (ww rfl) (fap rfl fo40_1 ts3 rfl) rfl (u1 ([], false) (ww rfl) (lod rfl (ld_rop ts3 ta3 rfl)) rfl ?_)))))))))
          refine u1 ([], false) (ww rfl) (bi rfl rfl q_i64_neq) rfl (t1 ([], false) (pkf rfl rfl) rfl (t1 ([], false) (mv rfl) rfl (tp h4 (fun h4 => ?_) (fun h4 => ?_))))
          ·have q := si h4; subst q
           refine jw rfl (jw rfl (jw rfl (jw rfl (jw rfl (jw rfl (jw rfl (jw rfl (jw rfl (jw rfl ?_)))))))))
           refine jw rfl (t1 ([], false) (pkt rfl rfl) rfl (ST.nil (And.intro (by decide +kernel) ?_)))
           exact (wq rfl)
          ·obtain ⟨v876, hv876, h4⟩ := ob h4; obtain ⟨v877, hv877, h4⟩ := ob h4; have q := si h4; subst q
           refine u1 ([], false) (ww rfl) (mv rfl) rfl (u1 ([], false) (ww rfl) (mv rfl) rfl (u1 ([], false) (ww rfl) (ial rfl rfl un26 ts39 (getI_some hv876).1 (map_get (getI_some hv876).2) rfl) rfl (u1 ([], false) (ww rfl) (fap rfl fo39_2 ts37 rfl) rfl (u1 ([], false) (ww rfl) (lod (v := .d (eApiMsg v876.Msg)) rfl (ld_rop ts37 ta37 rfl)) rfl (u1 ([], false) (ww rfl) (mv rfl) rfl (u1 ([], false) (ww rfl) (mv rfl) rfl (u1 ([], false) (ww rfl) (ial rfl rfl un28 ts40 (getI_some hv877).1 (map_get (getI_some hv877).2) rfl) rfl (u1 ([], false) (ww rfl) (fap rfl fo40_2 ts37 rfl) rfl (u1 ([], false) (ww rfl) (lod (v := .d (eApiMsg v877.Msg)) rfl (ld_rop ts37 ta37 rfl)) rfl ?_)))))))))
           refine u1 ([], false) (ww rfl) (bi (v := .d (eB (!(eqApiMsg v876.Msg v877.Msg)))) rfl rfl (fun X Y => eqApiMsg_neq_37 X Y v876.Msg v877.Msg)) rfl (t1 ([], false) (pkf rfl rfl) rfl (ST.nil (And.intro (by decide +kernel) ?_)))
           exact (wq rfl)
        ·rintro y870 h3
         refine cB h3 rfl (fun h3 => ?_) (fun h3 => ?_)
         ·have q := si h3; subst q; have q : _ = _ := hv3; subst q; have q := si h1; subst q; have q := si h0; subst q
          exact sr (sa rfl (sn (SC.ret (finR (wc (e' := [(6, .d (eB false))]) [] [] (by kernel_rfl) rfl (by kernel_rfl)) (lresT rfl lresN) rfl))))
         ·obtain ⟨v878, hv878, h3⟩ := ob h3; obtain ⟨r880, hq879, h3⟩ := ob h3; obtain ⟨v881, hv881, h3⟩ := ob h3; obtain ⟨r883, hq882, h3⟩ := ob h3; obtain ⟨v884, hv884, h3⟩ := ob h3; obtain ⟨r886, hq885, h3⟩ := ob h3
          refine sk (sr (sm rfl (sm rfl (sm rfl (s1 (ial rfl rfl un26 ts39 (getI_some hv878).1 (map_get (getI_some hv878).2) rfl) (s1 (fap rfl fo39_2 ts37 rfl) (s1 (fap rfl fo37_2 ts9 rfl) (s1 (lod rfl (ld_rop ts9 ta9 rfl)) (cq [0, 1] [2] (ref11_Tree_Get_ok v878.Msg.Key y836 _ hq879) wf rfl rfl rfl cb10 rfl rfl rfl rfl rfl rfl rfl rfl ?_)))))))))
          refine s1 (alo (k := 3) zo42 rfl) (s0 (sto rfl rfl (sB (d' := .d (eApiEntry r880)) ts42 rfl rfl rfl rfl rfl rfl rfl)) (sn (sr (sm rfl (sm rfl (sm rfl (s1 (ial rfl rfl un26 ts39 (getI_some hv881).1 (map_get (getI_some hv881).2) rfl) (s1 (fap rfl fo39_2 ts37 rfl) (s1 (lod (v := .d (eApiMsg v881.Msg)) rfl (ld_rop ts37 ta37 rfl)) ?_)))))))))
          refine cq [0, 1] [4] (ref11_Tree_Inject_1_ok v881.Msg y836 _ hq882) wf rfl rfl rfl cb9 rfl rfl rfl rfl rfl rfl rfl rfl (sn (sd (by kernel_rfl) (t1 ([], false) (mv rfl) rfl (t1 ([], false) (mv rfl) rfl (t1 ([], false) (mv rfl) rfl (t1 ([], false) (ial rfl rfl un26 ts39 (getI_some hv884).1 (map_get (getI_some hv884).2) rfl) rfl (t1 ([], false) (fap rfl fo39_2 ts37 rfl) rfl (t1 ([], false) (fap rfl fo37_2 ts9 rfl) rfl (t1 ([], false) (lod rfl (ld_rop ts9 ta9 rfl)) rfl ?_)))))))))
          refine tq [0, 4] [5] ([0, 4, 5], true) (ref11_Tree_Get_ok v884.Msg.Key r883 _ hq885) wf rfl rfl rfl cb10 rfl rfl rfl rfl rfl rfl rfl rfl rfl (t1 ([3], false) (lod (v := .d (eApiEntry r880)) rfl (ld_box ts42 ta42 rfl rfl)) rfl (t1 ([], false) (bi (v := .d (eB (eqApiEntry r886 r880))) rfl rfl (fun X Y => eqApiEntry_eql_42 X Y r886 r880)) rfl (tn (by decide +kernel) (cB h3 rfl (fun h3 => ?_) (fun h3 => ?_)))))
          ·have q := si h3; subst q; have q : _ = _ := hv3; subst q; have q := si h1; subst q; have q := si h0; subst q
           exact sr (sa rfl (sn (SC.ret (finR (wc (e' := [(6, .d (eB false))]) [] [] (by kernel_rfl) rfl (by kernel_rfl)) (lresT rfl lresN) rfl))))
          ·refine SC.skip ?_
           change SC _ _ _ _ _
           have q := si h3; subst q
           exact SC.region (sm rfl (s1 (bi rfl rfl q_i64_add) (sa rfl (SO.nil (lf (wc [0, 4] [0] (by kernel_rfl) rfl (by kernel_rfl)))))))
       ·have q := si h3; subst q; have q : _ = _ := hv3; subst q; have q := si h1; subst q
        exact SC.exit (lf (wq rfl))
      ·rintro y810 h0
       refine sq (sr (sm rfl (s1 (nkr rfl) (s1 (far (k := 0) rfl fo33_0 ts31 rfl) (s1 (lod rfl (ld_box ts31 ta31 rfl rfl)) (s1 (len rfl rfl rfl (len_slc un31)) (sm rfl (s1 (len rfl rfl rfl (len_lst un22)) (s1 (bi rfl rfl q_i64_neq) ?_)))))))))
       refine sn (cB h0 rfl (fun h0 => ?_) (fun h0 => ?_))
       ·have q := si h0; subst q
        exact sr (sa rfl (sn (SC.ret (finR (wc (e' := [(6, .d (eB false))]) [] [] (by kernel_rfl) rfl (by kernel_rfl)) (lresT rfl lresN) rfl))))
       ·refine sk (SC.seqB h0 (fun y => ⟨mk 204 [], []⟩) ?_ ?_)
        ·intro u1_923 h1 h0
         obtain ⟨u2_947, h2, h1⟩ := ob h1
         refine sr (sa rfl (sn (SC.blk (SC.loopB h2 (fun y => ⟨mk 204 [(2, .d ((eL 2 eApiPair) p2)), (11, .ref 0 0 0), (15, .d (eI y))], [.box (.agg [.slc 1 6 0 y810.length none]), .row 6 (List.map eApiEntry y810) true]⟩) (wq rfl) ?_))))
         intro n958
         rintro y934 w2_946 h3 hv3
         refine sq (sr (sm rfl (sm rfl (s1 (len rfl rfl rfl (len_lst un22)) (s1 (bi rfl rfl q_i64_lss) (sn (cB h3 rfl (fun h3 => ?_) (fun h3 => ?_))))))))
         ·refine sk (sq (SC.blk (SC.seqP h3 (fun y => ⟨mk 204 [(2, .d ((eL 2 eApiPair) p2)), (11, .ref 0 0 0), (15, .d (eI y934)), (203, .d (eB y))], [.box (.agg [.slc 1 6 0 y810.length none]), .row 6 (List.map eApiEntry y810) true]⟩) ?_ ?_)))
          ·intro u4_953 h4
           obtain ⟨v954, hv954, h4⟩ := ob h4; obtain ⟨v955, hv955, h4⟩ := ob h4
           refine SC.draws (by kernel_rfl) (t1 ([], false) (mv rfl) rfl (t1 ([], false) (nkr rfl) rfl (t1 ([], false) (far (k := 0) rfl fo33_0 ts31 rfl) rfl (t1 ([0], false) (lod rfl (ld_box ts31 ta31 rfl rfl)) rfl (t1 ([], false) (mv rfl) rfl (t1 ([], false) (iaz rfl rfl un31 ts42 (getI_lt hv954)) rfl (t1 ([], false) (far (k := 0) rfl fo42_0 ts9 rfl) rfl (t1 ([1], false) (lod rfl (ld_row ts9 ta9 rfl (map_get (getI_some hv954).2) rfl)) rfl (t1 ([], false) (mv rfl) rfl ?_)))))))))
           refine t1 ([], false) (mv rfl) rfl (t1 ([], false) (ial rfl rfl un22 ts25 (getI_some hv955).1 (map_get (getI_some hv955).2) rfl) rfl (t1 ([], false) (fap rfl fo25_0 ts9 rfl) rfl (t1 ([], false) (lod rfl (ld_rop ts9 ta9 rfl)) rfl (t1 ([], false) (bi rfl rfl q_str_neq) rfl (t1 ([], false) (mv rfl) rfl (tp h4 (fun h4 => ?_) (fun h4 => ?_)))))))
           ·have q := si h4; subst q
            refine jw rfl (jw rfl (jw rfl (jw rfl (jw rfl (jw rfl (jw rfl (jw rfl (jw rfl (jw rfl ?_)))))))))
            refine jw rfl (jw rfl (jw rfl (jw rfl (t1 ([], false) (pkt rfl rfl) rfl (ST.nil (And.intro (by decide +kernel) ?_))))))
            exact (wq rfl)
           ·obtain ⟨v956, hv956, h4⟩ := ob h4; obtain ⟨v957, hv957, h4⟩ := ob h4; have q := si h4; subst q
            refine u1 ([], false) (ww rfl) (mv rfl) rfl (u1 ([], false) (ww rfl) (nkr rfl) rfl (u1 ([], false) (ww rfl) (far (k := 0) rfl fo33_0 ts31 rfl) rfl (u1 ([0], false) (ww rfl) (lod rfl (ld_box ts31 ta31 rfl rfl)) rfl (u1 ([], false) (ww rfl) (mv rfl) rfl (u1 ([], false) (ww rfl) (iaz rfl rfl un31 ts42 (getI_lt hv956)) rfl (u1 ([], false) (ww rfl) (far (k := 2) rfl fo42_2 ts9 rfl) rfl (u1 ([1], false) (ww rfl) (lod rfl (ld_row ts9 ta9 rfl (map_get (getI_some hv956).2) rfl)) rfl (u1 ([], false) (ww rfl) (mv rfl) rfl (u1 ([], false) (ww rfl) (mv rfl) rfl ?_)))))))))
            refine u1 ([], false) (ww rfl) (ial rfl rfl un22 ts25 (getI_some hv957).1 (map_get (getI_some hv957).2) rfl) rfl (u1 ([], false) (ww rfl) (fap rfl fo25_1 ts9 rfl) rfl (u1 ([], false) (ww rfl) (lod rfl (ld_rop ts9 ta9 rfl)) rfl (u1 ([], false) (ww rfl) (bi rfl rfl q_str_neq) rfl (t1 ([], false) (pkf rfl rfl) rfl (ST.nil (And.intro (by decide +kernel) ?_))))))
            exact (wq rfl)
          ·rintro y952 h3
           refine cB h3 rfl (fun h3 => ?_) (fun h3 => ?_)
           ·have q := si h3; subst q; have q : _ = _ := hv3; subst q; have q := si h1; subst q; have q := si h0; subst q
            exact sr (sa rfl (sn (SC.ret (finR (wc (e' := [(6, .d (eB false))]) [] [] (by kernel_rfl) rfl (by kernel_rfl)) (lresT rfl lresN) rfl))))
           ·refine SC.skip ?_
            change SC _ _ _ _ _
            have q := si h3; subst q
            exact SC.region (sm rfl (s1 (bi rfl rfl q_i64_add) (sa rfl (SO.nil (lf (wq rfl))))))
         ·have q := si h3; subst q; have q : _ = _ := hv3; subst q; have q := si h1; subst q
          exact SC.exit (lf (wc [] [] (by kernel_rfl) rfl (by kernel_rfl)))
        ·intro _ h0
         have q := si h0; subst q
         exact sr (sa rfl (sn (SC.ret (finR (Wk.refl _) (lresT rfl lresN) rfl))))
end Lv
