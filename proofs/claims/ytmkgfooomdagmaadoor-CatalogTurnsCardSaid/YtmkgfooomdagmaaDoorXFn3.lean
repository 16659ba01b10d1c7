/- Part of the proof of a law: functions and their walks. -/
import Derived.Test.YtmkgfooomdagmaaDoorXFn2
namespace Lv
open Go Go.Proofs
set_option linter.unusedVariables false
set_option linter.unusedSimpArgs false
set_option linter.unusedSectionVars false
set_option maxRecDepth 100000
variable [BaseTab] [TabOk]
noncomputable def law18_CatalogTurns (p0 : List ApiTable) (p1 : List ApiTable) : Option Bool :=
 Option.bind law18_awake fun r1067 =>
 bif (!r1067) then
 some false
 else
 Option.bind (α := (List ApiPair))
 (Option.bind (α := (List ApiPair))
 (loop (Y := (List ApiPair) × Int) (W := (List ApiPair)) (fun (y1165, y1166) =>
 Option.bind (α := Bool)
 (bif (decide (y1166 < (p0.length : Int))) then
 some (decide (y1166 < (8 : Int)))
 else
 some false)
 fun y1197 =>
 bif y1197 then
 Option.bind (α := (List ApiPair))
 (Option.bind (getI p0 y1166) fun v1212 =>
 Option.bind (catalog_Pairs v1212) fun (r1214, r1215) =>
 Option.bind (α := Bool)
 (bif (r1215 == (0 : Int)) then
 bif (y1166 == (0 : Int)) then
 some true
 else
 Option.bind (getI p0 (w64 (y1166 - (1 : Int)))) fun v1220 =>
 Option.bind (getI p0 y1166) fun v1221 =>
 some (ltS v1220.Name v1221.Name)
 else
 some false)
 fun y1218 =>
 bif y1218 then
 bif decide ((y1165.length + r1214.length) * 32 ≤ room) then
 some (y1165 ++ r1214)
 else none
 else
 some y1165)
 fun y1210 =>
 some (Sum.inl (y1210, (w64 (y1166 + (1 : Int)))))
 else
 some (Sum.inr y1165)) (([] : List ApiPair), (0 : Int)))
 (fun e => some e))
 fun y1145 =>
 Option.bind (α := (List ApiPair))
 (Option.bind (α := (List ApiPair))
 (loop (Y := (List ApiPair) × Int) (W := (List ApiPair)) (fun (y1321, y1322) =>
 Option.bind (α := Bool)
 (bif (decide (y1322 < (p1.length : Int))) then
 some (decide (y1322 < (8 : Int)))
 else
 some false)
 fun y1353 =>
 bif y1353 then
 Option.bind (α := (List ApiPair))
 (Option.bind (getI p1 y1322) fun v1368 =>
 Option.bind (catalog_Pairs v1368) fun (r1370, r1371) =>
 Option.bind (α := Bool)
 (bif (r1371 == (0 : Int)) then
 bif (y1322 == (0 : Int)) then
 some true
 else
 Option.bind (getI p1 (w64 (y1322 - (1 : Int)))) fun v1376 =>
 Option.bind (getI p1 y1322) fun v1377 =>
 some (ltS v1376.Name v1377.Name)
 else
 some false)
 fun y1374 =>
 bif y1374 then
 bif decide ((y1321.length + r1370.length) * 32 ≤ room) then
 some (y1321 ++ r1370)
 else none
 else
 some y1321)
 fun y1366 =>
 some (Sum.inl (y1366, (w64 (y1322 + (1 : Int)))))
 else
 some (Sum.inr y1321)) (([] : List ApiPair), (0 : Int)))
 (fun e => some e))
 fun y1301 =>
 bindE (Y := Unit) (E := Bool)
 (Option.bind (α := Unit ⊕ Bool)
 (loop (Y := Int) (W := Unit ⊕ Bool) (fun y1394 =>
 bif (decide (y1394 < (y1145.length : Int))) then
 Option.bind (getI y1145 (w64 (y1394 - (1 : Int)))) fun v1400 =>
 Option.bind (getI y1145 y1394) fun v1401 =>
 bif (!(ltS v1400.Key v1401.Key)) then
 some (Sum.inr (Sum.inr true))
 else
 some (Sum.inl (w64 (y1394 + (1 : Int))))
 else
 some (Sum.inr (Sum.inl ()))) (1 : Int))
 (Sum.elim (fun e => some (Sum.inl e)) (fun e => some (Sum.inr e))))
 (fun _ =>
 bindE (Y := Unit) (E := Bool)
 (Option.bind (α := Unit ⊕ Bool)
 (loop (Y := Int) (W := Unit ⊕ Bool) (fun y1417 =>
 bif (decide (y1417 < (y1301.length : Int))) then
 Option.bind (getI y1301 (w64 (y1417 - (1 : Int)))) fun v1423 =>
 Option.bind (getI y1301 y1417) fun v1424 =>
 bif (!(ltS v1423.Key v1424.Key)) then
 some (Sum.inr (Sum.inr true))
 else
 some (Sum.inl (w64 (y1417 + (1 : Int))))
 else
 some (Sum.inr (Sum.inl ()))) (1 : Int))
 (Sum.elim (fun e => some (Sum.inl e)) (fun e => some (Sum.inr e))))
 (fun _ =>
 Option.bind (catalog_Ops (1 : Int) y1145 y1301) fun r1427 =>
 Option.bind (catalog_Ops (1 : Int) y1301 y1145) fun r1429 =>
 Option.bind (α := Bool)
 (bif ((r1427.length : Int) != (r1429.length : Int)) then
 some true
 else
 Option.bind (catalog_Ops (1 : Int) y1145 y1145) fun r1435 =>
 some ((r1435.length : Int) != (0 : Int)))
 fun y1432 =>
 bif y1432 then
 some false
 else
 Option.bind (α := (List ApiEntry))
 (Option.bind (α := (List ApiEntry))
 (loop (Y := Int × (List ApiEntry)) (W := (List ApiEntry)) (fun (y1461, y1462) =>
 bif (decide (y1461 < (y1145.length : Int))) then
 Option.bind (getI y1145 y1461) fun v1471 =>
 Option.bind (getI y1145 y1461) fun v1472 =>
 Option.bind (ref11_Tree_Inject_1 (ApiMsg.mk (0 : UInt64) (1 : Int) v1471.Key (0 : UInt64) v1472.Val (0 : Int) (0 : UInt64)) y1462) fun r1474 =>
 some (Sum.inl ((w64 (y1461 + (1 : Int))), r1474))
 else
 some (Sum.inr y1462)) ((0 : Int), ([] : List ApiEntry)))
 (fun e => some e))
 fun y1455 =>
 bindE (Y := (List ApiEntry)) (E := Bool)
 (Option.bind (α := ((List ApiEntry)) ⊕ Bool)
 (loop (Y := Int × (List ApiEntry)) (W := ((List ApiEntry)) ⊕ Bool) (fun (y1529, y1530) =>
 bif (decide (y1529 < (r1427.length : Int))) then
 Option.bind (α := Bool)
 (Option.bind (getI r1427 y1529) fun v1554 =>
 Option.bind (getI r1429 y1529) fun v1555 =>
 bif (v1554.Msg.Key != v1555.Msg.Key) then
 some true
 else
 bif (decide (y1529 > (0 : Int))) then
 Option.bind (getI r1427 (w64 (y1529 - (1 : Int)))) fun v1556 =>
 Option.bind (getI r1427 y1529) fun v1557 =>
 some (!(ltS v1556.Msg.Key v1557.Msg.Key))
 else
 some false)
 fun y1552 =>
 bif y1552 then
 some (Sum.inr (Sum.inr false))
 else
 Option.bind (getI r1427 y1529) fun v1558 =>
 Option.bind (ref11_Tree_Inject_1 v1558.Msg y1530) fun r1560 =>
 some (Sum.inl ((w64 (y1529 + (1 : Int))), r1560))
 else
 some (Sum.inr (Sum.inl y1530))) ((0 : Int), y1455))
 (Sum.elim (fun e => some (Sum.inl e)) (fun e => some (Sum.inr e))))
 (fun y1518 =>
 Option.bind (α := (List ApiEntry))
 (Option.bind (α := (List ApiEntry))
 (loop (Y := Int × (List ApiEntry)) (W := (List ApiEntry)) (fun (y1583, y1584) =>
 bif (decide (y1583 < (r1429.length : Int))) then
 Option.bind (getI r1429 y1583) fun v1592 =>
 Option.bind (ref11_Tree_Inject_1 v1592.Msg y1584) fun r1594 =>
 some (Sum.inl ((w64 (y1583 + (1 : Int))), r1594))
 else
 some (Sum.inr y1584)) ((0 : Int), y1518))
 (fun e => some e))
 fun y1578 =>
 Option.bind (raw_Entries y1578 y1455) fun r1597 =>
 some r1597)
 (fun e => some e))
 (fun e => some e))
 (fun e => some e)
theorem law18_CatalogTurns_ok (p0 : List ApiTable) (p1 : List ApiTable) (r : Bool) (h0 : law18_CatalogTurns p0 p1 = some r) : CallAt Tryd.prog 5 [.d ((eL 5 eApiTable) p0), .d ((eL 5 eApiTable) p1)] [] (.d (eB r)) [] := by
 unfold law18_CatalogTurns at h0
 refine fn0 [0, 1] Tryd.func5 rfl rfl rfl rfl rfl ?_
 obtain ⟨r1067, hq1066, h0⟩ := ob h0
 refine sr (sa rfl (sn (sq (sr (c0 (law18_awake_ok _ hq1066) wf rfl rfl rfl cb6 rfl (fun _ => rfl) (fun _ => rfl) (s1 (nt rfl) (sn (cB h0 rfl (fun h0 => ?_) (fun h0 => ?_)))))))))
 ·have q := si h0; subst q
  exact sr (sa rfl (sn (SC.ret (finR (Wk.refl _) (lresT rfl lresN) rfl))))
 ·refine sk (sr (s1 (asg (v := .d .nils) rfl) (s1 (asg (v := .d .nils) rfl) (sn (SC.seqP h0 (fun y => ⟨mk 250 [(1, .d ((eL 5 eApiTable) p1)), (5, .slc 0 2 0 y.length none), (6, .d .nils)], [.row 2 (List.map eApiPair y) true]⟩) ?_ ?_)))))
  ·intro u1_1146 h1
   obtain ⟨u2_1196, h2, h1⟩ := ob h1
   refine sr (sa rfl (sn (SC.blk (SC.loopB h2 (fun y => ⟨mk 250 [(0, .d ((eL 5 eApiTable) p0)), (1, .d ((eL 5 eApiTable) p1)), (5, .slc 0 2 0 y.1.length none), (6, .d .nils), (7, .d (eI y.2))], [.row 2 (List.map eApiPair y.1) true]⟩) (Wk.trans (Wk.pushE (σ' := [.row 2 (List.map eApiPair ([] : List ApiPair)) true]) (.row 2 [] true) (fun _ hh => by cases hh) rfl) (Wk.trans (Wk.env (e' := [(0, .d ((eL 5 eApiTable) p0)), (1, .d ((eL 5 eApiTable) p1)), (5, .slc 0 2 0 (([] : List ApiPair).length) none), (6, .d .nils), (7, .d (eI (0 : Int)))]) (EW.cons (AW.refl _) (EW.cons (AW.refl _) (EW.cons (AW.slcn _ _ _) (EW.cons (AW.refl _) (EW.cons (AW.refl _) EW.nil)))))) (wq rfl))) ?_))))
   intro n1223
   rintro ⟨y1165, y1166⟩ w2_1195 h3 hv3
   refine sq (SC.seqP h3 (fun y => ⟨mk 250 [(0, .d ((eL 5 eApiTable) p0)), (1, .d ((eL 5 eApiTable) p1)), (5, .slc 0 2 0 y1165.length none), (6, .d .nils), (7, .d (eI y1166)), (31, .d (eB y))], [.row 2 (List.map eApiPair y1165) true]⟩) ?_ ?_)
   ·intro u4_1198 h4
    refine SC.region (sm rfl (sm rfl (s1 (len rfl rfl rfl (len_lst un45)) (s1 (bi rfl rfl q_i64_lss) (sm rfl (sp h4 (fun h4 => ?_) (fun h4 => ?_)))))))
    ·have q := si h4; subst q
     exact gw rfl (mv rfl) (gw rfl (bi rfl rfl q_i64_lss) (s1 (pkt rfl rfl) (SO.nil ((wq rfl)))))
    ·have q := si h4; subst q
     exact kw rfl (kw rfl (s1 (pkf rfl rfl) (SO.nil ((wq rfl)))))
   ·rintro y1197 h3
    refine cB h3 rfl (fun h3 => ?_) (fun h3 => ?_)
    ·refine sk (SC.seqP h3 (fun y => ⟨mk 250 [(0, .d ((eL 5 eApiTable) p0)), (1, .d ((eL 5 eApiTable) p1)), (5, .slc 0 2 0 y.length none), (6, .d .nils), (7, .d (eI y1166))], [.row 2 (List.map eApiPair y) true]⟩) ?_ ?_)
     ·intro u4_1211 h4
      obtain ⟨v1212, hv1212, h4⟩ := ob h4; obtain ⟨⟨r1214, r1215⟩, hq1213, h4⟩ := ob h4
      refine SC.blk (sr (sm rfl (sm rfl (s1 (ial rfl rfl un45 ts53 (getI_some hv1212).1 (map_get (getI_some hv1212).2) rfl) (s1 (lod (v := .d (eApiTable v1212)) rfl (ld_rop ts53 ta53 rfl)) (c0 (catalog_Pairs_ok v1212 _ hq1213) wf rfl rfl rfl cb11 rfl (fun _ => rfl) (fun _ => rfl) (sm rfl (s1 (ext rfl rfl) (s1 (ext rfl rfl) ?_)))))))))
      refine sa rfl (sa rfl (sn (SC.seqP h4 (fun y => ⟨mk 250 [(0, .d ((eL 5 eApiTable) p0)), (1, .d ((eL 5 eApiTable) p1)), (5, .slc 0 2 0 y1165.length none), (6, .d .nils), (7, .d (eI y1166)), (8, .d ((eL 2 eApiPair) r1214)), (61, .d (eB y))], [.row 2 (List.map eApiPair y1165) true]⟩) ?_ ?_)))
      ·intro u5_1219 h5
       refine SC.draws (by kernel_rfl) (t1 ([], false) (mv rfl) rfl (t1 ([], false) (bi rfl rfl q_i64_eql) rfl (t1 ([], false) (mv rfl) rfl (tp h5 (fun h5 => ?_) (fun h5 => ?_)))))
       ·refine u1 ([], false) (ww rfl) (mv rfl) rfl (u1 ([], false) (ww rfl) (bi rfl rfl q_i64_eql) rfl (u1 ([], false) (ww rfl) (mv rfl) rfl (tp h5 (fun h5 => ?_) (fun h5 => ?_))))
        ·have q := si h5; subst q
         refine jw rfl (jw rfl (jw rfl (jw rfl (jw rfl (jw rfl (jw rfl (jw rfl (jw rfl (jw rfl ?_)))))))))
         refine jw rfl (jw rfl (u1 ([], false) (ww rfl) (pkt rfl rfl) rfl (t1 ([], false) (pkt rfl rfl) rfl (ST.nil (And.intro (by decide +kernel) ?_)))))
         exact (wq rfl)
        ·obtain ⟨v1220, hv1220, h5⟩ := ob h5; obtain ⟨v1221, hv1221, h5⟩ := ob h5; have q := si h5; subst q
         refine u1 ([], false) (ww rfl) (mv rfl) rfl (u1 ([], false) (ww rfl) (mv rfl) rfl (u1 ([], false) (ww rfl) (bi rfl rfl q_i64_sub) rfl (u1 ([], false) (ww rfl) (ial rfl rfl un45 ts53 (getI_some hv1220).1 (map_get (getI_some hv1220).2) rfl) rfl (u1 ([], false) (ww rfl) (fap rfl fo53_0 ts9 rfl) rfl (u1 ([], false) (ww rfl) (lod rfl (ld_rop ts9 ta9 rfl)) rfl (u1 ([], false) (ww rfl) (mv rfl) rfl (u1 ([], false) (ww rfl) (mv rfl) rfl (u1 ([], false) (ww rfl) (ial rfl rfl un45 ts53 (getI_some hv1221).1 (map_get (getI_some hv1221).2) rfl) rfl (u1 ([], false) (ww rfl) (fap rfl fo53_0 ts9 rfl) rfl ?_)))))))))
         refine u1 ([], false) (ww rfl) (lod rfl (ld_rop ts9 ta9 rfl)) rfl (u1 ([], false) (ww rfl) (bi rfl rfl q_str_lss) rfl (u1 ([], false) (ww rfl) (pkf rfl rfl) rfl (t1 ([], false) (pkt rfl rfl) rfl (ST.nil (And.intro (by decide +kernel) ?_)))))
         exact (wq rfl)
       ·have q := si h5; subst q
        refine jw rfl (jw rfl (jw rfl (jw rfl (jw rfl (jw rfl (jw rfl (jw rfl (jw rfl (jw rfl ?_)))))))))
        refine jw rfl (jw rfl (jw rfl (jw rfl (jw rfl (jw rfl (t1 ([], false) (pkf rfl rfl) rfl (ST.nil (And.intro (by decide +kernel) ?_))))))))
        exact (wq rfl)
      ·rintro y1218 h4
       refine cB h4 rfl (fun h4 => ?_) (fun h4 => ?_)
       ·obtain ⟨hg1222, h4⟩ := gd h4; have q := si h4; subst q
        exact SC.region (sm rfl (sm rfl (s1 (app rfl rfl rfl rfl bc22 (aF (f := eApiPair) (xs := y1165) (k := 1) rfl un22 ei25 rfl el_lst hg1222 rfl)) (sa rfl (SO.nil ((wc [1] [1] (by kernel_rfl) rfl (by kernel_rfl))))))))
       ·have q := si h4; subst q
        exact SC.skip ((wq rfl))
     ·rintro y1210 h3
      have q := si h3; subst q
      exact SC.region (sm rfl (s1 (bi rfl rfl q_i64_add) (sa rfl (SO.nil (lf (wq rfl))))))
    ·have q := si h3; subst q; have q : _ = _ := hv3; subst q; have q := si h1; subst q
     exact SC.exit ((wq rfl))
  ·rintro y1145 h0
   refine SC.seqP h0 (fun y => ⟨mk 250 [(5, .slc 0 2 0 y1145.length none), (6, .slc 1 2 0 y.length none)], [.row 2 (List.map eApiPair y1145) true, .row 2 (List.map eApiPair y) true]⟩) ?_ ?_
   ·intro u1_1302 h1
    obtain ⟨u2_1352, h2, h1⟩ := ob h1
    refine sr (sa rfl (sn (SC.blk (SC.loopB h2 (fun y => ⟨mk 250 [(1, .d ((eL 5 eApiTable) p1)), (5, .slc 0 2 0 y1145.length none), (6, .slc 1 2 0 y.1.length none), (10, .d (eI y.2))], [.row 2 (List.map eApiPair y1145) true, .row 2 (List.map eApiPair y.1) true]⟩) (Wk.trans (Wk.pushE (σ' := [.row 2 (List.map eApiPair y1145) true, .row 2 (List.map eApiPair ([] : List ApiPair)) true]) (.row 2 [] true) (fun _ hh => by cases hh) rfl) (Wk.trans (Wk.env (e' := [(1, .d ((eL 5 eApiTable) p1)), (5, .slc 0 2 0 y1145.length none), (6, .slc 1 2 0 (([] : List ApiPair).length) none), (10, .d (eI (0 : Int)))]) (EW.cons (AW.refl _) (EW.cons (AW.refl _) (EW.cons (AW.slcn _ _ _) (EW.cons (AW.refl _) EW.nil))))) (wq rfl))) ?_))))
    intro n1379
    rintro ⟨y1321, y1322⟩ w2_1351 h3 hv3
    refine sq (SC.seqP h3 (fun y => ⟨mk 250 [(1, .d ((eL 5 eApiTable) p1)), (5, .slc 0 2 0 y1145.length none), (6, .slc 1 2 0 y1321.length none), (10, .d (eI y1322)), (72, .d (eB y))], [.row 2 (List.map eApiPair y1145) true, .row 2 (List.map eApiPair y1321) true]⟩) ?_ ?_)
    ·intro u4_1354 h4
     refine SC.region (sm rfl (sm rfl (s1 (len rfl rfl rfl (len_lst un45)) (s1 (bi rfl rfl q_i64_lss) (sm rfl (sp h4 (fun h4 => ?_) (fun h4 => ?_)))))))
     ·have q := si h4; subst q
      exact gw rfl (mv rfl) (gw rfl (bi rfl rfl q_i64_lss) (s1 (pkt rfl rfl) (SO.nil ((wq rfl)))))
     ·have q := si h4; subst q
      exact kw rfl (kw rfl (s1 (pkf rfl rfl) (SO.nil ((wq rfl)))))
    ·rintro y1353 h3
     refine cB h3 rfl (fun h3 => ?_) (fun h3 => ?_)
     ·refine sk (SC.seqP h3 (fun y => ⟨mk 250 [(1, .d ((eL 5 eApiTable) p1)), (5, .slc 0 2 0 y1145.length none), (6, .slc 1 2 0 y.length none), (10, .d (eI y1322))], [.row 2 (List.map eApiPair y1145) true, .row 2 (List.map eApiPair y) true]⟩) ?_ ?_)
      ·intro u4_1367 h4
       obtain ⟨v1368, hv1368, h4⟩ := ob h4; obtain ⟨⟨r1370, r1371⟩, hq1369, h4⟩ := ob h4
       refine SC.blk (sr (sm rfl (sm rfl (s1 (ial rfl rfl un45 ts53 (getI_some hv1368).1 (map_get (getI_some hv1368).2) rfl) (s1 (lod (v := .d (eApiTable v1368)) rfl (ld_rop ts53 ta53 rfl)) (c0 (catalog_Pairs_ok v1368 _ hq1369) wf rfl rfl rfl cb11 rfl (fun _ => rfl) (fun _ => rfl) (sm rfl (s1 (ext rfl rfl) (s1 (ext rfl rfl) ?_)))))))))
       refine sa rfl (sa rfl (sn (SC.seqP h4 (fun y => ⟨mk 250 [(1, .d ((eL 5 eApiTable) p1)), (5, .slc 0 2 0 y1145.length none), (6, .slc 1 2 0 y1321.length none), (10, .d (eI y1322)), (11, .d ((eL 2 eApiPair) r1370)), (102, .d (eB y))], [.row 2 (List.map eApiPair y1145) true, .row 2 (List.map eApiPair y1321) true]⟩) ?_ ?_)))
       ·intro u5_1375 h5
        refine SC.draws (by kernel_rfl) (t1 ([], false) (mv rfl) rfl (t1 ([], false) (bi rfl rfl q_i64_eql) rfl (t1 ([], false) (mv rfl) rfl (tp h5 (fun h5 => ?_) (fun h5 => ?_)))))
        ·refine u1 ([], false) (ww rfl) (mv rfl) rfl (u1 ([], false) (ww rfl) (bi rfl rfl q_i64_eql) rfl (u1 ([], false) (ww rfl) (mv rfl) rfl (tp h5 (fun h5 => ?_) (fun h5 => ?_))))
         ·have q := si h5; subst q
          refine jw rfl (jw rfl (jw rfl (jw rfl (jw rfl (jw rfl (jw rfl (jw rfl (jw rfl (jw rfl ?_)))))))))
          refine jw rfl (jw rfl (u1 ([], false) (ww rfl) (pkt rfl rfl) rfl (t1 ([], false) (pkt rfl rfl) rfl (ST.nil (And.intro (by decide +kernel) ?_)))))
          exact (wq rfl)
         ·obtain ⟨v1376, hv1376, h5⟩ := ob h5; obtain ⟨v1377, hv1377, h5⟩ := ob h5; have q := si h5; subst q
          refine u1 ([], false) (ww rfl) (mv rfl) rfl (u1 ([], false) (ww rfl) (mv rfl) rfl (u1 ([], false) (ww rfl) (bi rfl rfl q_i64_sub) rfl (u1 ([], false) (ww rfl) (ial rfl rfl un45 ts53 (getI_some hv1376).1 (map_get (getI_some hv1376).2) rfl) rfl (u1 ([], false) (ww rfl) (fap rfl fo53_0 ts9 rfl) rfl (u1 ([], false) (ww rfl) (lod rfl (ld_rop ts9 ta9 rfl)) rfl (u1 ([], false) (ww rfl) (mv rfl) rfl (u1 ([], false) (ww rfl) (mv rfl) rfl (u1 ([], false) (ww rfl) (ial rfl rfl un45 ts53 (getI_some hv1377).1 (map_get (getI_some hv1377).2) rfl) rfl (u1 ([], false) (ww rfl) (fap rfl fo53_0 ts9 rfl) rfl ?_)))))))))
          refine u1 ([], false) (ww rfl) (lod rfl (ld_rop ts9 ta9 rfl)) rfl (u1 ([], false) (ww rfl) (bi rfl rfl q_str_lss) rfl (u1 ([], false) (ww rfl) (pkf rfl rfl) rfl (t1 ([], false) (pkt rfl rfl) rfl (ST.nil (And.intro (by decide +kernel) ?_)))))
          exact (wq rfl)
        ·have q := si h5; subst q
         refine jw rfl (jw rfl (jw rfl (jw rfl (jw rfl (jw rfl (jw rfl (jw rfl (jw rfl (jw rfl ?_)))))))))
         refine jw rfl (jw rfl (jw rfl (jw rfl (jw rfl (jw rfl (t1 ([], false) (pkf rfl rfl) rfl (ST.nil (And.intro (by decide +kernel) ?_))))))))
         exact (wq rfl)
       ·rintro y1374 h4
        refine cB h4 rfl (fun h4 => ?_) (fun h4 => ?_)
        ·obtain ⟨hg1378, h4⟩ := gd h4; have q := si h4; subst q
         exact SC.region (sm rfl (sm rfl (s1 (app rfl rfl rfl rfl bc22 (aF (f := eApiPair) (xs := y1321) (k := 2) rfl un22 ei25 rfl el_lst hg1378 rfl)) (sa rfl (SO.nil ((wc [0, 2] [0, 2] (by kernel_rfl) rfl (by kernel_rfl))))))))
        ·have q := si h4; subst q
         exact SC.skip ((wq rfl))
      ·rintro y1366 h3
       have q := si h3; subst q
       exact SC.region (sm rfl (s1 (bi rfl rfl q_i64_add) (sa rfl (SO.nil (lf (wq rfl))))))
     ·have q := si h3; subst q; have q : _ = _ := hv3; subst q; have q := si h1; subst q
      exact SC.exit ((wq rfl))
   ·rintro y1301 h0
    refine SC.seqB h0 (fun y => ⟨mk 250 [(5, .slc 0 2 0 y1145.length none), (6, .slc 1 2 0 y1301.length none)], [.row 2 (List.map eApiPair y1145) true, .row 2 (List.map eApiPair y1301) true]⟩) ?_ ?_
    ·intro u1_1391 h1 h0
     obtain ⟨u2_1399, h2, h1⟩ := ob h1
     refine sr (sa rfl (sn (SC.blk (SC.loopB h2 (fun y => ⟨mk 250 [(5, .slc 0 2 0 y1145.length none), (6, .slc 1 2 0 y1301.length none), (13, .d (eI y))], [.row 2 (List.map eApiPair y1145) true, .row 2 (List.map eApiPair y1301) true]⟩) (wq rfl) ?_))))
     intro n1402
     rintro y1394 w2_1398 h3 hv3
     refine sq (sr (sm rfl (sm rfl (s1 (len rfl rfl rfl (len_slc un22)) (s1 (bi rfl rfl q_i64_lss) (sn (cB h3 rfl (fun h3 => ?_) (fun h3 => ?_))))))))
     ·obtain ⟨v1400, hv1400, h3⟩ := ob h3; obtain ⟨v1401, hv1401, h3⟩ := ob h3
      refine sk (sq (SC.blk (sd (by kernel_rfl) (t1 ([], false) (mv rfl) rfl (t1 ([], false) (mv rfl) rfl (t1 ([], false) (bi rfl rfl q_i64_sub) rfl (t1 ([], false) (iaz rfl rfl un22 ts25 (getI_lt hv1400)) rfl (t1 ([], false) (far (k := 0) rfl fo25_0 ts9 rfl) rfl (t1 ([0], false) (lod rfl (ld_row ts9 ta9 rfl (map_get (getI_some hv1400).2) rfl)) rfl ?_)))))))))
      refine t1 ([], false) (mv rfl) rfl (t1 ([], false) (mv rfl) rfl (t1 ([], false) (iaz rfl rfl un22 ts25 (getI_lt hv1401)) rfl (t1 ([], false) (far (k := 0) rfl fo25_0 ts9 rfl) rfl (t1 ([0], false) (lod rfl (ld_row ts9 ta9 rfl (map_get (getI_some hv1401).2) rfl)) rfl (t1 ([], false) (bi rfl rfl q_str_geq) rfl (tn (by decide +kernel) (cB h3 rfl (fun h3 => ?_) (fun h3 => ?_))))))))
      ·have q := si h3; subst q; have q : _ = _ := hv3; subst q; have q := si h1; subst q; have q := si h0; subst q
       exact sr (sa rfl (sn (SC.ret (finR (wc (e' := [(4, .d (eB true))]) [] [] (by kernel_rfl) rfl (by kernel_rfl)) (lresT rfl lresN) rfl))))
      ·refine SC.skip ?_
       change SC _ _ _ _ _
       have q := si h3; subst q
       exact SC.region (sm rfl (s1 (bi rfl rfl q_i64_add) (sa rfl (SO.nil (lf (wq rfl))))))
     ·have q := si h3; subst q; have q : _ = _ := hv3; subst q; have q := si h1; subst q
      exact SC.exit (lf (wq rfl))
    ·intro _ h0
     refine SC.seqB h0 (fun y => ⟨mk 250 [(5, .slc 0 2 0 y1145.length none), (6, .slc 1 2 0 y1301.length none)], [.row 2 (List.map eApiPair y1145) true, .row 2 (List.map eApiPair y1301) true]⟩) ?_ ?_
     ·intro u1_1414 h1 h0
      obtain ⟨u2_1422, h2, h1⟩ := ob h1
      refine sr (sa rfl (sn (SC.blk (SC.loopB h2 (fun y => ⟨mk 250 [(5, .slc 0 2 0 y1145.length none), (6, .slc 1 2 0 y1301.length none), (14, .d (eI y))], [.row 2 (List.map eApiPair y1145) true, .row 2 (List.map eApiPair y1301) true]⟩) (wq rfl) ?_))))
      intro n1425
      rintro y1417 w2_1421 h3 hv3
      refine sq (sr (sm rfl (sm rfl (s1 (len rfl rfl rfl (len_slc un22)) (s1 (bi rfl rfl q_i64_lss) (sn (cB h3 rfl (fun h3 => ?_) (fun h3 => ?_))))))))
      ·obtain ⟨v1423, hv1423, h3⟩ := ob h3; obtain ⟨v1424, hv1424, h3⟩ := ob h3
       refine sk (sq (SC.blk (sd (by kernel_rfl) (t1 ([], false) (mv rfl) rfl (t1 ([], false) (mv rfl) rfl (t1 ([], false) (bi rfl rfl q_i64_sub) rfl (t1 ([], false) (iaz rfl rfl un22 ts25 (getI_lt hv1423)) rfl (t1 ([], false) (far (k := 0) rfl fo25_0 ts9 rfl) rfl (t1 ([1], false) (lod rfl (ld_row ts9 ta9 rfl (map_get (getI_some hv1423).2) rfl)) rfl ?_)))))))))
       refine t1 ([], false) (mv rfl) rfl (t1 ([], false) (mv rfl) rfl (t1 ([], false) (iaz rfl rfl un22 ts25 (getI_lt hv1424)) rfl (t1 ([], false) (far (k := 0) rfl fo25_0 ts9 rfl) rfl (t1 ([1], false) (lod rfl (ld_row ts9 ta9 rfl (map_get (getI_some hv1424).2) rfl)) rfl (t1 ([], false) (bi rfl rfl q_str_geq) rfl (tn (by decide +kernel) (cB h3 rfl (fun h3 => ?_) (fun h3 => ?_))))))))
       ·have q := si h3; subst q; have q : _ = _ := hv3; subst q; have q := si h1; subst q; have q := si h0; subst q
        exact sr (sa rfl (sn (SC.ret (finR (wc (e' := [(4, .d (eB true))]) [] [] (by kernel_rfl) rfl (by kernel_rfl)) (lresT rfl lresN) rfl))))
       ·refine SC.skip ?_
        change SC _ _ _ _ _
        have q := si h3; subst q
        exact SC.region (sm rfl (s1 (bi rfl rfl q_i64_add) (sa rfl (SO.nil (lf (wq rfl))))))
      ·have q := si h3; subst q; have q : _ = _ := hv3; subst q; have q := si h1; subst q
       exact SC.exit (lf (wq rfl))
     ·intro _ h0
      obtain ⟨r1427, hq1426, h0⟩ := ob h0; obtain ⟨r1429, hq1428, h0⟩ := ob h0
      refine sr (sm rfl (sm rfl (cq (args' := [.d (eI (1 : Int)), .slc 0 2 0 y1145.length none, .slc 1 2 0 y1301.length none]) (σc := [.row 2 (List.map eApiPair y1145) true, .row 2 (List.map eApiPair y1301) true]) [0, 1] [] (CallAt.frz (ArgF.keep (ArgF.frz (fF rfl rfl rfl) (ArgF.frz (fF rfl rfl rfl) (ArgF.nil _)))) (fq [] [] (catalog_Ops_ok (1 : Int) y1145 y1301 _ hq1426) rfl rfl rfl rfl rfl rfl rfl rfl)) wf rfl rfl rfl cb7 rfl rfl rfl rfl rfl rfl rfl rfl (sa rfl (sn (sr (sm rfl (sm rfl (cq (args' := [.d (eI (1 : Int)), .slc 0 2 0 y1301.length none, .slc 1 2 0 y1145.length none]) (σc := [.row 2 (List.map eApiPair y1301) false, .row 2 (List.map eApiPair y1145) false]) [1, 0] [] (CallAt.frz (ArgF.keep (ArgF.frz (fF rfl rfl rfl) (ArgF.frz (fF rfl rfl rfl) (ArgF.nil _)))) (fq [] [] (catalog_Ops_ok (1 : Int) y1301 y1145 _ hq1428) rfl rfl rfl rfl rfl rfl rfl rfl)) wf rfl rfl rfl cb7 rfl rfl rfl rfl rfl rfl rfl rfl ?_)))))))))
      refine sa rfl (sn (sq (SC.seqP h0 (fun y => ⟨mk 250 [(5, .slc 0 2 0 y1145.length none), (15, .d ((eL 9 eForestOp) r1427)), (16, .d ((eL 9 eForestOp) r1429)), (159, .d (eB y))], [.row 2 (List.map eApiPair y1145) false]⟩) ?_ ?_)))
      ·intro u1_1433 h1
       refine SC.region (sm rfl (s1 (len rfl rfl rfl (len_lst un26)) (sm rfl (s1 (len rfl rfl rfl (len_lst un26)) (s1 (bi rfl rfl q_i64_neq) (sm rfl (sp h1 (fun h1 => ?_) (fun h1 => ?_))))))))
       ·have q := si h1; subst q
        exact kw rfl (kw rfl (kw rfl (kw rfl (kw rfl (s1 (pkt rfl rfl) (SO.nil ((wc [0] [0] (by kernel_rfl) rfl (by kernel_rfl)))))))))
       ·obtain ⟨r1435, hq1434, h1⟩ := ob h1; have q := si h1; subst q
        exact gw rfl (mv rfl) (gw rfl (mv rfl) (cq (args' := [.d (eI (1 : Int)), .slc 0 2 0 y1145.length none, .slc 0 2 0 y1145.length none]) (σc := [.row 2 (List.map eApiPair y1145) false]) [0] [] (CallAt.frz (ArgF.keep (ArgF.frz (fF rfl rfl rfl) (ArgF.frz (fF rfl rfl rfl) (ArgF.nil _)))) (fq [] [] (catalog_Ops_ok (1 : Int) y1145 y1145 _ hq1434) rfl rfl rfl rfl rfl rfl rfl rfl)) (ww rfl) rfl rfl rfl cb7 rfl rfl rfl rfl rfl rfl rfl rfl (gw rfl (len rfl rfl rfl (len_lst un26)) (gw rfl (bi rfl rfl q_i64_neq) (s1 (pkf rfl rfl) (SO.nil ((wc [0] [0] (by kernel_rfl) rfl (by kernel_rfl)))))))))
      ·rintro y1432 h0
       refine cB h0 rfl (fun h0 => ?_) (fun h0 => ?_)
       ·have q := si h0; subst q
        exact sr (sa rfl (sn (SC.ret (finR (wc (e' := [(4, .d (eB false))]) [] [] (by kernel_rfl) rfl (by kernel_rfl)) (lresT rfl lresN) rfl))))
       ·refine sk (sr (s1 (bld rfl (bd33_ )) (s1 (bxo (k := 1) rfl rfl rfl) (sa rfl (sn (SC.seqP h0 (fun y => ⟨mk 250 [(15, .d ((eL 9 eForestOp) r1427)), (16, .d ((eL 9 eForestOp) r1429)), (17, .ref 0 0 0)], [.box (.agg [.slc 1 6 0 y.length none]), .row 6 (List.map eApiEntry y) true]⟩) ?_ ?_))))))
        ·intro u1_1456 h1
         obtain ⟨u2_1470, h2, h1⟩ := ob h1
         refine sr (sa rfl (sn (SC.blk (SC.loopB h2 (fun y => ⟨mk 250 [(5, .slc 0 2 0 y1145.length none), (15, .d ((eL 9 eForestOp) r1427)), (16, .d ((eL 9 eForestOp) r1429)), (17, .ref 1 0 0), (18, .d (eI y.1))], [.row 2 (List.map eApiPair y1145) false, .box (.agg [.slc 2 6 0 y.2.length none]), .row 6 (List.map eApiEntry y.2) true]⟩) (Wk.trans (Wk.pushE (σ' := [.row 2 (List.map eApiPair y1145) false, .box (.d (.agg [.nils])), .row 6 (List.map eApiEntry ([] : List ApiEntry)) true]) (.row 6 [] true) (fun _ hh => by cases hh) rfl) (Wk.trans (Wk.boxE (id := 1) (y := .agg [.slc 2 6 0 (([] : List ApiEntry).length) none]) (σ' := [.row 2 (List.map eApiPair y1145) false, .box (.agg [.slc 2 6 0 (([] : List ApiEntry).length) none]), .row 6 (List.map eApiEntry ([] : List ApiEntry)) true]) rfl (AWs.cons (AW.slcn _ _ _) AWs.nil) rfl) (wq rfl))) ?_))))
         intro n1475
         rintro ⟨y1461, y1462⟩ w2_1469 h3 hv3
         refine sq (sr (sm rfl (sm rfl (s1 (len rfl rfl rfl (len_slc un22)) (s1 (bi rfl rfl q_i64_lss) (sn (cB h3 rfl (fun h3 => ?_) (fun h3 => ?_))))))))
         ·obtain ⟨v1471, hv1471, h3⟩ := ob h3; obtain ⟨v1472, hv1472, h3⟩ := ob h3; obtain ⟨r1474, hq1473, h3⟩ := ob h3
          refine sk (sq (SC.blk (SC.draws (by kernel_rfl) (t1 ([], false) (mv rfl) rfl (t1 ([], false) (mv rfl) rfl (t1 ([], false) (mv rfl) rfl (t1 ([], false) (iaz rfl rfl un22 ts25 (getI_lt hv1471)) rfl (t1 ([], false) (far (k := 0) rfl fo25_0 ts9 rfl) rfl (t1 ([0], false) (lod rfl (ld_row ts9 ta9 rfl (map_get (getI_some hv1471).2) rfl)) rfl ?_)))))))))
          refine t1 ([], false) (mv rfl) rfl (t1 ([], false) (mv rfl) rfl (t1 ([], false) (iaz rfl rfl un22 ts25 (getI_lt hv1472)) rfl (t1 ([], false) (far (k := 1) rfl fo25_1 ts9 rfl) rfl (t1 ([0], false) (lod rfl (ld_row ts9 ta9 rfl (map_get (getI_some hv1472).2) rfl)) rfl (t1 ([], false) (bld rfl (bd37_1_2_4 (1 : Int) v1471.Key v1472.Val)) rfl (tq [1, 2] [3] ([1, 2, 3], true) (ref11_Tree_Inject_1_ok (ApiMsg.mk (0 : UInt64) (1 : Int) v1471.Key (0 : UInt64) v1472.Val (0 : Int) (0 : UInt64)) y1462 _ hq1473) wf rfl rfl rfl cb9 rfl rfl rfl rfl rfl rfl rfl rfl rfl (ST.nil (And.intro (by decide +kernel) ?_))))))))
          change SC _ _ _ _ _
          have q := si h3; subst q
          exact SC.region (sm rfl (s1 (bi rfl rfl q_i64_add) (sa rfl (SO.nil (lf (wc [0, 1, 3] [0, 1] (by kernel_rfl) rfl (by kernel_rfl)))))))
         ·have q := si h3; subst q; have q : _ = _ := hv3; subst q; have q := si h1; subst q
          exact SC.exit ((wc [1, 2] [1] (by kernel_rfl) rfl (by kernel_rfl)))
        ·rintro y1455 h0
         refine sr (sm rfl (s1 (nkr rfl) (s1 (far (k := 0) rfl fo33_0 ts31 rfl) (s1 (lod rfl (ld_box ts31 ta31 rfl rfl)) (sa rfl (sn (SC.seqB h0 (fun y => ⟨mk 250 [(16, .d ((eL 9 eForestOp) r1429)), (17, .ref 0 0 0), (19, .d ((eL 6 eApiEntry) y1455))], [.box (.agg [.slc 1 6 0 y.length none]), .row 6 (List.map eApiEntry y) false]⟩) ?_ ?_)))))))
         ·intro u1_1519 h1 h0
          obtain ⟨u2_1547, h2, h1⟩ := ob h1
          refine sr (sa rfl (sn (SC.blk (SC.loopB h2 (fun y => ⟨mk 250 [(15, .d ((eL 9 eForestOp) r1427)), (16, .d ((eL 9 eForestOp) r1429)), (17, .ref 0 0 0), (19, .d ((eL 6 eApiEntry) y1455)), (20, .d (eI y.1))], [.box (.agg [.slc 1 6 0 y.2.length none]), .row 6 (List.map eApiEntry y.2) false]⟩) (Wk.trans (wq (e' := [(15, .d ((eL 9 eForestOp) r1427)), (16, .d ((eL 9 eForestOp) r1429)), (17, .ref 0 0 0), (19, .slc 1 6 0 y1455.length none), (20, .d (eI (0 : Int)))]) rfl) (Wk.trans (Wk.frz (i := 19) (x := .slc 1 6 0 y1455.length none) rfl rfl (fF rfl rfl rfl)) (wq rfl))) ?_))))
          intro n1561
          rintro ⟨y1529, y1530⟩ w2_1546 h3 hv3
          refine sq (sr (sm rfl (sm rfl (s1 (len rfl rfl rfl (len_lst un26)) (s1 (bi rfl rfl q_i64_lss) (sn (cB h3 rfl (fun h3 => ?_) (fun h3 => ?_))))))))
          ·refine sk (sq (SC.blk (sq (SC.seqP h3 (fun y => ⟨mk 250 [(15, .d ((eL 9 eForestOp) r1427)), (16, .d ((eL 9 eForestOp) r1429)), (17, .ref 0 0 0), (19, .d ((eL 6 eApiEntry) y1455)), (20, .d (eI y1529)), (223, .d (eB y))], [.box (.agg [.slc 1 6 0 y1530.length none]), .row 6 (List.map eApiEntry y1530) false]⟩) ?_ ?_))))
           ·intro u4_1553 h4
            obtain ⟨v1554, hv1554, h4⟩ := ob h4; obtain ⟨v1555, hv1555, h4⟩ := ob h4
            refine SC.draws (by kernel_rfl) (t1 ([], false) (mv rfl) rfl (t1 ([], false) (mv rfl) rfl (t1 ([], false) (ial rfl rfl un26 ts39 (getI_some hv1554).1 (map_get (getI_some hv1554).2) rfl) rfl (t1 ([], false) (fap rfl fo39_2 ts37 rfl) rfl (t1 ([], false) (fap rfl fo37_2 ts9 rfl) rfl (t1 ([], false) (lod rfl (ld_rop ts9 ta9 rfl)) rfl (t1 ([], false) (mv rfl) rfl (t1 ([], false) (mv rfl) rfl (t1 ([], false) (ial rfl rfl un26 ts39 (getI_some hv1555).1 (map_get (getI_some hv1555).2) rfl) rfl ?_)))))))))
            refine t1 ([], false) (fap rfl fo39_2 ts37 rfl) rfl (t1 ([], false) (fap rfl fo37_2 ts9 rfl) rfl (t1 ([], false) (lod rfl (ld_rop ts9 ta9 rfl)) rfl (t1 ([], false) (bi rfl rfl q_str_neq) rfl (t1 ([], false) (mv rfl) rfl (tp h4 (fun h4 => ?_) (fun h4 => ?_))))))
            ·have q := si h4; subst q
             refine jw rfl (jw rfl (jw rfl (jw rfl (jw rfl (jw rfl (jw rfl (jw rfl (jw rfl (jw rfl ?_)))))))))
             refine jw rfl (jw rfl (jw rfl (jw rfl (jw rfl (jw rfl (jw rfl (jw rfl (t1 ([], false) (pkt rfl rfl) rfl (ST.nil (And.intro (by decide +kernel) ?_))))))))))
             exact (wq rfl)
            ·refine u1 ([], false) (ww rfl) (mv rfl) rfl (u1 ([], false) (ww rfl) (bi rfl rfl q_i64_gtr) rfl (u1 ([], false) (ww rfl) (mv rfl) rfl (tp h4 (fun h4 => ?_) (fun h4 => ?_))))
             ·obtain ⟨v1556, hv1556, h4⟩ := ob h4; obtain ⟨v1557, hv1557, h4⟩ := ob h4; have q := si h4; subst q
              refine u1 ([], false) (ww rfl) (mv rfl) rfl (u1 ([], false) (ww rfl) (mv rfl) rfl (u1 ([], false) (ww rfl) (bi rfl rfl q_i64_sub) rfl (u1 ([], false) (ww rfl) (ial rfl rfl un26 ts39 (getI_some hv1556).1 (map_get (getI_some hv1556).2) rfl) rfl (u1 ([], false) (ww rfl) (fap rfl fo39_2 ts37 rfl) rfl (u1 ([], false) (ww rfl) (fap rfl fo37_2 ts9 rfl) rfl (u1 ([], false) (ww rfl) (lod rfl (ld_rop ts9 ta9 rfl)) rfl (u1 ([], false) (ww rfl) (mv rfl) rfl (u1 ([], false) (ww rfl) (mv rfl) rfl (u1 ([], false) (ww rfl) (ial rfl rfl un26 ts39 (getI_some hv1557).1 (map_get (getI_some hv1557).2) rfl) rfl ?_)))))))))
              refine u1 ([], false) (ww rfl) (fap rfl fo39_2 ts37 rfl) rfl (u1 ([], false) (ww rfl) (fap rfl fo37_2 ts9 rfl) rfl (u1 ([], false) (ww rfl) (lod rfl (ld_rop ts9 ta9 rfl)) rfl (u1 ([], false) (ww rfl) (bi rfl rfl q_str_geq) rfl (u1 ([], false) (ww rfl) (pkt rfl rfl) rfl (t1 ([], false) (pkf rfl rfl) rfl (ST.nil (And.intro (by decide +kernel) ?_)))))))
              exact (wq rfl)
             ·have q := si h4; subst q
              refine jw rfl (jw rfl (jw rfl (jw rfl (jw rfl (jw rfl (jw rfl (jw rfl (jw rfl (jw rfl ?_)))))))))
              refine jw rfl (jw rfl (jw rfl (jw rfl (u1 ([], false) (ww rfl) (pkf rfl rfl) rfl (t1 ([], false) (pkf rfl rfl) rfl (ST.nil (And.intro (by decide +kernel) ?_)))))))
              exact (wq rfl)
           ·rintro y1552 h3
            refine cB h3 rfl (fun h3 => ?_) (fun h3 => ?_)
            ·have q := si h3; subst q; have q : _ = _ := hv3; subst q; have q := si h1; subst q; have q := si h0; subst q
             exact sr (sa rfl (sn (SC.ret (finR (wc (e' := [(4, .d (eB false))]) [] [] (by kernel_rfl) rfl (by kernel_rfl)) (lresT rfl lresN) rfl))))
            ·obtain ⟨v1558, hv1558, h3⟩ := ob h3; obtain ⟨r1560, hq1559, h3⟩ := ob h3
             refine sk (SC.region (sm rfl (sm rfl (sm rfl (s1 (ial rfl rfl un26 ts39 (getI_some hv1558).1 (map_get (getI_some hv1558).2) rfl) (s1 (fap rfl fo39_2 ts37 rfl) (s1 (lod (v := .d (eApiMsg v1558.Msg)) rfl (ld_rop ts37 ta37 rfl)) (cq [0, 1] [2] (ref11_Tree_Inject_1_ok1 v1558.Msg y1530 _ hq1559) wf rfl rfl rfl cb9 rfl rfl rfl rfl rfl rfl rfl rfl (SO.nil ?_)))))))))
             change SC _ _ _ _ _
             have q := si h3; subst q
             exact SC.region (sm rfl (s1 (bi rfl rfl q_i64_add) (sa rfl (SO.nil (lf (Wk.trans (wq (e' := [(15, .d ((eL 9 eForestOp) r1427)), (16, .d ((eL 9 eForestOp) r1429)), (17, .ref 0 0 0), (19, .d ((eL 6 eApiEntry) y1455)), (20, .d (eI (w64 (y1529 + (1 : Int)))))]) rfl) (Wk.trans (wq (e' := [(15, .d ((eL 9 eForestOp) r1427)), (16, .d ((eL 9 eForestOp) r1429)), (17, .ref 0 0 0), (19, .d ((eL 6 eApiEntry) y1455)), (20, .d (eI (w64 (y1529 + (1 : Int)))))]) rfl) (Wk.trans (fro 2 rfl rfl) (wc [0, 2] [0] (by kernel_rfl) rfl (by kernel_rfl))))))))))
          ·have q := si h3; subst q; have q : _ = _ := hv3; subst q; have q := si h1; subst q
           exact SC.exit (lf (wq rfl))
         ·rintro y1518 h0
          refine SC.seqP h0 (fun y => ⟨mk 250 [(17, .ref 0 0 0), (19, .d ((eL 6 eApiEntry) y1455))], [.box (.agg [.slc 1 6 0 y.length none]), .row 6 (List.map eApiEntry y) false]⟩) ?_ ?_
          ·intro u1_1579 h1
           obtain ⟨u2_1591, h2, h1⟩ := ob h1
           refine sr (sa rfl (sn (SC.blk (SC.loopB h2 (fun y => ⟨mk 250 [(16, .d ((eL 9 eForestOp) r1429)), (17, .ref 0 0 0), (19, .d ((eL 6 eApiEntry) y1455)), (21, .d (eI y.1))], [.box (.agg [.slc 1 6 0 y.2.length none]), .row 6 (List.map eApiEntry y.2) false]⟩) (wq rfl) ?_))))
           intro n1595
           rintro ⟨y1583, y1584⟩ w2_1590 h3 hv3
           refine sq (sr (sm rfl (sm rfl (s1 (len rfl rfl rfl (len_lst un26)) (s1 (bi rfl rfl q_i64_lss) (sn (cB h3 rfl (fun h3 => ?_) (fun h3 => ?_))))))))
           ·obtain ⟨v1592, hv1592, h3⟩ := ob h3; obtain ⟨r1594, hq1593, h3⟩ := ob h3
            refine sk (sq (SC.blk (SC.region (sm rfl (sm rfl (sm rfl (s1 (ial rfl rfl un26 ts39 (getI_some hv1592).1 (map_get (getI_some hv1592).2) rfl) (s1 (fap rfl fo39_2 ts37 rfl) (s1 (lod (v := .d (eApiMsg v1592.Msg)) rfl (ld_rop ts37 ta37 rfl)) ?_)))))))))
            refine cq [0, 1] [2] (ref11_Tree_Inject_1_ok1 v1592.Msg y1584 _ hq1593) wf rfl rfl rfl cb9 rfl rfl rfl rfl rfl rfl rfl rfl (SO.nil ?_)
            change SC _ _ _ _ _
            have q := si h3; subst q
            exact SC.region (sm rfl (s1 (bi rfl rfl q_i64_add) (sa rfl (SO.nil (lf (Wk.trans (wq (e' := [(16, .d ((eL 9 eForestOp) r1429)), (17, .ref 0 0 0), (19, .d ((eL 6 eApiEntry) y1455)), (21, .d (eI (w64 (y1583 + (1 : Int)))))]) rfl) (Wk.trans (fro 2 rfl rfl) (wc [0, 2] [0] (by kernel_rfl) rfl (by kernel_rfl)))))))))
           ·have q := si h3; subst q; have q : _ = _ := hv3; subst q; have q := si h1; subst q
            exact SC.exit ((wq rfl))
          ·rintro y1578 h0
           obtain ⟨r1597, hq1596, h0⟩ := ob h0; have q := si h0; subst q
           refine sr (sm rfl (s1 (nkr rfl) (s1 (far (k := 0) rfl fo33_0 ts31 rfl) (s1 (lod rfl (ld_box ts31 ta31 rfl rfl)) (sm rfl (cq (args' := [.slc 0 6 0 y1578.length none, .d ((eL 6 eApiEntry) y1455)]) (σc := [.row 6 (List.map eApiEntry y1578) false]) [1] [] (CallAt.frz (ArgF.frz (fF rfl rfl rfl) (ArgF.keep (ArgF.nil _))) (fq [] [] (raw_Entries_ok y1578 y1455 _ hq1596) rfl rfl rfl rfl rfl rfl rfl rfl)) wf rfl rfl rfl cb14 rfl rfl rfl rfl rfl rfl rfl rfl (sa rfl (sn (SC.ret ?_)))))))))
           exact finR (wc (e' := [(4, .d (eB r1597))]) [] [] (by kernel_rfl) rfl (by kernel_rfl)) (lresT rfl lresN) rfl
end Lv
