/- Part of the proof of a law: functions and their walks. -/
import Derived.Test.YtmkgfooomdagmaaGreatDoorXFn1
namespace Lv
open Go Go.Proofs
set_option linter.unusedVariables false
set_option linter.unusedSimpArgs false
set_option linter.unusedSectionVars false
set_option maxRecDepth 100000
variable [BaseTab] [TabOk]
noncomputable def catalog_Ops (p0 : Int) (p1 : List ApiPair) (p2 : List ApiPair) : Option ((List ForestOp)) :=
 Option.bind (α := (List (List UInt8)) × (List ((List UInt8) × (List UInt8))))
 (Option.bind (α := (List (List UInt8)) × (List ((List UInt8) × (List UInt8))))
 (loop (Y := (List (List UInt8)) × Int × (List ((List UInt8) × (List UInt8)))) (W := (List (List UInt8)) × (List ((List UInt8) × (List UInt8)))) (fun (y414, y415, y416) =>
 bif (decide (y415 < (p1.length : Int))) then
 Option.bind (getI p1 y415) fun v424 =>
 bif decide ((y414.length + [v424.Key].length) * 16 ≤ room) then
 some (Sum.inl ((y414 ++ [v424.Key]), (w64 (y415 + (1 : Int))), (mset y416 v424.Key v424.Val)))
 else none
 else
 some (Sum.inr (y414, y416))) (([] : List (List UInt8)), (0 : Int), ([] : List ((List UInt8) × (List UInt8)))))
 (fun e => some e))
 fun (y409, y410) =>
 Option.bind (α := (List (List UInt8)) × (List ((List UInt8) × (List UInt8))))
 (Option.bind (α := (List (List UInt8)) × (List ((List UInt8) × (List UInt8))))
 (loop (Y := (List (List UInt8)) × Int × (List ((List UInt8) × (List UInt8)))) (W := (List (List UInt8)) × (List ((List UInt8) × (List UInt8)))) (fun (y447, y448, y449) =>
 bif (decide (y448 < (p2.length : Int))) then
 Option.bind (getI p2 y448) fun v457 =>
 bif decide ((y447.length + [v457.Key].length) * 16 ≤ room) then
 some (Sum.inl ((y447 ++ [v457.Key]), (w64 (y448 + (1 : Int))), (mset y449 v457.Key v457.Val)))
 else none
 else
 some (Sum.inr (y447, y449))) (y409, (0 : Int), ([] : List ((List UInt8) × (List UInt8)))))
 (fun e => some e))
 fun (y442, y443) =>
 Option.bind (sortF y442) fun r461 =>
 Option.bind (α := (List ForestOp))
 (Option.bind (compactF r461 0 y442.length) fun r528 =>
 Option.bind (α := (List ForestOp))
 (loop (Y := (List ForestOp) × Int) (W := (List ForestOp)) (fun (y547, y548) =>
 bif (decide (y548 < (r528.length : Int))) then
 Option.bind (α := (List ForestOp))
 (Option.bind (getI r528 y548) fun v581 =>
 bindE (Y := ApiMsg) (E := (List ForestOp))
 (Option.bind (α := Bool)
 (bif (Option.isSome (mget y410 v581)) then
 bif (Option.isSome (mget y443 v581)) then
 some ((Option.getD (mget y410 v581) ([] : List UInt8)) == (Option.getD (mget y443 v581) ([] : List UInt8)))
 else
 some false
 else
 some false)
 fun y586 =>
 bif y586 then
 some (Sum.inr y547)
 else
 bif (!(Option.isSome (mget y443 v581))) then
 some (Sum.inl (ApiMsg.mk (0 : UInt64) (2 : Int) v581 (0 : UInt64) (Option.getD (mget y443 v581) ([] : List UInt8)) (0 : Int) (0 : UInt64)))
 else
 some (Sum.inl (ApiMsg.mk (0 : UInt64) (1 : Int) v581 (0 : UInt64) (Option.getD (mget y443 v581) ([] : List UInt8)) (0 : Int) (0 : UInt64))))
 (fun y584 =>
 bif decide ((y547.length + [(ForestOp.mk (1 : Int) p0 y584)].length) * 88 ≤ room) then
 some (y547 ++ [(ForestOp.mk (1 : Int) p0 y584)])
 else none)
 (fun e => some e))
 fun y579 =>
 some (Sum.inl (y579, (w64 (y548 + (1 : Int)))))
 else
 some (Sum.inr y547)) (([] : List ForestOp), (0 : Int)))
 (fun e => some e))
 fun y525 =>
 some y525
theorem catalog_Ops_ok (p0 : Int) (p1 : List ApiPair) (p2 : List ApiPair) (r : (List ForestOp)) (h0 : catalog_Ops p0 p1 p2 = some r) : CallAt Tryz.prog 14 [.d (eI p0), .d ((eL 2 eApiPair) p1), .d ((eL 2 eApiPair) p2)] [] (.d ((eL 9 eForestOp) r)) [] := by
 unfold catalog_Ops at h0
 refine fn0 [0, 1, 2] Tryz.func14 rfl rfl rfl rfl rfl ?_
 refine sr (s1 (asg (v := .d .nils) rfl) (sn (sr (s1 (mkm (f := eS) (g := eS) (i := 0) un84 rfl) (s1 (mkm (f := eS) (g := eS) (i := 1) un84 rfl) (sa rfl (sa rfl (sn (sr ?_)))))))))
 refine s1 (asg (v := .d .nils) rfl) (sn (SC.seqP h0 (fun y => ⟨mk 104 [(0, .d (eI p0)), (2, .d ((eL 2 eApiPair) p2)), (7, .mapr 0), (8, .mapr 1), (9, .slc 2 1 0 y.1.length none)], [.map (List.map (eM eS eS) y.2), .map (List.map (eM eS eS) ([] : List ((List UInt8) × (List UInt8)))), .row 1 (List.map eS y.1) true]⟩) ?_ ?_))
 ·intro u1_411 h1
  obtain ⟨u2_423, h2, h1⟩ := ob h1
  refine sr (sm rfl (s1 (len rfl rfl rfl (len_lst un29)) (sm rfl (sn (SC.blk (SC.loopB h2 (fun y => ⟨mk 104 [(0, .d (eI p0)), (2, .d ((eL 2 eApiPair) p2)), (7, .mapr 0), (8, .mapr 1), (9, .slc 2 1 0 y.1.length none), (24, .d ((eL 2 eApiPair) p1)), (25, .d (eI (p1.length : Int))), (26, .d (eI y.2.1))], [.map (List.map (eM eS eS) y.2.2), .map (List.map (eM eS eS) ([] : List ((List UInt8) × (List UInt8)))), .row 1 (List.map eS y.1) true]⟩) (Wk.trans (Wk.pushE (σ' := [.map (List.map (eM eS eS) ([] : List ((List UInt8) × (List UInt8)))), .map (List.map (eM eS eS) ([] : List ((List UInt8) × (List UInt8)))), .row 1 (List.map eS ([] : List (List UInt8))) true]) (.row 1 [] true) (fun _ hh => by cases hh) rfl) (Wk.trans (Wk.env (e' := [(0, .d (eI p0)), (2, .d ((eL 2 eApiPair) p2)), (7, .mapr 0), (8, .mapr 1), (9, .slc 2 1 0 (([] : List (List UInt8)).length) none), (24, .d ((eL 2 eApiPair) p1)), (25, .d (eI (p1.length : Int))), (26, .d (eI (0 : Int)))]) (EW.cons (AW.refl _) (EW.cons (AW.refl _) (EW.cons (AW.refl _) (EW.cons (AW.refl _) (EW.cons (AW.slcn _ _ _) (EW.cons (AW.refl _) (EW.cons (AW.refl _) (EW.cons (AW.refl _) EW.nil))))))))) (wq rfl))) ?_))))))
  intro n426
  rintro ⟨y414, y415, y416⟩ w2_422 h3 hv3
  refine sr (s1 (bi rfl rfl q_i64_lss) (sn (sq (cB h3 rfl (fun h3 => ?_) (fun h3 => ?_)))))
  ·obtain ⟨v424, hv424, h3⟩ := ob h3; obtain ⟨hg425, h3⟩ := gd h3
   refine sk (sq (SC.blk (sr (s1 (ial rfl rfl un29 ts49 (getI_some hv424).1 (map_get (getI_some hv424).2) rfl) (s1 (lod (v := .d (eApiPair v424)) rfl (ld_rop ts49 ta49 rfl)) (s1 (alo (k := 3) zo49 rfl) (s0 (sto rfl rfl (sB (d' := .d (eApiPair v424)) ts49 rfl rfl rfl rfl rfl rfl rfl)) (sn (sr ?_)))))))))
   refine sm rfl (s1 (far (k := 0) rfl fo49_0 ts9 rfl) (s1 (lod rfl (ld_box ts9 ta9 rfl rfl)) (s1 (far (k := 1) rfl fo49_1 ts9 rfl) (s1 (lod rfl (ld_box ts9 ta9 rfl rfl)) (s0 (mpu (f := eS) (g := eS) (k := v424.Key) (v := v424.Val) kq_str rfl rfl rfl rfl un84 un9 rfl rfl rfl) (sn (SC.region (sm rfl (s1 (far (k := 0) rfl fo49_0 ts9 rfl) ?_)))))))))
   refine s1 (lod rfl (ld_box ts9 ta9 rfl rfl)) (s1 (bsn (k := 4) (ds := List.map eS [v424.Key]) (off := 0) (l' := [v424.Key].length) rfl un85 ei9 rfl rfl (by rfl) rfl rfl rfl) (s1 (app rfl rfl rfl rfl bc85 (aF (f := eS) (xs := y414) (k := 5) rfl un85 ei9 rfl (el_full (xs := [v424.Key]) rfl) hg425 rfl)) (sa rfl (SO.nil ?_))))
   change SC _ _ _ _ _
   have q := si h3; subst q
   exact SC.region (s1 (bi rfl rfl q_i64_add) (sm rfl (SO.nil (lf (wc [0, 1, 5] [0, 1, 5] (by kernel_rfl) rfl (by kernel_rfl))))))
  ·have q := si h3; subst q; have q : _ = _ := hv3; subst q; have q := si h1; subst q
   exact SC.exit ((wq rfl))
 ·rintro ⟨y409, y410⟩ h0
  refine SC.seqP h0 (fun y => ⟨mk 104 [(0, .d (eI p0)), (7, .mapr 0), (8, .mapr 1), (9, .slc 2 1 0 y.1.length none)], [.map (List.map (eM eS eS) y410), .map (List.map (eM eS eS) y.2), .row 1 (List.map eS y.1) true]⟩) ?_ ?_
  ·intro u1_444 h1
   obtain ⟨u2_456, h2, h1⟩ := ob h1
   refine sr (sm rfl (s1 (len rfl rfl rfl (len_lst un29)) (sm rfl (sn (SC.blk (SC.loopB h2 (fun y => ⟨mk 104 [(0, .d (eI p0)), (7, .mapr 0), (8, .mapr 1), (9, .slc 2 1 0 y.1.length none), (41, .d ((eL 2 eApiPair) p2)), (42, .d (eI (p2.length : Int))), (43, .d (eI y.2.1))], [.map (List.map (eM eS eS) y410), .map (List.map (eM eS eS) y.2.2), .row 1 (List.map eS y.1) true]⟩) (wq rfl) ?_))))))
   intro n459
   rintro ⟨y447, y448, y449⟩ w2_455 h3 hv3
   refine sr (s1 (bi rfl rfl q_i64_lss) (sn (sq (cB h3 rfl (fun h3 => ?_) (fun h3 => ?_)))))
   ·obtain ⟨v457, hv457, h3⟩ := ob h3; obtain ⟨hg458, h3⟩ := gd h3
    refine sk (sq (SC.blk (sr (s1 (ial rfl rfl un29 ts49 (getI_some hv457).1 (map_get (getI_some hv457).2) rfl) (s1 (lod (v := .d (eApiPair v457)) rfl (ld_rop ts49 ta49 rfl)) (s1 (alo (k := 3) zo49 rfl) (s0 (sto rfl rfl (sB (d' := .d (eApiPair v457)) ts49 rfl rfl rfl rfl rfl rfl rfl)) (sn (sr ?_)))))))))
    refine sm rfl (s1 (far (k := 0) rfl fo49_0 ts9 rfl) (s1 (lod rfl (ld_box ts9 ta9 rfl rfl)) (s1 (far (k := 1) rfl fo49_1 ts9 rfl) (s1 (lod rfl (ld_box ts9 ta9 rfl rfl)) (s0 (mpu (f := eS) (g := eS) (k := v457.Key) (v := v457.Val) kq_str rfl rfl rfl rfl un84 un9 rfl rfl rfl) (sn (SC.region (sm rfl (s1 (far (k := 0) rfl fo49_0 ts9 rfl) ?_)))))))))
    refine s1 (lod rfl (ld_box ts9 ta9 rfl rfl)) (s1 (bsn (k := 4) (ds := List.map eS [v457.Key]) (off := 0) (l' := [v457.Key].length) rfl un85 ei9 rfl rfl (by rfl) rfl rfl rfl) (s1 (app rfl rfl rfl rfl bc85 (aF (f := eS) (xs := y447) (k := 5) rfl un85 ei9 rfl (el_full (xs := [v457.Key]) rfl) hg458 rfl)) (sa rfl (SO.nil ?_))))
    change SC _ _ _ _ _
    have q := si h3; subst q
    exact SC.region (s1 (bi rfl rfl q_i64_add) (sm rfl (SO.nil (lf (wc [0, 1, 5] [0, 1, 5] (by kernel_rfl) rfl (by kernel_rfl))))))
   ·have q := si h3; subst q; have q : _ = _ := hv3; subst q; have q := si h1; subst q
    exact SC.exit ((wq rfl))
  ·rintro ⟨y442, y443⟩ h0
   obtain ⟨r461, hq460, h0⟩ := ob h0
   refine sr (sm rfl (cq [2] [] (sort_ok y442 _ hq460) wf rfl rfl rfl cb32 rfl rfl rfl rfl rfl rfl rfl rfl (sn (sr (s1 (asg (v := .d .nils) rfl) (sn (SC.seqP h0 (fun y => ⟨mk 104 [(14, .slc 0 9 0 y.length none)], [.row 9 (List.map eForestOp y) true]⟩) ?_ ?_)))))))
   ·intro u1_526 h1
    obtain ⟨r528, hq527, h1⟩ := ob h1; obtain ⟨u2_570, h2, h1⟩ := ob h1
    refine sr (sm rfl (cq [2] [] (compact_ok r461 0 y442.length _ hq527) wf rfl rfl rfl cb33 rfl rfl rfl rfl rfl rfl rfl rfl (s1 (len rfl rfl rfl (len_lst un85)) (sm rfl (sn (SC.blk (SC.loopB h2 (fun y => ⟨mk 104 [(0, .d (eI p0)), (7, .mapr 0), (8, .mapr 1), (14, .slc 2 9 0 y.1.length none), (61, .d ((eL 1 eS) r528)), (62, .d (eI (r528.length : Int))), (63, .d (eI y.2))], [.map (List.map (eM eS eS) y410), .map (List.map (eM eS eS) y443), .row 9 (List.map eForestOp y.1) true]⟩) (Wk.trans (Wk.pushE (σ' := [.map (List.map (eM eS eS) y410), .map (List.map (eM eS eS) y443), .row 1 (List.map eS (r528 ++ List.replicate (r461.length - r528.length) [])) false, .row 9 (List.map eForestOp ([] : List ForestOp)) true]) (.row 9 [] true) (fun _ hh => by cases hh) rfl) (Wk.trans (Wk.env (e' := [(0, .d (eI p0)), (7, .mapr 0), (8, .mapr 1), (14, .slc 3 9 0 (([] : List ForestOp).length) none), (61, .d ((eL 1 eS) r528)), (62, .d (eI (r528.length : Int))), (63, .d (eI (0 : Int)))]) (EW.cons (AW.refl _) (EW.cons (AW.refl _) (EW.cons (AW.refl _) (EW.cons (AW.slcn _ _ _) (EW.cons (AW.refl _) (EW.cons (AW.refl _) (EW.cons (AW.refl _) EW.nil)))))))) (wc [0, 1, 3] [0, 1, 3] (by kernel_rfl) rfl (by kernel_rfl)))) ?_)))))))
    intro n589
    rintro ⟨y547, y548⟩ w2_569 h3 hv3
    refine sr (s1 (bi rfl rfl q_i64_lss) (sn (sq (cB h3 rfl (fun h3 => ?_) (fun h3 => ?_)))))
    ·refine sk (SC.seqP h3 (fun y => ⟨mk 104 [(0, .d (eI p0)), (7, .mapr 0), (8, .mapr 1), (14, .slc 2 9 0 y.length none), (61, .d ((eL 1 eS) r528)), (62, .d (eI (r528.length : Int))), (63, .d (eI y548))], [.map (List.map (eM eS eS) y410), .map (List.map (eM eS eS) y443), .row 9 (List.map eForestOp y) true]⟩) ?_ ?_)
     ·intro u4_580 h4
      obtain ⟨v581, hv581, h4⟩ := ob h4
      refine SC.blk (sr (s1 (ial rfl rfl un85 ts9 (getI_some hv581).1 (map_get (getI_some hv581).2) rfl) (s1 (lod rfl (ld_rop ts9 ta9 rfl)) (sa rfl (sn (sr (sm rfl (sm rfl (s1 (mlo (f := eS) (g := eS) (k := v581) (v := ([] : List UInt8)) kq_str rfl rfl un84 un9 rfl zo9 rfl) ?_)))))))))
      refine sm rfl (s1 (ext rfl rfl) (s1 (ext rfl rfl) (sa rfl (sa rfl (sn (sr (sm rfl (sm rfl (s1 (mlo (f := eS) (g := eS) (k := v581) (v := ([] : List UInt8)) kq_str rfl rfl un84 un9 rfl zo9 rfl) ?_)))))))))
      refine sm rfl (s1 (ext rfl rfl) (s1 (ext rfl rfl) (sa rfl (sa rfl (sn (sr (sm rfl (sm rfl (s1 (bld rfl (bd51_1_2_4 (1 : Int) v581 (Option.getD (mget y443 v581) ([] : List UInt8)))) ?_)))))))))
      refine s1 (alo (k := 3) zo51 rfl) (s0 (sto rfl rfl (sB (d' := .d (eApiMsg (ApiMsg.mk (0 : UInt64) (1 : Int) v581 (0 : UInt64) (Option.getD (mget y443 v581) ([] : List UInt8)) (0 : Int) (0 : UInt64)))) ts51 rfl rfl rfl rfl rfl rfl rfl)) (sn (SC.seqB h4 (fun y => ⟨mk 104 [(0, .d (eI p0)), (7, .mapr 0), (8, .mapr 1), (14, .slc 2 9 0 y547.length none), (21, .ref 3 0 0), (61, .d ((eL 1 eS) r528)), (62, .d (eI (r528.length : Int))), (63, .d (eI y548))], [.map (List.map (eM eS eS) y410), .map (List.map (eM eS eS) y443), .row 9 (List.map eForestOp y547) true, .box (.d (eApiMsg y))]⟩) ?_ ?_)))
      ·intro u5_585 h5 h4
       refine SC.blk (SC.seqP h5 (fun y => ⟨mk 104 [(0, .d (eI p0)), (7, .mapr 0), (8, .mapr 1), (14, .slc 2 9 0 y547.length none), (20, .d (eB (Option.isSome (mget y443 v581)))), (21, .ref 3 0 0), (61, .d ((eL 1 eS) r528)), (62, .d (eI (r528.length : Int))), (63, .d (eI y548)), (82, .d (eB y))], [.map (List.map (eM eS eS) y410), .map (List.map (eM eS eS) y443), .row 9 (List.map eForestOp y547) true, .box (.d (eApiMsg (ApiMsg.mk (0 : UInt64) (1 : Int) v581 (0 : UInt64) (Option.getD (mget y443 v581) ([] : List UInt8)) (0 : Int) (0 : UInt64))))]⟩) ?_ ?_)
       ·intro u6_587 h6
        refine SC.region (sm rfl (sm rfl (sp h6 (fun h6 => ?_) (fun h6 => ?_))))
        ·refine gw rfl (mv rfl) (s1 (pkt rfl rfl) (sm rfl (sp h6 (fun h6 => ?_) (fun h6 => ?_))))
         ·have q := si h6; subst q
          exact gw rfl (mv rfl) (gw rfl (mv rfl) (gw rfl (bi rfl rfl q_str_eql) (s1 (pkt rfl rfl) (sa rfl (SO.nil ((wq rfl)))))))
         ·have q := si h6; subst q
          exact kw rfl (kw rfl (kw rfl (s1 (pkf rfl rfl) (sa rfl (SO.nil ((wq rfl)))))))
        ·have q := si h6; subst q
         exact kw rfl (s1 (pkf rfl rfl) (sm rfl (kw rfl (kw rfl (kw rfl (s1 (pkf rfl rfl) (sa rfl (SO.nil ((wq rfl))))))))))
       ·rintro y586 h5
        refine cB h5 rfl (fun h5 => ?_) (fun h5 => ?_)
        ·have q := si h5; subst q; have q := si h4; subst q
         exact SC.exit ((wc [0, 1, 2] [0, 1, 2] (by kernel_rfl) rfl (by kernel_rfl)))
        ·refine sr (sm rfl (s1 (nt rfl) (sa rfl (sn (cB h5 rfl (fun h5 => ?_) (fun h5 => ?_))))))
         ·have q := si h5; subst q
          exact SC.region (s1 (far (k := 1) rfl fo51_1 ts3 rfl) (s0 (sto (b := .d (eI (2 : Int))) rfl rfl (sB (d' := .d (eApiMsg (ApiMsg.mk (0 : UInt64) (2 : Int) v581 (0 : UInt64) (Option.getD (mget y443 v581) ([] : List UInt8)) (0 : Int) (0 : UInt64)))) ts3 rfl rfl rfl rfl rfl rfl rfl)) (SO.nil (lf (wq rfl)))))
         ·have q := si h5; subst q
          exact SC.skip (lf (wq rfl))
      ·rintro y584 h4
       obtain ⟨hg588, h4⟩ := gd h4; have q := si h4; subst q
       exact SC.region (sm rfl (sm rfl (s1 (lod (v := .d (eApiMsg y584)) rfl (ld_box ts51 ta51 rfl rfl)) (s1 (bld rfl (bd53_0_1_2 (1 : Int) p0 y584)) (s1 (bsn (k := 4) (ds := List.map eForestOp [(ForestOp.mk (1 : Int) p0 y584)]) (off := 0) (l' := [(ForestOp.mk (1 : Int) p0 y584)].length) rfl un46 ei53 rfl rfl (by rfl) rfl rfl rfl) (s1 (app rfl rfl rfl rfl bc46 (aF (f := eForestOp) (xs := y547) (k := 5) rfl un46 ei53 rfl (el_full (xs := [(ForestOp.mk (1 : Int) p0 y584)]) rfl) hg588 rfl)) (sa rfl (SO.nil ((wc [0, 1, 5] [0, 1, 5] (by kernel_rfl) rfl (by kernel_rfl)))))))))))
     ·rintro y579 h3
      have q := si h3; subst q
      exact SC.region (s1 (bi rfl rfl q_i64_add) (sm rfl (SO.nil (lf (wq rfl)))))
    ·have q := si h3; subst q; have q : _ = _ := hv3; subst q; have q := si h1; subst q
     exact SC.exit ((wc [2] [2] (by kernel_rfl) rfl (by kernel_rfl)))
   ·rintro y525 h0
    have q := si h0; subst q
    exact sr (sm rfl (sa rfl (sn (SC.ret (finR (Wk.trans (Wk.frz (i := 6) (x := .slc 0 9 0 y525.length none) rfl rfl (fF rfl rfl rfl)) (wc (e' := [(6, .d ((eL 9 eForestOp) y525))]) [] [] (by kernel_rfl) rfl (by kernel_rfl))) (lresT rfl lresN) rfl)))))
noncomputable def raw_Ints (p0 : List Int) (p1 : List Int) : Option Bool :=
 bif ((p0.length : Int) != (p1.length : Int)) then
 some false
 else
 bindE (Y := Unit) (E := Bool)
 (Option.bind (α := Unit ⊕ Bool)
 (loop (Y := Int) (W := Unit ⊕ Bool) (fun y62 =>
 bif (decide (y62 < (p0.length : Int))) then
 Option.bind (getI p0 y62) fun v68 =>
 Option.bind (getI p1 y62) fun v69 =>
 bif (v68 != v69) then
 some (Sum.inr (Sum.inr false))
 else
 some (Sum.inl (w64 (y62 + (1 : Int))))
 else
 some (Sum.inr (Sum.inl ()))) (0 : Int))
 (Sum.elim (fun e => some (Sum.inl e)) (fun e => some (Sum.inr e))))
 (fun _ =>
 some true)
 (fun e => some e)
theorem raw_Ints_ok (p0 : List Int) (p1 : List Int) (r : Bool) (h0 : raw_Ints p0 p1 = some r) : CallAt Tryz.prog 29 [.d ((eL 1 eI) p0), .d ((eL 1 eI) p1)] [] (.d (eB r)) [] := by
 unfold raw_Ints at h0
 refine fn0 [0, 1] Tryz.func29 rfl rfl rfl rfl rfl ?_
 refine sr (sa rfl (sn (sq (sr (sm rfl (s1 (len rfl rfl rfl (len_lst un23)) (sm rfl (s1 (len rfl rfl rfl (len_lst un23)) (s1 (bi rfl rfl q_i64_neq) ?_)))))))))
 refine sn (cB h0 rfl (fun h0 => ?_) (fun h0 => ?_))
 ·have q := si h0; subst q
  exact sr (sa rfl (sn (SC.ret (finR (Wk.refl _) (lresT rfl lresN) rfl))))
 ·refine sk (SC.seqB h0 (fun y => ⟨mk 26 [], []⟩) ?_ ?_)
  ·intro u1_59 h1 h0
   obtain ⟨u2_67, h2, h1⟩ := ob h1
   refine sr (sa rfl (sn (SC.blk (SC.loopB h2 (fun y => ⟨mk 26 [(0, .d ((eL 1 eI) p0)), (1, .d ((eL 1 eI) p1)), (5, .d (eI y))], []⟩) (wq rfl) ?_))))
   intro n70
   rintro y62 w2_66 h3 hv3
   refine sq (sr (sm rfl (sm rfl (s1 (len rfl rfl rfl (len_lst un23)) (s1 (bi rfl rfl q_i64_lss) (sn (cB h3 rfl (fun h3 => ?_) (fun h3 => ?_))))))))
   ·obtain ⟨v68, hv68, h3⟩ := ob h3; obtain ⟨v69, hv69, h3⟩ := ob h3
    refine sk (sq (SC.blk (sd (by kernel_rfl) (t1 ([], false) (mv rfl) rfl (t1 ([], false) (mv rfl) rfl (t1 ([], false) (ial rfl rfl un23 ts3 (getI_some hv68).1 (map_get (getI_some hv68).2) rfl) rfl (t1 ([], false) (lod rfl (ld_rop ts3 ta3 rfl)) rfl (t1 ([], false) (mv rfl) rfl (t1 ([], false) (mv rfl) rfl ?_)))))))))
    refine t1 ([], false) (ial rfl rfl un23 ts3 (getI_some hv69).1 (map_get (getI_some hv69).2) rfl) rfl (t1 ([], false) (lod rfl (ld_rop ts3 ta3 rfl)) rfl (t1 ([], false) (bi rfl rfl q_i64_neq) rfl (tn (by decide +kernel) (cB h3 rfl (fun h3 => ?_) (fun h3 => ?_)))))
    ·have q := si h3; subst q; have q : _ = _ := hv3; subst q; have q := si h1; subst q; have q := si h0; subst q
     exact sr (sa rfl (sn (SC.ret (finR (Wk.refl _) (lresT rfl lresN) rfl))))
    ·refine SC.skip ?_
     change SC _ _ _ _ _
     have q := si h3; subst q
     exact SC.region (sm rfl (s1 (bi rfl rfl q_i64_add) (sa rfl (SO.nil (lf (wq rfl))))))
   ·have q := si h3; subst q; have q : _ = _ := hv3; subst q; have q := si h1; subst q
    exact SC.exit (lf (wq rfl))
  ·intro _ h0
   have q := si h0; subst q
   exact sr (sa rfl (sn (SC.ret (finR (Wk.refl _) (lresT rfl lresN) rfl))))
noncomputable def ref17_Same (p0 : ApiTable) (p1 : ApiTable) : Option Bool :=
 Option.bind (α := Bool)
 (bif (p0.Name != p1.Name) then
 some true
 else
 bif (p0.Tree != p1.Tree) then
 some true
 else
 bif ((p0.Cols.length : Int) != (p1.Cols.length : Int)) then
 some true
 else
 Option.bind (raw_Ints p0.Primary p1.Primary) fun r555 =>
 bif (!r555) then
 some true
 else
 some ((p0.Indexes.length : Int) != (p1.Indexes.length : Int)))
 fun y552 =>
 bif y552 then
 some false
 else
 bindE (Y := Unit) (E := Bool)
 (Option.bind (α := Unit ⊕ Bool)
 (loop (Y := Int) (W := Unit ⊕ Bool) (fun y570 =>
 bif (decide (y570 < (p0.Cols.length : Int))) then
 Option.bind (getI p0.Cols y570) fun v576 =>
 Option.bind (getI p1.Cols y570) fun v577 =>
 bif (!(eqApiColumn v576 v577)) then
 some (Sum.inr (Sum.inr false))
 else
 some (Sum.inl (w64 (y570 + (1 : Int))))
 else
 some (Sum.inr (Sum.inl ()))) (0 : Int))
 (Sum.elim (fun e => some (Sum.inl e)) (fun e => some (Sum.inr e))))
 (fun _ =>
 bindE (Y := Unit) (E := Bool)
 (Option.bind (α := Unit ⊕ Bool)
 (loop (Y := Int) (W := Unit ⊕ Bool) (fun y741 =>
 bif (decide (y741 < (p0.Indexes.length : Int))) then
 bindE (Y := Unit) (E := Bool)
 (Option.bind (getI p0.Indexes y741) fun v804 =>
 Option.bind (getI p1.Indexes y741) fun v805 =>
 Option.bind (α := Bool)
 (bif (v804.Name != v805.Name) then
 some true
 else
 bif (v804.Unique != v805.Unique) then
 some true
 else
 bif (v804.Ready != v805.Ready) then
 some true
 else
 bif (v804.Tree != v805.Tree) then
 some true
 else
 Option.bind (raw_Ints v804.Extra v805.Extra) fun r811 =>
 bif (!r811) then
 some true
 else
 some ((v804.Parts.length : Int) != (v805.Parts.length : Int)))
 fun y808 =>
 bif y808 then
 some (Sum.inr false)
 else
 Option.bind (α := Unit ⊕ Bool)
 (loop (Y := Int) (W := Unit ⊕ Bool) (fun y814 =>
 bif (decide (y814 < (v804.Parts.length : Int))) then
 Option.bind (getI v804.Parts y814) fun v820 =>
 Option.bind (getI v805.Parts y814) fun v821 =>
 bif (!(eqApiPart v820 v821)) then
 some (Sum.inr (Sum.inr false))
 else
 some (Sum.inl (w64 (y814 + (1 : Int))))
 else
 some (Sum.inr (Sum.inl ()))) (0 : Int))
 (Sum.elim (fun e => some (Sum.inl e)) (fun e => some (Sum.inr e))))
 (fun _ =>
 some (Sum.inl (w64 (y741 + (1 : Int)))))
 (fun e => some (Sum.inr (Sum.inr e)))
 else
 some (Sum.inr (Sum.inl ()))) (0 : Int))
 (Sum.elim (fun e => some (Sum.inl e)) (fun e => some (Sum.inr e))))
 (fun _ =>
 some true)
 (fun e => some e))
 (fun e => some e)
theorem ref17_Same_ok (p0 : ApiTable) (p1 : ApiTable) (r : Bool) (h0 : ref17_Same p0 p1 = some r) : CallAt Tryz.prog 10 [.d (eApiTable p0), .d (eApiTable p1)] [] (.d (eB r)) [] := by
 unfold ref17_Same at h0
 refine fn0 [0, 1] Tryz.func10 rfl rfl rfl rfl rfl ?_
 refine sr (s1 (bxo (k := 0) rfl rfl rfl) (s1 (bxo (k := 1) rfl rfl rfl) (sa rfl (sn (sq (SC.seqP h0 (fun y => ⟨mk 144 [(2, .ref 0 0 0), (3, .ref 1 0 0), (47, .d (eB y))], [.box (.d (eApiTable p0)), .box (.d (eApiTable p1))]⟩) ?_ ?_))))))
 ·intro u1_553 h1
  refine SC.region (s1 (far (k := 0) rfl fo26_0 ts9 rfl) (s1 (lod rfl (ld_box ts9 ta9 rfl rfl)) (s1 (far (k := 0) rfl fo26_0 ts9 rfl) (s1 (lod rfl (ld_box ts9 ta9 rfl rfl)) (s1 (bi rfl rfl q_str_neq) (sm rfl (sp h1 (fun h1 => ?_) (fun h1 => ?_))))))))
  ·have q := si h1; subst q
   refine kw rfl (kw rfl (kw rfl (kw rfl (kw rfl (s1 (pkt rfl rfl) (sm rfl (kw rfl (kw rfl (kw rfl ?_)))))))))
   refine kw rfl (kw rfl (kw rfl (kw rfl (s1 (pkt rfl rfl) (sm rfl (kw rfl (kw rfl (kw rfl (kw rfl ?_)))))))))
   refine kw rfl (kw rfl (s1 (pkt rfl rfl) (sm rfl (kw rfl (kw rfl (kw rfl (kw rfl (kw rfl (kw rfl ?_)))))))))
   exact kw rfl (s1 (pkt rfl rfl) (SO.nil ((wq rfl))))
  ·refine gw rfl (far (k := 4) rfl fo26_4 ts3 rfl) (gw rfl (lod rfl (ld_box ts3 ta3 rfl rfl)) (gw rfl (far (k := 4) rfl fo26_4 ts3 rfl) (gw rfl (lod rfl (ld_box ts3 ta3 rfl rfl)) (gw rfl (bi rfl rfl q_i64_neq) (s1 (pkf rfl rfl) (sm rfl (sp h1 (fun h1 => ?_) (fun h1 => ?_))))))))
   ·have q := si h1; subst q
    refine kw rfl (kw rfl (kw rfl (kw rfl (kw rfl (kw rfl (kw rfl (s1 (pkt rfl rfl) (sm rfl (kw rfl ?_)))))))))
    refine kw rfl (kw rfl (kw rfl (kw rfl (kw rfl (s1 (pkt rfl rfl) (sm rfl (kw rfl (kw rfl (kw rfl ?_)))))))))
    exact kw rfl (kw rfl (kw rfl (kw rfl (s1 (pkt rfl rfl) (SO.nil ((wq rfl)))))))
   ·refine gw rfl (far (k := 1) rfl fo26_1 ts22 rfl) (gw rfl (lod rfl (ld_box ts22 ta22 rfl rfl)) (gw rfl (len rfl rfl rfl (len_lst un22)) (gw rfl (far (k := 1) rfl fo26_1 ts22 rfl) (gw rfl (lod rfl (ld_box ts22 ta22 rfl rfl)) (gw rfl (len rfl rfl rfl (len_lst un22)) (gw rfl (bi rfl rfl q_i64_neq) (s1 (pkf rfl rfl) (sm rfl (sp h1 (fun h1 => ?_) (fun h1 => ?_))))))))))
    ·have q := si h1; subst q
     refine kw rfl (kw rfl (kw rfl (kw rfl (kw rfl (kw rfl (s1 (pkt rfl rfl) (sm rfl (kw rfl (kw rfl ?_)))))))))
     exact kw rfl (kw rfl (kw rfl (kw rfl (kw rfl (s1 (pkt rfl rfl) (SO.nil ((wq rfl))))))))
    ·obtain ⟨r555, hq554, h1⟩ := ob h1
     refine gw rfl (far (k := 2) rfl fo26_2 ts23 rfl) (gw rfl (lod rfl (ld_box ts23 ta23 rfl rfl)) (gw rfl (far (k := 2) rfl fo26_2 ts23 rfl) (gw rfl (lod rfl (ld_box ts23 ta23 rfl rfl)) (c0 (raw_Ints_ok p0.Primary p1.Primary _ hq554) (ww rfl) rfl rfl rfl cb29 rfl (fun _ => rfl) (fun _ => rfl) (gw rfl (nt rfl) (s1 (pkf rfl rfl) (sm rfl (sp h1 (fun h1 => ?_) (fun h1 => ?_)))))))))
     ·have q := si h1; subst q
      exact kw rfl (kw rfl (kw rfl (kw rfl (kw rfl (kw rfl (kw rfl (s1 (pkt rfl rfl) (SO.nil ((wq rfl))))))))))
     ·have q := si h1; subst q
      exact gw rfl (far (k := 3) rfl fo26_3 ts24 rfl) (gw rfl (lod rfl (ld_box ts24 ta24 rfl rfl)) (gw rfl (len rfl rfl rfl (len_lst un24)) (gw rfl (far (k := 3) rfl fo26_3 ts24 rfl) (gw rfl (lod rfl (ld_box ts24 ta24 rfl rfl)) (gw rfl (len rfl rfl rfl (len_lst un24)) (gw rfl (bi rfl rfl q_i64_neq) (s1 (pkf rfl rfl) (SO.nil ((wq rfl))))))))))
 ·rintro y552 h0
  refine cB h0 rfl (fun h0 => ?_) (fun h0 => ?_)
  ·have q := si h0; subst q
   exact sr (sa rfl (sn (SC.ret (finR (wc (e' := [(4, .d (eB false))]) [] [] (by kernel_rfl) rfl (by kernel_rfl)) (lresT rfl lresN) rfl))))
  ·refine sk (SC.seqB h0 (fun y => ⟨mk 144 [(2, .ref 0 0 0), (3, .ref 1 0 0)], [.box (.d (eApiTable p0)), .box (.d (eApiTable p1))]⟩) ?_ ?_)
   ·intro u1_567 h1 h0
    obtain ⟨u2_575, h2, h1⟩ := ob h1
    refine sr (sa rfl (sn (SC.blk (SC.loopB h2 (fun y => ⟨mk 144 [(2, .ref 0 0 0), (3, .ref 1 0 0), (5, .d (eI y))], [.box (.d (eApiTable p0)), .box (.d (eApiTable p1))]⟩) (wq rfl) ?_))))
    intro n578
    rintro y570 w2_574 h3 hv3
    refine sq (sr (sm rfl (s1 (far (k := 1) rfl fo26_1 ts22 rfl) (s1 (lod rfl (ld_box ts22 ta22 rfl rfl)) (s1 (len rfl rfl rfl (len_lst un22)) (s1 (bi rfl rfl q_i64_lss) (sn (cB h3 rfl (fun h3 => ?_) (fun h3 => ?_)))))))))
    ·obtain ⟨v576, hv576, h3⟩ := ob h3; obtain ⟨v577, hv577, h3⟩ := ob h3
     refine sk (sq (SC.blk (sd (by kernel_rfl) (t1 ([], false) (far (k := 1) rfl fo26_1 ts22 rfl) rfl (t1 ([0], false) (lod rfl (ld_box ts22 ta22 rfl rfl)) rfl (t1 ([], false) (mv rfl) rfl (t1 ([], false) (ial rfl rfl un22 ts45 (getI_some hv576).1 (map_get (getI_some hv576).2) rfl) rfl (t1 ([], false) (lod (v := .d (eApiColumn v576)) rfl (ld_rop ts45 ta45 rfl)) rfl (t1 ([], false) (far (k := 1) rfl fo26_1 ts22 rfl) rfl ?_)))))))))
     refine t1 ([1], false) (lod rfl (ld_box ts22 ta22 rfl rfl)) rfl (t1 ([], false) (mv rfl) rfl (t1 ([], false) (ial rfl rfl un22 ts45 (getI_some hv577).1 (map_get (getI_some hv577).2) rfl) rfl (t1 ([], false) (lod (v := .d (eApiColumn v577)) rfl (ld_rop ts45 ta45 rfl)) rfl (t1 ([], false) (bi (v := .d (eB (!(eqApiColumn v576 v577)))) rfl rfl (fun X Y => eqApiColumn_neq_45 X Y v576 v577)) rfl (tn (by decide +kernel) (cB h3 rfl (fun h3 => ?_) (fun h3 => ?_)))))))
     ·have q := si h3; subst q; have q : _ = _ := hv3; subst q; have q := si h1; subst q; have q := si h0; subst q
      exact sr (sa rfl (sn (SC.ret (finR (wc (e' := [(4, .d (eB false))]) [] [] (by kernel_rfl) rfl (by kernel_rfl)) (lresT rfl lresN) rfl))))
     ·refine SC.skip ?_
      change SC _ _ _ _ _
      have q := si h3; subst q
      exact SC.region (sm rfl (s1 (bi rfl rfl q_i64_add) (sa rfl (SO.nil (lf (wq rfl))))))
    ·have q := si h3; subst q; have q : _ = _ := hv3; subst q; have q := si h1; subst q
     exact SC.exit (lf (wq rfl))
   ·intro _ h0
    refine SC.seqB h0 (fun y => ⟨mk 144 [], []⟩) ?_ ?_
    ·intro u1_701 h1 h0
     obtain ⟨u2_783, h2, h1⟩ := ob h1
     refine sr (sa rfl (sn (SC.blk (SC.loopB h2 (fun y => ⟨mk 144 [(2, .ref 0 0 0), (3, .ref 1 0 0), (6, .d (eI y))], [.box (.d (eApiTable p0)), .box (.d (eApiTable p1))]⟩) (wq rfl) ?_))))
     intro n823
     rintro y741 w2_782 h3 hv3
     refine sq (sr (sm rfl (s1 (far (k := 3) rfl fo26_3 ts24 rfl) (s1 (lod rfl (ld_box ts24 ta24 rfl rfl)) (s1 (len rfl rfl rfl (len_lst un24)) (s1 (bi rfl rfl q_i64_lss) (sn (cB h3 rfl (fun h3 => ?_) (fun h3 => ?_)))))))))
     ·refine sk (SC.seqB h3 (fun y => ⟨mk 144 [(2, .ref 0 0 0), (3, .ref 1 0 0), (6, .d (eI y741))], [.box (.d (eApiTable p0)), .box (.d (eApiTable p1))]⟩) ?_ ?_)
      ·intro u4_803 h4 h3
       obtain ⟨v804, hv804, h4⟩ := ob h4; obtain ⟨v805, hv805, h4⟩ := ob h4
       refine SC.blk (sr (s1 (far (k := 3) rfl fo26_3 ts24 rfl) (s1 (lod rfl (ld_box ts24 ta24 rfl rfl)) (sm rfl (s1 (ial rfl rfl un24 ts56 (getI_some hv804).1 (map_get (getI_some hv804).2) rfl) (s1 (lod (v := .d (eApiIndex v804)) rfl (ld_rop ts56 ta56 rfl)) (s1 (alo (k := 2) zo56 rfl) (s0 (sto rfl rfl (sB (d' := .d (eApiIndex v804)) ts56 rfl rfl rfl rfl rfl rfl rfl)) (sn ?_)))))))))
       refine sr (s1 (far (k := 3) rfl fo26_3 ts24 rfl) (s1 (lod rfl (ld_box ts24 ta24 rfl rfl)) (sm rfl (s1 (ial rfl rfl un24 ts56 (getI_some hv805).1 (map_get (getI_some hv805).2) rfl) (s1 (lod (v := .d (eApiIndex v805)) rfl (ld_rop ts56 ta56 rfl)) (s1 (alo (k := 3) zo56 rfl) (s0 (sto rfl rfl (sB (d' := .d (eApiIndex v805)) ts56 rfl rfl rfl rfl rfl rfl rfl)) (sn (sq ?_)))))))))
       refine SC.seqP h4 (fun y => ⟨mk 144 [(2, .ref 0 0 0), (3, .ref 1 0 0), (6, .d (eI y741)), (7, .ref 2 0 0), (8, .ref 3 0 0), (125, .d (eB y))], [.box (.d (eApiTable p0)), .box (.d (eApiTable p1)), .box (.d (eApiIndex v804)), .box (.d (eApiIndex v805))]⟩) ?_ ?_
       ·intro u5_809 h5
        refine SC.region (s1 (far (k := 0) rfl fo56_0 ts9 rfl) (s1 (lod rfl (ld_box ts9 ta9 rfl rfl)) (s1 (far (k := 0) rfl fo56_0 ts9 rfl) (s1 (lod rfl (ld_box ts9 ta9 rfl rfl)) (s1 (bi rfl rfl q_str_neq) (sm rfl (sp h5 (fun h5 => ?_) (fun h5 => ?_))))))))
        ·have q := si h5; subst q
         refine kw rfl (kw rfl (kw rfl (kw rfl (kw rfl (s1 (pkt rfl rfl) (sm rfl (kw rfl (kw rfl (kw rfl ?_)))))))))
         refine kw rfl (kw rfl (s1 (pkt rfl rfl) (sm rfl (kw rfl (kw rfl (kw rfl (kw rfl (kw rfl (s1 (pkt rfl rfl) ?_)))))))))
         refine sm rfl (kw rfl (kw rfl (kw rfl (kw rfl (kw rfl (kw rfl (s1 (pkt rfl rfl) (sm rfl (kw rfl ?_)))))))))
         exact kw rfl (kw rfl (kw rfl (kw rfl (kw rfl (kw rfl (s1 (pkt rfl rfl) (SO.nil ((wq rfl)))))))))
        ·refine gw rfl (far (k := 3) rfl fo56_3 ts4 rfl) (gw rfl (lod rfl (ld_box ts4 ta4 rfl rfl)) (gw rfl (far (k := 3) rfl fo56_3 ts4 rfl) (gw rfl (lod rfl (ld_box ts4 ta4 rfl rfl)) (gw rfl (bi (v := .d (eB (v804.Unique != v805.Unique))) rfl rfl (fun X Y => b_bool_neq un4 X Y v804.Unique v805.Unique)) (s1 (pkf rfl rfl) (sm rfl (sp h5 (fun h5 => ?_) (fun h5 => ?_))))))))
         ·have q := si h5; subst q
          refine kw rfl (kw rfl (kw rfl (kw rfl (kw rfl (s1 (pkt rfl rfl) (sm rfl (kw rfl (kw rfl (kw rfl ?_)))))))))
          refine kw rfl (kw rfl (s1 (pkt rfl rfl) (sm rfl (kw rfl (kw rfl (kw rfl (kw rfl (kw rfl (kw rfl ?_)))))))))
          refine s1 (pkt rfl rfl) (sm rfl (kw rfl (kw rfl (kw rfl (kw rfl (kw rfl (kw rfl (kw rfl (s1 (pkt rfl rfl) ?_)))))))))
          exact SO.nil ((wq rfl))
         ·refine gw rfl (far (k := 4) rfl fo56_4 ts4 rfl) (gw rfl (lod rfl (ld_box ts4 ta4 rfl rfl)) (gw rfl (far (k := 4) rfl fo56_4 ts4 rfl) (gw rfl (lod rfl (ld_box ts4 ta4 rfl rfl)) (gw rfl (bi (v := .d (eB (v804.Ready != v805.Ready))) rfl rfl (fun X Y => b_bool_neq un4 X Y v804.Ready v805.Ready)) (s1 (pkf rfl rfl) (sm rfl (sp h5 (fun h5 => ?_) (fun h5 => ?_))))))))
          ·have q := si h5; subst q
           refine kw rfl (kw rfl (kw rfl (kw rfl (kw rfl (s1 (pkt rfl rfl) (sm rfl (kw rfl (kw rfl (kw rfl ?_)))))))))
           refine kw rfl (kw rfl (kw rfl (s1 (pkt rfl rfl) (sm rfl (kw rfl (kw rfl (kw rfl (kw rfl (kw rfl ?_)))))))))
           exact kw rfl (kw rfl (s1 (pkt rfl rfl) (SO.nil ((wq rfl)))))
          ·refine gw rfl (far (k := 5) rfl fo56_5 ts3 rfl) (gw rfl (lod rfl (ld_box ts3 ta3 rfl rfl)) (gw rfl (far (k := 5) rfl fo56_5 ts3 rfl) (gw rfl (lod rfl (ld_box ts3 ta3 rfl rfl)) (gw rfl (bi rfl rfl q_i64_neq) (s1 (pkf rfl rfl) (sm rfl (sp h5 (fun h5 => ?_) (fun h5 => ?_))))))))
           ·have q := si h5; subst q
            refine kw rfl (kw rfl (kw rfl (kw rfl (kw rfl (kw rfl (s1 (pkt rfl rfl) (sm rfl (kw rfl (kw rfl ?_)))))))))
            exact kw rfl (kw rfl (kw rfl (kw rfl (kw rfl (s1 (pkt rfl rfl) (SO.nil ((wq rfl))))))))
           ·obtain ⟨r811, hq810, h5⟩ := ob h5
            refine gw rfl (far (k := 2) rfl fo56_2 ts23 rfl) (gw rfl (lod rfl (ld_box ts23 ta23 rfl rfl)) (gw rfl (far (k := 2) rfl fo56_2 ts23 rfl) (gw rfl (lod rfl (ld_box ts23 ta23 rfl rfl)) (c0 (raw_Ints_ok v804.Extra v805.Extra _ hq810) (ww rfl) rfl rfl rfl cb29 rfl (fun _ => rfl) (fun _ => rfl) (gw rfl (nt rfl) (s1 (pkf rfl rfl) (sm rfl (sp h5 (fun h5 => ?_) (fun h5 => ?_)))))))))
            ·have q := si h5; subst q
             exact kw rfl (kw rfl (kw rfl (kw rfl (kw rfl (kw rfl (kw rfl (s1 (pkt rfl rfl) (SO.nil ((wq rfl))))))))))
            ·have q := si h5; subst q
             exact gw rfl (far (k := 1) rfl fo56_1 ts54 rfl) (gw rfl (lod rfl (ld_box ts54 ta54 rfl rfl)) (gw rfl (len rfl rfl rfl (len_lst un54)) (gw rfl (far (k := 1) rfl fo56_1 ts54 rfl) (gw rfl (lod rfl (ld_box ts54 ta54 rfl rfl)) (gw rfl (len rfl rfl rfl (len_lst un54)) (gw rfl (bi rfl rfl q_i64_neq) (s1 (pkf rfl rfl) (SO.nil ((wq rfl))))))))))
       ·rintro y808 h4
        refine cB h4 rfl (fun h4 => ?_) (fun h4 => ?_)
        ·have q := si h4; subst q; have q := si h3; subst q; have q : _ = _ := hv3; subst q; have q := si h1; subst q; have q := si h0; subst q
         exact sr (sa rfl (sn (SC.ret (finR (wc (e' := [(4, .d (eB false))]) [] [] (by kernel_rfl) rfl (by kernel_rfl)) (lresT rfl lresN) rfl))))
        ·obtain ⟨u5_819, h5, h4⟩ := ob h4
         refine sk (sr (sa rfl (sn (SC.blk (SC.loopB h5 (fun y => ⟨mk 144 [(2, .ref 0 0 0), (3, .ref 1 0 0), (6, .d (eI y741)), (7, .ref 2 0 0), (8, .ref 3 0 0), (9, .d (eI y))], [.box (.d (eApiTable p0)), .box (.d (eApiTable p1)), .box (.d (eApiIndex v804)), .box (.d (eApiIndex v805))]⟩) (wq rfl) ?_)))))
         intro n822
         rintro y814 w5_818 h6 hv6
         refine sq (sr (sm rfl (s1 (far (k := 1) rfl fo56_1 ts54 rfl) (s1 (lod rfl (ld_box ts54 ta54 rfl rfl)) (s1 (len rfl rfl rfl (len_lst un54)) (s1 (bi rfl rfl q_i64_lss) (sn (cB h6 rfl (fun h6 => ?_) (fun h6 => ?_)))))))))
         ·obtain ⟨v820, hv820, h6⟩ := ob h6; obtain ⟨v821, hv821, h6⟩ := ob h6
          refine sk (sq (SC.blk (sd (by kernel_rfl) (t1 ([], false) (far (k := 1) rfl fo56_1 ts54 rfl) rfl (t1 ([2], false) (lod rfl (ld_box ts54 ta54 rfl rfl)) rfl (t1 ([], false) (mv rfl) rfl (t1 ([], false) (ial rfl rfl un54 ts78 (getI_some hv820).1 (map_get (getI_some hv820).2) rfl) rfl (t1 ([], false) (lod (v := .d (eApiPart v820)) rfl (ld_rop ts78 ta78 rfl)) rfl (t1 ([], false) (far (k := 1) rfl fo56_1 ts54 rfl) rfl ?_)))))))))
          refine t1 ([3], false) (lod rfl (ld_box ts54 ta54 rfl rfl)) rfl (t1 ([], false) (mv rfl) rfl (t1 ([], false) (ial rfl rfl un54 ts78 (getI_some hv821).1 (map_get (getI_some hv821).2) rfl) rfl (t1 ([], false) (lod (v := .d (eApiPart v821)) rfl (ld_rop ts78 ta78 rfl)) rfl (t1 ([], false) (bi (v := .d (eB (!(eqApiPart v820 v821)))) rfl rfl (fun X Y => eqApiPart_neq_78 X Y v820 v821)) rfl (tn (by decide +kernel) (cB h6 rfl (fun h6 => ?_) (fun h6 => ?_)))))))
          ·have q := si h6; subst q; have q : _ = _ := hv6; subst q; have q := si h4; subst q; have q := si h3; subst q; have q : _ = _ := hv3; subst q; have q := si h1; subst q; have q := si h0; subst q
           exact sr (sa rfl (sn (SC.ret (finR (wc (e' := [(4, .d (eB false))]) [] [] (by kernel_rfl) rfl (by kernel_rfl)) (lresT rfl lresN) rfl))))
          ·refine SC.skip ?_
           change SC _ _ _ _ _
           have q := si h6; subst q
           exact SC.region (sm rfl (s1 (bi rfl rfl q_i64_add) (sa rfl (SO.nil (lf (wq rfl))))))
         ·have q := si h6; subst q; have q : _ = _ := hv6; subst q; have q := si h4; subst q
          exact SC.exit (lf (wc [0, 1] [0, 1] (by kernel_rfl) rfl (by kernel_rfl)))
      ·intro _ h3
       have q := si h3; subst q
       exact SC.region (sm rfl (s1 (bi rfl rfl q_i64_add) (sa rfl (SO.nil (lf (wq rfl))))))
     ·have q := si h3; subst q; have q : _ = _ := hv3; subst q; have q := si h1; subst q
      exact SC.exit (lf (wc [] [] (by kernel_rfl) rfl (by kernel_rfl)))
    ·intro _ h0
     have q := si h0; subst q
     exact sr (sa rfl (sn (SC.ret (finR (Wk.refl _) (lresT rfl lresN) rfl))))
noncomputable def law18_awake : Option Bool :=
 Option.bind (catalog_Pairs (ApiTable.mk ([97] : List UInt8) [(ApiColumn.mk ([105, 100] : List UInt8) (1 : Int) (0 : Int) false (ApiValue.mk (1 : Int) (0 : UInt64) ([] : List UInt8)))] [(0 : Int)] ([] : List ApiIndex) (2 : Int))) fun (r47, r48) =>
 Option.bind (catalog_Read r47) fun (r50, r51) =>
 Option.bind (catalog_Ops (1 : Int) [(ApiPair.mk ([97] : List UInt8) ([] : List UInt8))] [(ApiPair.mk ([98] : List UInt8) ([] : List UInt8))]) fun r53 =>
 Option.bind (α := Bool)
 (bif (r48 == (0 : Int)) then
 bif ((r47.length : Int) == (2 : Int)) then
 Option.bind (getI r47 (0 : Int)) fun v62 =>
 bif (v62.Key == ([116, 97] : List UInt8)) then
 Option.bind (getI r47 (0 : Int)) fun v63 =>
 bif (v63.Val == ([0, 2, 1, 1, 0, 0] : List UInt8)) then
 bif (r51 == (0 : Int)) then
 bif ((r50.length : Int) == (1 : Int)) then
 Option.bind (getI r50 (0 : Int)) fun v64 =>
 Option.bind (ref17_Same v64 (ApiTable.mk ([97] : List UInt8) [(ApiColumn.mk ([105, 100] : List UInt8) (1 : Int) (0 : Int) false (ApiValue.mk (1 : Int) (0 : UInt64) ([] : List UInt8)))] [(0 : Int)] ([] : List ApiIndex) (2 : Int))) fun r66 =>
 bif r66 then
 bif ((r53.length : Int) == (2 : Int)) then
 Option.bind (getI r53 (1 : Int)) fun v67 =>
 some (v67.Msg.Key == ([98] : List UInt8))
 else
 some false
 else
 some false
 else
 some false
 else
 some false
 else
 some false
 else
 some false
 else
 some false
 else
 some false)
 fun y60 =>
 some y60
theorem law18_awake_ok (r : Bool) (h0 : law18_awake = some r) : CallAt Tryz.prog 5 [] [] (.d (eB r)) [] := by
 unfold law18_awake at h0
 refine fn0 [] Tryz.func5 rfl rfl rfl rfl rfl ?_
 obtain ⟨⟨r47, r48⟩, hq46, h0⟩ := ob h0; obtain ⟨⟨r50, r51⟩, hq49, h0⟩ := ob h0; obtain ⟨r53, hq52, h0⟩ := ob h0
 refine sr (sa rfl (sn (sr (s1 (bld rfl (bd43_0 (1 : Int))) (s1 (bld rfl (bd45_0_1_4 ([105, 100] : List UInt8) (1 : Int) (ApiValue.mk (1 : Int) (0 : UInt64) ([] : List UInt8)))) (s1 (bsn (k := 0) (ds := List.map eApiColumn [(ApiColumn.mk ([105, 100] : List UInt8) (1 : Int) (0 : Int) false (ApiValue.mk (1 : Int) (0 : UInt64) ([] : List UInt8)))]) (off := 0) (l' := [(ApiColumn.mk ([105, 100] : List UInt8) (1 : Int) (0 : Int) false (ApiValue.mk (1 : Int) (0 : UInt64) ([] : List UInt8)))].length) rfl un22 ei45 rfl rfl (by rfl) rfl rfl rfl) (s1 (bsn (k := 1) (ds := List.map eI [(0 : Int)]) (off := 0) (l' := [(0 : Int)].length) rfl un23 ei3 rfl rfl (by rfl) rfl rfl rfl) (s1 (bld rfl (bd26_0_1_2_4 ([97] : List UInt8) (2 : Int))) (s1 (alo (k := 2) zo26 rfl) ?_)))))))))
 refine s0 (sto rfl rfl (sB (d' := .agg [.d (eS ([97] : List UInt8)), .slc 0 7 0 ([(ApiColumn.mk ([105, 100] : List UInt8) (1 : Int) (0 : Int) false (ApiValue.mk (1 : Int) (0 : UInt64) ([] : List UInt8)))].length) none, .slc 1 1 0 ([(0 : Int)].length) none, .d .nils, .d (eI (2 : Int))]) ts26 rfl rfl rfl rfl rfl rfl rfl)) (sn (sr (s1 (lod (v := .agg [.d (eS ([97] : List UInt8)), .slc 0 7 0 ([(ApiColumn.mk ([105, 100] : List UInt8) (1 : Int) (0 : Int) false (ApiValue.mk (1 : Int) (0 : UInt64) ([] : List UInt8)))].length) none, .slc 1 1 0 ([(0 : Int)].length) none, .d .nils, .d (eI (2 : Int))]) rfl (ld_box ts26 ta26 rfl rfl)) (cq (args' := [.agg [.d (eS ([97] : List UInt8)), .slc 0 7 0 ([(ApiColumn.mk ([105, 100] : List UInt8) (1 : Int) (0 : Int) false (ApiValue.mk (1 : Int) (0 : UInt64) ([] : List UInt8)))].length) none, .slc 1 1 0 ([(0 : Int)].length) none, .d .nils, .d (eI (2 : Int))]]) (σc := [.row 7 (List.map eApiColumn [(ApiColumn.mk ([105, 100] : List UInt8) (1 : Int) (0 : Int) false (ApiValue.mk (1 : Int) (0 : UInt64) ([] : List UInt8)))]) true, .row 1 (List.map eI [(0 : Int)]) true]) [0, 1] [] (CallAt.frz (ArgF.frzw (y := .d (eApiTable (ApiTable.mk ([97] : List UInt8) [(ApiColumn.mk ([105, 100] : List UInt8) (1 : Int) (0 : Int) false (ApiValue.mk (1 : Int) (0 : UInt64) ([] : List UInt8)))] [(0 : Int)] ([] : List ApiIndex) (2 : Int)))) rfl (frzs_d rfl (frzs_slc (fF rfl rfl rfl) (frzs_slc (fF rfl rfl rfl) (frzs_d rfl (frzs_d rfl frzs_nil))))) (AW.aggd rfl (AWs.cons (AW.refl _) (AWs.cons (AW.refl _) (AWs.cons (AW.refl _) (AWs.cons (AW.nl _) (AWs.cons (AW.refl _) AWs.nil)))))) (ArgF.nil _)) (fq [] [] (catalog_Pairs_ok (ApiTable.mk ([97] : List UInt8) [(ApiColumn.mk ([105, 100] : List UInt8) (1 : Int) (0 : Int) false (ApiValue.mk (1 : Int) (0 : UInt64) ([] : List UInt8)))] [(0 : Int)] ([] : List ApiIndex) (2 : Int)) _ hq46) rfl rfl rfl rfl rfl rfl rfl rfl)) wf rfl rfl rfl cb7 rfl rfl rfl rfl rfl rfl rfl rfl ?_))))
 refine sm rfl (s1 (ext rfl rfl) (s1 (ext rfl rfl) (sa rfl (sa rfl (sn (sr (sm rfl (c0 (catalog_Read_ok r47 _ hq49) wf rfl rfl rfl cb11 rfl (fun _ => rfl) (fun _ => rfl) (sm rfl ?_)))))))))
 refine s1 (ext rfl rfl) (s1 (ext rfl rfl) (sa rfl (sa rfl (sn (sr (s1 (bld rfl (bd49_0 ([97] : List UInt8))) (s1 (bsn (k := 3) (ds := List.map eApiPair [(ApiPair.mk ([97] : List UInt8) ([] : List UInt8))]) (off := 0) (l' := [(ApiPair.mk ([97] : List UInt8) ([] : List UInt8))].length) rfl un29 ei49 rfl rfl (by rfl) rfl rfl rfl) (s1 (bld rfl (bd49_0 ([98] : List UInt8))) (s1 (bsn (k := 4) (ds := List.map eApiPair [(ApiPair.mk ([98] : List UInt8) ([] : List UInt8))]) (off := 0) (l' := [(ApiPair.mk ([98] : List UInt8) ([] : List UInt8))].length) rfl un29 ei49 rfl rfl (by rfl) rfl rfl rfl) ?_)))))))))
 refine cq (args' := [.d (eI (1 : Int)), .slc 0 2 0 ([(ApiPair.mk ([97] : List UInt8) ([] : List UInt8))].length) none, .slc 1 2 0 ([(ApiPair.mk ([98] : List UInt8) ([] : List UInt8))].length) none]) (σc := [.row 2 (List.map eApiPair [(ApiPair.mk ([97] : List UInt8) ([] : List UInt8))]) true, .row 2 (List.map eApiPair [(ApiPair.mk ([98] : List UInt8) ([] : List UInt8))]) true]) [3, 4] [] (CallAt.frz (ArgF.keep (ArgF.frz (fF rfl rfl rfl) (ArgF.frz (fF rfl rfl rfl) (ArgF.nil _)))) (fq [] [] (catalog_Ops_ok (1 : Int) [(ApiPair.mk ([97] : List UInt8) ([] : List UInt8))] [(ApiPair.mk ([98] : List UInt8) ([] : List UInt8))] _ hq52) rfl rfl rfl rfl rfl rfl rfl rfl)) wf rfl rfl rfl cb14 rfl rfl rfl rfl rfl rfl rfl rfl (sa rfl (sn (SC.seqP h0 (fun y => ⟨mk 77 [(0, .d (eB y))], []⟩) ?_ ?_)))
 ·intro u1_61 h1
  refine SC.draws (by kernel_rfl) (t1 ([], false) (mv rfl) rfl (t1 ([], false) (bi rfl rfl q_i64_eql) rfl (t1 ([], false) (mv rfl) rfl (tp h1 (fun h1 => ?_) (fun h1 => ?_)))))
  ·refine u1 ([], false) (ww rfl) (mv rfl) rfl (u1 ([], false) (ww rfl) (len rfl rfl rfl (len_lst un29)) rfl (u1 ([], false) (ww rfl) (bi rfl rfl q_i64_eql) rfl (t1 ([], false) (pkt rfl rfl) rfl (t1 ([], false) (mv rfl) rfl (tp h1 (fun h1 => ?_) (fun h1 => ?_))))))
   ·obtain ⟨v62, hv62, h1⟩ := ob h1
    refine u1 ([], false) (ww rfl) (mv rfl) rfl (u1 ([], false) (ww rfl) (ial rfl rfl un29 ts49 (getI_some hv62).1 (map_get (getI_some hv62).2) rfl) rfl (u1 ([], false) (ww rfl) (fap rfl fo49_0 ts9 rfl) rfl (u1 ([], false) (ww rfl) (lod rfl (ld_rop ts9 ta9 rfl)) rfl (u1 ([], false) (ww rfl) (bi rfl rfl (q_str_eql (b := ([116, 97] : List UInt8)))) rfl (t1 ([], false) (pkt rfl rfl) rfl (t1 ([], false) (mv rfl) rfl (tp h1 (fun h1 => ?_) (fun h1 => ?_))))))))
    ·obtain ⟨v63, hv63, h1⟩ := ob h1
     refine u1 ([], false) (ww rfl) (mv rfl) rfl (u1 ([], false) (ww rfl) (ial rfl rfl un29 ts49 (getI_some hv63).1 (map_get (getI_some hv63).2) rfl) rfl (u1 ([], false) (ww rfl) (fap rfl fo49_1 ts9 rfl) rfl (u1 ([], false) (ww rfl) (lod rfl (ld_rop ts9 ta9 rfl)) rfl (u1 ([], false) (ww rfl) (bi rfl rfl (q_str_eql (b := ([0, 2, 1, 1, 0, 0] : List UInt8)))) rfl (t1 ([], false) (pkt rfl rfl) rfl (t1 ([], false) (mv rfl) rfl (tp h1 (fun h1 => ?_) (fun h1 => ?_))))))))
     ·refine u1 ([], false) (ww rfl) (mv rfl) rfl (u1 ([], false) (ww rfl) (bi rfl rfl q_i64_eql) rfl (t1 ([], false) (pkt rfl rfl) rfl (t1 ([], false) (mv rfl) rfl (tp h1 (fun h1 => ?_) (fun h1 => ?_)))))
      ·refine u1 ([], false) (ww rfl) (mv rfl) rfl (u1 ([], false) (ww rfl) (len rfl rfl rfl (len_lst un36)) rfl (u1 ([], false) (ww rfl) (bi rfl rfl q_i64_eql) rfl (t1 ([], false) (pkt rfl rfl) rfl (t1 ([], false) (mv rfl) rfl (tp h1 (fun h1 => ?_) (fun h1 => ?_))))))
       ·obtain ⟨v64, hv64, h1⟩ := ob h1; obtain ⟨r66, hq65, h1⟩ := ob h1
        refine u1 ([], false) (ww rfl) (mv rfl) rfl (u1 ([], false) (ww rfl) (ial rfl rfl un36 ts26 (getI_some hv64).1 (map_get (getI_some hv64).2) rfl) rfl (u1 ([], false) (ww rfl) (lod (v := .d (eApiTable v64)) rfl (ld_rop ts26 ta26 rfl)) rfl (u1 ([2], false) (ww rfl) (lod (v := .agg [.d (eS ([97] : List UInt8)), .slc 0 7 0 ([(ApiColumn.mk ([105, 100] : List UInt8) (1 : Int) (0 : Int) false (ApiValue.mk (1 : Int) (0 : UInt64) ([] : List UInt8)))].length) none, .slc 1 1 0 ([(0 : Int)].length) none, .d .nils, .d (eI (2 : Int))]) rfl (ld_box ts26 ta26 rfl rfl)) rfl (tqr (args' := [.d (eApiTable v64), .agg [.d (eS ([97] : List UInt8)), .slc 0 7 0 ([(ApiColumn.mk ([105, 100] : List UInt8) (1 : Int) (0 : Int) false (ApiValue.mk (1 : Int) (0 : UInt64) ([] : List UInt8)))].length) none, .slc 1 1 0 ([(0 : Int)].length) none, .d .nils, .d (eI (2 : Int))]]) (σc := [.row 7 (List.map eApiColumn [(ApiColumn.mk ([105, 100] : List UInt8) (1 : Int) (0 : Int) false (ApiValue.mk (1 : Int) (0 : UInt64) ([] : List UInt8)))]) false, .row 1 (List.map eI [(0 : Int)]) false]) [0, 1] [0, 1] (CallAt.frz (ArgF.keep (ArgF.frzw (y := .d (eApiTable (ApiTable.mk ([97] : List UInt8) [(ApiColumn.mk ([105, 100] : List UInt8) (1 : Int) (0 : Int) false (ApiValue.mk (1 : Int) (0 : UInt64) ([] : List UInt8)))] [(0 : Int)] ([] : List ApiIndex) (2 : Int)))) rfl (frzs_d rfl (frzs_slc (fF rfl rfl rfl) (frzs_slc (fF rfl rfl rfl) (frzs_d rfl (frzs_d rfl frzs_nil))))) (AW.aggd rfl (AWs.cons (AW.refl _) (AWs.cons (AW.refl _) (AWs.cons (AW.refl _) (AWs.cons (AW.nl _) (AWs.cons (AW.refl _) AWs.nil)))))) (ArgF.nil _))) (fq [] [] (ref17_Same_ok v64 (ApiTable.mk ([97] : List UInt8) [(ApiColumn.mk ([105, 100] : List UInt8) (1 : Int) (0 : Int) false (ApiValue.mk (1 : Int) (0 : UInt64) ([] : List UInt8)))] [(0 : Int)] ([] : List ApiIndex) (2 : Int)) _ hq65) rfl rfl rfl rfl rfl rfl rfl rfl)) (ww rfl) rfl rfl rfl cb10 rfl rfl rfl rfl rfl rfl rfl rfl ?_))))
        refine t1 ([], false) (pkt rfl rfl) rfl (t1 ([], false) (mv rfl) rfl (tp h1 (fun h1 => ?_) (fun h1 => ?_)))
        ·refine u1 ([], false) (ww rfl) (mv rfl) rfl (u1 ([], false) (ww rfl) (len rfl rfl rfl (len_lst un46)) rfl (u1 ([], false) (ww rfl) (bi rfl rfl q_i64_eql) rfl (t1 ([], false) (pkt rfl rfl) rfl (t1 ([], false) (mv rfl) rfl (tp h1 (fun h1 => ?_) (fun h1 => ?_))))))
         ·obtain ⟨v67, hv67, h1⟩ := ob h1; have q := si h1; subst q
          refine u1 ([], false) (ww rfl) (mv rfl) rfl (u1 ([], false) (ww rfl) (ial rfl rfl un46 ts53 (getI_some hv67).1 (map_get (getI_some hv67).2) rfl) rfl (u1 ([], false) (ww rfl) (fap rfl fo53_2 ts51 rfl) rfl (u1 ([], false) (ww rfl) (fap rfl fo51_2 ts9 rfl) rfl (u1 ([], false) (ww rfl) (lod rfl (ld_rop ts9 ta9 rfl)) rfl (u1 ([], false) (ww rfl) (bi rfl rfl (q_str_eql (b := ([98] : List UInt8)))) rfl (t1 ([], false) (pkt rfl rfl) rfl (t1 ([], false) (asg rfl) rfl (ST.nil (And.intro (by decide +kernel) ?_)))))))))
          exact (wc [] [] (by kernel_rfl) rfl (by kernel_rfl))
         ·have q := si h1; subst q
          refine jw rfl (jw rfl (jw rfl (jw rfl (jw rfl (jw rfl (t1 ([], false) (pkf rfl rfl) rfl (t1 ([], false) (asg rfl) rfl (ST.nil (And.intro (by decide +kernel) ?_)))))))))
          exact (wc [] [] (by kernel_rfl) rfl (by kernel_rfl))
        ·have q := si h1; subst q
         refine jw rfl (jw rfl (jw rfl (t1 ([], false) (pkf rfl rfl) rfl (t1 ([], false) (mv rfl) rfl (jw rfl (jw rfl (jw rfl (jw rfl (jw rfl ?_)))))))))
         refine jw rfl (t1 ([], false) (pkf rfl rfl) rfl (t1 ([], false) (asg rfl) rfl (ST.nil (And.intro (by decide +kernel) ?_))))
         exact (wc [] [] (by kernel_rfl) rfl (by kernel_rfl))
       ·have q := si h1; subst q
        refine jw rfl (jw rfl (jw rfl (jw rfl (jw rfl (t1 ([], false) (pkf rfl rfl) rfl (t1 ([], false) (mv rfl) rfl (jw rfl (jw rfl (jw rfl ?_)))))))))
        refine t1 ([], false) (pkf rfl rfl) rfl (t1 ([], false) (mv rfl) rfl (jw rfl (jw rfl (jw rfl (jw rfl (jw rfl (jw rfl (t1 ([], false) (pkf rfl rfl) rfl (t1 ([], false) (asg rfl) rfl ?_)))))))))
        refine ST.nil (And.intro (by decide +kernel) ?_)
        exact (wc [] [] (by kernel_rfl) rfl (by kernel_rfl))
      ·have q := si h1; subst q
       refine jw rfl (jw rfl (jw rfl (t1 ([], false) (pkf rfl rfl) rfl (t1 ([], false) (mv rfl) rfl (jw rfl (jw rfl (jw rfl (jw rfl (jw rfl ?_)))))))))
       refine t1 ([], false) (pkf rfl rfl) rfl (t1 ([], false) (mv rfl) rfl (jw rfl (jw rfl (jw rfl (t1 ([], false) (pkf rfl rfl) rfl (t1 ([], false) (mv rfl) rfl (jw rfl (jw rfl (jw rfl ?_)))))))))
       refine jw rfl (jw rfl (jw rfl (t1 ([], false) (pkf rfl rfl) rfl (t1 ([], false) (asg rfl) rfl (ST.nil (And.intro (by decide +kernel) ?_))))))
       exact (wc [] [] (by kernel_rfl) rfl (by kernel_rfl))
     ·have q := si h1; subst q
      refine jw rfl (jw rfl (t1 ([], false) (pkf rfl rfl) rfl (t1 ([], false) (mv rfl) rfl (jw rfl (jw rfl (jw rfl (t1 ([], false) (pkf rfl rfl) rfl (t1 ([], false) (mv rfl) rfl (jw rfl ?_)))))))))
      refine jw rfl (jw rfl (jw rfl (jw rfl (t1 ([], false) (pkf rfl rfl) rfl (t1 ([], false) (mv rfl) rfl (jw rfl (jw rfl (jw rfl (t1 ([], false) (pkf rfl rfl) rfl ?_)))))))))
      refine t1 ([], false) (mv rfl) rfl (jw rfl (jw rfl (jw rfl (jw rfl (jw rfl (jw rfl (t1 ([], false) (pkf rfl rfl) rfl (t1 ([], false) (asg rfl) rfl (ST.nil (And.intro (by decide +kernel) ?_))))))))))
      exact (wc [] [] (by kernel_rfl) rfl (by kernel_rfl))
    ·have q := si h1; subst q
     refine jw rfl (jw rfl (jw rfl (jw rfl (jw rfl (t1 ([], false) (pkf rfl rfl) rfl (t1 ([], false) (mv rfl) rfl (jw rfl (jw rfl (t1 ([], false) (pkf rfl rfl) rfl ?_)))))))))
     refine t1 ([], false) (mv rfl) rfl (jw rfl (jw rfl (jw rfl (t1 ([], false) (pkf rfl rfl) rfl (t1 ([], false) (mv rfl) rfl (jw rfl (jw rfl (jw rfl (jw rfl ?_)))))))))
     refine jw rfl (t1 ([], false) (pkf rfl rfl) rfl (t1 ([], false) (mv rfl) rfl (jw rfl (jw rfl (jw rfl (t1 ([], false) (pkf rfl rfl) rfl (t1 ([], false) (mv rfl) rfl (jw rfl (jw rfl ?_)))))))))
     refine jw rfl (jw rfl (jw rfl (jw rfl (t1 ([], false) (pkf rfl rfl) rfl (t1 ([], false) (asg rfl) rfl (ST.nil (And.intro (by decide +kernel) ?_)))))))
     exact (wc [] [] (by kernel_rfl) rfl (by kernel_rfl))
   ·have q := si h1; subst q
    refine jw rfl (jw rfl (jw rfl (jw rfl (jw rfl (t1 ([], false) (pkf rfl rfl) rfl (t1 ([], false) (mv rfl) rfl (jw rfl (jw rfl (jw rfl ?_)))))))))
    refine jw rfl (jw rfl (t1 ([], false) (pkf rfl rfl) rfl (t1 ([], false) (mv rfl) rfl (jw rfl (jw rfl (t1 ([], false) (pkf rfl rfl) rfl (t1 ([], false) (mv rfl) rfl (jw rfl (jw rfl ?_)))))))))
    refine jw rfl (t1 ([], false) (pkf rfl rfl) rfl (t1 ([], false) (mv rfl) rfl (jw rfl (jw rfl (jw rfl (jw rfl (jw rfl (t1 ([], false) (pkf rfl rfl) rfl (t1 ([], false) (mv rfl) rfl ?_)))))))))
    refine jw rfl (jw rfl (jw rfl (t1 ([], false) (pkf rfl rfl) rfl (t1 ([], false) (mv rfl) rfl (jw rfl (jw rfl (jw rfl (jw rfl (jw rfl ?_)))))))))
    refine jw rfl (t1 ([], false) (pkf rfl rfl) rfl (t1 ([], false) (asg rfl) rfl (ST.nil (And.intro (by decide +kernel) ?_))))
    exact (wc [] [] (by kernel_rfl) rfl (by kernel_rfl))
  ·have q := si h1; subst q
   refine jw rfl (jw rfl (jw rfl (t1 ([], false) (pkf rfl rfl) rfl (t1 ([], false) (mv rfl) rfl (jw rfl (jw rfl (jw rfl (jw rfl (jw rfl ?_)))))))))
   refine t1 ([], false) (pkf rfl rfl) rfl (t1 ([], false) (mv rfl) rfl (jw rfl (jw rfl (jw rfl (jw rfl (jw rfl (t1 ([], false) (pkf rfl rfl) rfl (t1 ([], false) (mv rfl) rfl (jw rfl ?_)))))))))
   refine jw rfl (t1 ([], false) (pkf rfl rfl) rfl (t1 ([], false) (mv rfl) rfl (jw rfl (jw rfl (jw rfl (t1 ([], false) (pkf rfl rfl) rfl (t1 ([], false) (mv rfl) rfl (jw rfl (jw rfl ?_)))))))))
   refine jw rfl (jw rfl (jw rfl (t1 ([], false) (pkf rfl rfl) rfl (t1 ([], false) (mv rfl) rfl (jw rfl (jw rfl (jw rfl (t1 ([], false) (pkf rfl rfl) rfl (t1 ([], false) (mv rfl) rfl ?_)))))))))
   refine jw rfl (jw rfl (jw rfl (jw rfl (jw rfl (jw rfl (t1 ([], false) (pkf rfl rfl) rfl (t1 ([], false) (asg rfl) rfl (ST.nil (And.intro (by decide +kernel) ?_)))))))))
   exact (wc [] [] (by kernel_rfl) rfl (by kernel_rfl))
 ·rintro y60 h0
  have q := si h0; subst q
  exact SC.ret (finR (Wk.refl _) (lresT rfl lresN) rfl)
noncomputable def ref17_Copy (p0 : ApiTable) : Option ((List ApiIndex)) :=
 bif decide ((([] : List ApiColumn).length + p0.Cols.length) * 72 ≤ room) then
 bif decide ((([] : List Int).length + p0.Primary.length) * 8 ≤ room) then
 Option.bind (α := (List ApiIndex))
 (Option.bind (α := (List ApiIndex))
 (loop (Y := (List ApiIndex) × Int) (W := (List ApiIndex)) (fun (y113, y114) =>
 bif (decide (y114 < (p0.Indexes.length : Int))) then
 Option.bind (getI p0.Indexes y114) fun v123 =>
 bif decide ((([] : List ApiPart).length + v123.Parts.length) * 16 ≤ room) then
 bif decide ((([] : List Int).length + v123.Extra.length) * 8 ≤ room) then
 bif decide ((y113.length + [(ApiIndex.mk v123.Name (([] : List ApiPart) ++ v123.Parts) (([] : List Int) ++ v123.Extra) v123.Unique v123.Ready v123.Tree)].length) * 80 ≤ room) then
 some (Sum.inl ((y113 ++ [(ApiIndex.mk v123.Name (([] : List ApiPart) ++ v123.Parts) (([] : List Int) ++ v123.Extra) v123.Unique v123.Ready v123.Tree)]), (w64 (y114 + (1 : Int)))))
 else none
 else none
 else none
 else
 some (Sum.inr y113)) (([] : List ApiIndex), (0 : Int)))
 (fun e => some e))
 fun y107 =>
 some y107
 else none
 else none
theorem ref17_Copy_ok (p0 : ApiTable) (r : (List ApiIndex)) (h0 : ref17_Copy p0 = some r) : CallAt Tryz.prog 6 [.d (eApiTable p0)] [] (.agg [.d (eS p0.Name), .slc 1 7 0 ((([] : List ApiColumn) ++ p0.Cols).length) none, .slc 2 1 0 ((([] : List Int) ++ p0.Primary).length) none, .slc 3 6 0 r.length none, .d (eI p0.Tree)]) [.box (.agg [.d (eS p0.Name), .slc 1 7 0 ((([] : List ApiColumn) ++ p0.Cols).length) none, .slc 2 1 0 ((([] : List Int) ++ p0.Primary).length) none, .slc 3 6 0 r.length none, .d (eI p0.Tree)]), .row 7 (List.map eApiColumn (([] : List ApiColumn) ++ p0.Cols)) true, .row 1 (List.map eI (([] : List Int) ++ p0.Primary)) true, .row 6 (List.map eApiIndex r) true] := by
 unfold ref17_Copy at h0
 refine fn0 [0] Tryz.func6 rfl rfl rfl rfl rfl ?_
 obtain ⟨hg86, h0⟩ := gd h0; obtain ⟨hg87, h0⟩ := gd h0
 refine sr (s1 (bxo (k := 0) rfl rfl rfl) (s1 (alo (k := 1) zo26 rfl) (sn (sr (s1 (bsn (k := 2) (ds := List.map eApiColumn ([] : List ApiColumn)) (off := 0) (l' := ([] : List ApiColumn).length) rfl un22 ei45 rfl rfl rfl rfl rfl rfl) (s1 (far (k := 1) rfl fo26_1 ts22 rfl) (s1 (lod rfl (ld_box ts22 ta22 rfl rfl)) (s1 (app rfl rfl rfl rfl bc22 (aF (f := eApiColumn) (xs := ([] : List ApiColumn)) (k := 3) rfl un22 ei45 rfl el_lst hg86 rfl)) (s1 (far (k := 1) rfl fo26_1 ts22 rfl) ?_)))))))))
 refine s0 (sto rfl rfl (sB (d' := .agg [.d (eS p0.Name), .slc 3 7 0 ((([] : List ApiColumn) ++ p0.Cols).length) none, .d ((eL 1 eI) p0.Primary), .d ((eL 6 eApiIndex) p0.Indexes), .d (eI p0.Tree)]) ts22 rfl rfl rfl rfl rfl rfl rfl)) (sn (sr (s1 (bsn (k := 4) (ds := List.map eI ([] : List Int)) (off := 0) (l' := ([] : List Int).length) rfl un23 ei3 rfl rfl rfl rfl rfl rfl) (s1 (far (k := 2) rfl fo26_2 ts23 rfl) (s1 (lod rfl (ld_box ts23 ta23 rfl rfl)) (s1 (app rfl rfl rfl rfl bc23 (aF (f := eI) (xs := ([] : List Int)) (k := 5) rfl un23 ei3 rfl el_lst hg87 rfl)) (s1 (far (k := 2) rfl fo26_2 ts23 rfl) (s0 (sto rfl rfl (sB (d' := .agg [.d (eS p0.Name), .slc 3 7 0 ((([] : List ApiColumn) ++ p0.Cols).length) none, .slc 5 1 0 ((([] : List Int) ++ p0.Primary).length) none, .d ((eL 6 eApiIndex) p0.Indexes), .d (eI p0.Tree)]) ts23 rfl rfl rfl rfl rfl rfl rfl)) (sn ?_)))))))))
 refine sr (s1 (asg (v := .d .nils) rfl) (sn (SC.seqP h0 (fun y => ⟨mk 45 [(1, .ref 0 0 0), (2, .ref 1 0 0), (3, .slc 2 6 0 y.length none)], [.box (.agg [.d (eS p0.Name), .slc 3 7 0 ((([] : List ApiColumn) ++ p0.Cols).length) none, .slc 4 1 0 ((([] : List Int) ++ p0.Primary).length) none, .d ((eL 6 eApiIndex) p0.Indexes), .d (eI p0.Tree)]), .box (.d (.agg [(eS ([] : List UInt8)), .nils, .nils, .nils, (eI (0 : Int))])), .row 6 (List.map eApiIndex y) true, .row 7 (List.map eApiColumn (([] : List ApiColumn) ++ p0.Cols)) true, .row 1 (List.map eI (([] : List Int) ++ p0.Primary)) true]⟩) ?_ ?_)))
 ·intro u1_108 h1
  obtain ⟨u2_122, h2, h1⟩ := ob h1
  refine sr (sa rfl (sn (SC.blk (SC.loopB h2 (fun y => ⟨mk 45 [(1, .ref 0 0 0), (2, .ref 1 0 0), (3, .slc 2 6 0 y.1.length none), (4, .d (eI y.2))], [.box (.agg [.d (eS p0.Name), .slc 3 7 0 ((([] : List ApiColumn) ++ p0.Cols).length) none, .slc 4 1 0 ((([] : List Int) ++ p0.Primary).length) none, .d ((eL 6 eApiIndex) p0.Indexes), .d (eI p0.Tree)]), .box (.d (.agg [(eS ([] : List UInt8)), .nils, .nils, .nils, (eI (0 : Int))])), .row 6 (List.map eApiIndex y.1) true, .row 7 (List.map eApiColumn (([] : List ApiColumn) ++ p0.Cols)) true, .row 1 (List.map eI (([] : List Int) ++ p0.Primary)) true]⟩) (Wk.trans (Wk.pushE (σ' := [.box (.agg [.d (eS p0.Name), .slc 3 7 0 ((([] : List ApiColumn) ++ p0.Cols).length) none, .slc 5 1 0 ((([] : List Int) ++ p0.Primary).length) none, .d ((eL 6 eApiIndex) p0.Indexes), .d (eI p0.Tree)]), .box (.d (.agg [(eS ([] : List UInt8)), .nils, .nils, .nils, (eI (0 : Int))])), .dead, .row 7 (List.map eApiColumn (([] : List ApiColumn) ++ p0.Cols)) true, .dead, .row 1 (List.map eI (([] : List Int) ++ p0.Primary)) true, .row 6 (List.map eApiIndex ([] : List ApiIndex)) true]) (.row 6 [] true) (fun _ hh => by cases hh) rfl) (Wk.trans (Wk.env (e' := [(1, .ref 0 0 0), (2, .ref 1 0 0), (3, .slc 6 6 0 (([] : List ApiIndex).length) none), (4, .d (eI (0 : Int)))]) (EW.cons (AW.refl _) (EW.cons (AW.refl _) (EW.cons (AW.slcn _ _ _) (EW.cons (AW.refl _) EW.nil))))) (wc [0, 1, 6, 3, 5] [0, 1, 6] (by kernel_rfl) rfl (by kernel_rfl)))) ?_))))
  intro n127
  rintro ⟨y113, y114⟩ w2_121 h3 hv3
  refine sq (sr (sm rfl (s1 (far (k := 3) rfl fo26_3 ts24 rfl) (s1 (lod rfl (ld_box ts24 ta24 rfl rfl)) (s1 (len rfl rfl rfl (len_lst un24)) (s1 (bi rfl rfl q_i64_lss) (sn (cB h3 rfl (fun h3 => ?_) (fun h3 => ?_)))))))))
  ·obtain ⟨v123, hv123, h3⟩ := ob h3; obtain ⟨hg124, h3⟩ := gd h3; obtain ⟨hg125, h3⟩ := gd h3; obtain ⟨hg126, h3⟩ := gd h3
   refine sk (sq (SC.blk (sr (s1 (far (k := 3) rfl fo26_3 ts24 rfl) (s1 (lod rfl (ld_box ts24 ta24 rfl rfl)) (sm rfl (s1 (ial rfl rfl un24 ts56 (getI_some hv123).1 (map_get (getI_some hv123).2) rfl) (s1 (lod (v := .d (eApiIndex v123)) rfl (ld_rop ts56 ta56 rfl)) (s1 (alo (k := 5) zo56 rfl) ?_)))))))))
   refine s0 (sto rfl rfl (sB (d' := .d (eApiIndex v123)) ts56 rfl rfl rfl rfl rfl rfl rfl)) (sn (sr (s1 (bsn (k := 6) (ds := List.map eApiPart ([] : List ApiPart)) (off := 0) (l' := ([] : List ApiPart).length) rfl un54 ei78 rfl rfl rfl rfl rfl rfl) (s1 (far (k := 1) rfl fo56_1 ts54 rfl) (s1 (lod rfl (ld_box ts54 ta54 rfl rfl)) (s1 (app rfl rfl rfl rfl bc54 (aF (f := eApiPart) (xs := ([] : List ApiPart)) (k := 7) rfl un54 ei78 rfl el_lst hg124 rfl)) (s1 (far (k := 1) rfl fo56_1 ts54 rfl) (s0 (sto rfl rfl (sB (d' := .agg [.d (eS v123.Name), .slc 7 2 0 ((([] : List ApiPart) ++ v123.Parts).length) none, .d ((eL 1 eI) v123.Extra), .d (eB v123.Unique), .d (eB v123.Ready), .d (eI v123.Tree)]) ts54 rfl rfl rfl rfl rfl rfl rfl)) (sn ?_)))))))))
   refine sr (s1 (bsn (k := 8) (ds := List.map eI ([] : List Int)) (off := 0) (l' := ([] : List Int).length) rfl un23 ei3 rfl rfl rfl rfl rfl rfl) (s1 (far (k := 2) rfl fo56_2 ts23 rfl) (s1 (lod rfl (ld_box ts23 ta23 rfl rfl)) (s1 (app rfl rfl rfl rfl bc23 (aF (f := eI) (xs := ([] : List Int)) (k := 9) rfl un23 ei3 rfl el_lst hg125 rfl)) (s1 (far (k := 2) rfl fo56_2 ts23 rfl) (s0 (sto rfl rfl (sB (d' := .agg [.d (eS v123.Name), .slc 7 2 0 ((([] : List ApiPart) ++ v123.Parts).length) none, .slc 9 1 0 ((([] : List Int) ++ v123.Extra).length) none, .d (eB v123.Unique), .d (eB v123.Ready), .d (eI v123.Tree)]) ts23 rfl rfl rfl rfl rfl rfl rfl)) (sn (SC.region (sm rfl ?_)))))))))
   refine s1 (lod (v := .agg [.d (eS v123.Name), .slc 7 2 0 ((([] : List ApiPart) ++ v123.Parts).length) none, .slc 9 1 0 ((([] : List Int) ++ v123.Extra).length) none, .d (eB v123.Unique), .d (eB v123.Ready), .d (eI v123.Tree)]) rfl (ld_box ts56 ta56 rfl rfl)) (SO.wk (Wk.frzs (i := 39) (x := .agg [.d (eS v123.Name), .slc 7 2 0 ((([] : List ApiPart) ++ v123.Parts).length) none, .slc 9 1 0 ((([] : List Int) ++ v123.Extra).length) none, .d (eB v123.Unique), .d (eB v123.Ready), .d (eI v123.Tree)]) rfl rfl rfl (frzs_d rfl (frzs_slc (fF rfl rfl rfl) (frzs_slc (fF rfl rfl rfl) (frzs_d rfl (frzs_d rfl (frzs_d rfl frzs_nil))))))) (s1 (bsn (k := 10) (ds := List.map eApiIndex [(ApiIndex.mk v123.Name (([] : List ApiPart) ++ v123.Parts) (([] : List Int) ++ v123.Extra) v123.Unique v123.Ready v123.Tree)]) (off := 0) (l' := [(ApiIndex.mk v123.Name (([] : List ApiPart) ++ v123.Parts) (([] : List Int) ++ v123.Extra) v123.Unique v123.Ready v123.Tree)].length) rfl un24 ei56 rfl rfl (by rfl) rfl rfl rfl) (s1 (app rfl rfl rfl rfl bc24 (aF (f := eApiIndex) (xs := y113) (k := 11) rfl un24 ei56 rfl (el_full (xs := [(ApiIndex.mk v123.Name (([] : List ApiPart) ++ v123.Parts) (([] : List Int) ++ v123.Extra) v123.Unique v123.Ready v123.Tree)]) rfl) hg126 rfl)) (sa rfl (SO.nil ?_)))))
   change SC _ _ _ _ _
   have q := si h3; subst q
   exact SC.region (sm rfl (s1 (bi rfl rfl q_i64_add) (sa rfl (SO.nil (lf (wc [0, 1, 11, 3, 4] [0, 1, 11] (by kernel_rfl) rfl (by kernel_rfl)))))))
  ·have q := si h3; subst q; have q : _ = _ := hv3; subst q; have q := si h1; subst q
   exact SC.exit ((wq rfl))
 ·rintro y107 h0
  have q := si h0; subst q
  refine sr (sm rfl (s1 (far (k := 3) rfl fo26_3 ts24 rfl) (s0 (sto rfl rfl (sB (d' := .agg [.d (eS p0.Name), .slc 3 7 0 ((([] : List ApiColumn) ++ p0.Cols).length) none, .slc 4 1 0 ((([] : List Int) ++ p0.Primary).length) none, .slc 2 6 0 y107.length none, .d (eI p0.Tree)]) ts24 rfl rfl rfl rfl rfl rfl rfl)) (sn (sr (s1 (lod (v := .agg [.d (eS p0.Name), .slc 3 7 0 ((([] : List ApiColumn) ++ p0.Cols).length) none, .slc 4 1 0 ((([] : List Int) ++ p0.Primary).length) none, .slc 2 6 0 y107.length none, .d (eI p0.Tree)]) rfl (ld_box ts26 ta26 rfl rfl)) (s0 (sto rfl rfl (sB (d' := .agg [.d (eS p0.Name), .slc 3 7 0 ((([] : List ApiColumn) ++ p0.Cols).length) none, .slc 4 1 0 ((([] : List Int) ++ p0.Primary).length) none, .slc 2 6 0 y107.length none, .d (eI p0.Tree)]) ts26 rfl rfl rfl rfl rfl rfl rfl)) (sn (SC.ret ?_)))))))))
  exact finR (wc (e' := [(2, .ref 0 0 0)]) [1, 3, 4, 2] [1] (by kernel_rfl) rfl (by kernel_rfl)) (lresC rfl (ld_box ts26 ta26 rfl rfl) lresN) rfl
noncomputable def ref06_Name (p0 : List UInt8) : Option Bool :=
 Option.bind (α := Bool)
 (bif (decide ((p0.length : Int) < (1 : Int))) then
 some true
 else
 bif (decide ((p0.length : Int) > (16 : Int))) then
 some true
 else
 Option.bind (getI p0 (0 : Int)) fun v304 =>
 bif (decide (v304 < (97 : UInt8))) then
 some true
 else
 Option.bind (getI p0 (0 : Int)) fun v305 =>
 some (decide ((122 : UInt8) < v305)))
 fun y302 =>
 bif y302 then
 some false
 else
 bindE (Y := Unit) (E := Bool)
 (Option.bind (α := Unit ⊕ Bool)
 (loop (Y := Int) (W := Unit ⊕ Bool) (fun y400 =>
 bif (decide (y400 < (p0.length : Int))) then
 Option.bind (α := Bool)
 (Option.bind (getI p0 y400) fun v438 =>
 bif (decide (v438 < (97 : UInt8))) then
 Option.bind (getI p0 y400) fun v439 =>
 bif (decide (v439 < (48 : UInt8))) then
 Option.bind (getI p0 y400) fun v440 =>
 some (v440 != (95 : UInt8))
 else
 Option.bind (getI p0 y400) fun v441 =>
 bif (decide ((57 : UInt8) < v441)) then
 Option.bind (getI p0 y400) fun v442 =>
 some (v442 != (95 : UInt8))
 else
 some false
 else
 Option.bind (getI p0 y400) fun v443 =>
 bif (decide ((122 : UInt8) < v443)) then
 Option.bind (getI p0 y400) fun v444 =>
 bif (decide (v444 < (48 : UInt8))) then
 Option.bind (getI p0 y400) fun v445 =>
 some (v445 != (95 : UInt8))
 else
 Option.bind (getI p0 y400) fun v446 =>
 bif (decide ((57 : UInt8) < v446)) then
 Option.bind (getI p0 y400) fun v447 =>
 some (v447 != (95 : UInt8))
 else
 some false
 else
 some false)
 fun y436 =>
 bif y436 then
 some (Sum.inr (Sum.inr false))
 else
 some (Sum.inl (w64 (y400 + (1 : Int))))
 else
 some (Sum.inr (Sum.inl ()))) (1 : Int))
 (Sum.elim (fun e => some (Sum.inl e)) (fun e => some (Sum.inr e))))
 (fun _ =>
 some true)
 (fun e => some e)
theorem ref06_Name_ok (p0 : List UInt8) (r : Bool) (h0 : ref06_Name p0 = some r) : CallAt Tryz.prog 42 [.d (eS p0)] [] (.d (eB r)) [] := by
 unfold ref06_Name at h0
 refine fn0 [0] Tryz.func42 rfl rfl rfl rfl rfl ?_
 refine sr (sa rfl (sn (sq (SC.seqP h0 (fun y => ⟨mk 56 [(0, .d (eS p0)), (21, .d (eB y))], []⟩) ?_ ?_))))
 ·intro u1_303 h1
  refine SC.region (sm rfl (s1 (len rfl rfl rfl (len_str un9)) (s1 (bi rfl rfl q_i64_lss) (sm rfl (sp h1 (fun h1 => ?_) (fun h1 => ?_))))))
  ·have q := si h1; subst q
   refine kw rfl (kw rfl (kw rfl (s1 (pkt rfl rfl) (sm rfl (kw rfl (kw rfl (kw rfl (s1 (pkt rfl rfl) (sm rfl ?_)))))))))
   exact kw rfl (kw rfl (kw rfl (s1 (pkt rfl rfl) (SO.nil ((wq rfl))))))
  ·refine gw rfl (mv rfl) (gw rfl (len rfl rfl rfl (len_str un9)) (gw rfl (bi rfl rfl q_i64_gtr) (s1 (pkf rfl rfl) (sm rfl (sp h1 (fun h1 => ?_) (fun h1 => ?_))))))
   ·have q := si h1; subst q
    refine kw rfl (kw rfl (kw rfl (s1 (pkt rfl rfl) (sm rfl (kw rfl (kw rfl (kw rfl (s1 (pkt rfl rfl) (SO.nil ?_)))))))))
    exact (wq rfl)
   ·obtain ⟨v304, hv304, h1⟩ := ob h1
    refine gw rfl (mv rfl) (gw rfl (ixs rfl rfl rfl rfl (ix_str un9 (getI_some hv304).1 (getI_some hv304).2)) (gw rfl (bi rfl rfl (q_u8_lss (b := (97 : UInt8)))) (s1 (pkf rfl rfl) (sm rfl (sp h1 (fun h1 => ?_) (fun h1 => ?_))))))
    ·have q := si h1; subst q
     exact kw rfl (kw rfl (kw rfl (s1 (pkt rfl rfl) (SO.nil ((wq rfl))))))
    ·obtain ⟨v305, hv305, h1⟩ := ob h1; have q := si h1; subst q
     exact gw rfl (mv rfl) (gw rfl (ixs rfl rfl rfl rfl (ix_str un9 (getI_some hv305).1 (getI_some hv305).2)) (gw rfl (bi rfl rfl (q_u8_gtr (b := (122 : UInt8)))) (s1 (pkf rfl rfl) (SO.nil ((wq rfl))))))
 ·rintro y302 h0
  refine cB h0 rfl (fun h0 => ?_) (fun h0 => ?_)
  ·have q := si h0; subst q
   exact sr (sa rfl (sn (SC.ret (finR (Wk.refl _) (lresT rfl lresN) rfl))))
  ·refine sk (SC.seqB h0 (fun y => ⟨mk 56 [], []⟩) ?_ ?_)
   ·intro u1_377 h1 h0
    obtain ⟨u2_425, h2, h1⟩ := ob h1
    refine sr (sa rfl (sn (SC.blk (SC.loopB h2 (fun y => ⟨mk 56 [(0, .d (eS p0)), (3, .d (eI y))], []⟩) (wq rfl) ?_))))
    intro n448
    rintro y400 w2_424 h3 hv3
    refine sq (sr (sm rfl (sm rfl (s1 (len rfl rfl rfl (len_str un9)) (s1 (bi rfl rfl q_i64_lss) (sn (cB h3 rfl (fun h3 => ?_) (fun h3 => ?_))))))))
    ·refine sk (sq (SC.blk (SC.seqP h3 (fun y => ⟨mk 56 [(0, .d (eS p0)), (3, .d (eI y400)), (55, .d (eB y))], []⟩) ?_ ?_)))
     ·intro u4_437 h4
      obtain ⟨v438, hv438, h4⟩ := ob h4
      refine SC.region (sm rfl (sm rfl (s1 (ixs rfl rfl rfl rfl (ix_str un9 (getI_some hv438).1 (getI_some hv438).2)) (s1 (bi rfl rfl (q_u8_lss (b := (97 : UInt8)))) (sm rfl (sp h4 (fun h4 => ?_) (fun h4 => ?_)))))))
      ·obtain ⟨v439, hv439, h4⟩ := ob h4
       refine kw rfl (kw rfl (kw rfl (kw rfl (s1 (pkt rfl rfl) (sm rfl (gw rfl (mv rfl) (gw rfl (mv rfl) (gw rfl (ixs rfl rfl rfl rfl (ix_str un9 (getI_some hv439).1 (getI_some hv439).2)) (gw rfl (bi rfl rfl (q_u8_lss (b := (48 : UInt8)))) ?_)))))))))
       refine gw rfl (mv rfl) (sp h4 (fun h4 => ?_) (fun h4 => ?_))
       ·obtain ⟨v440, hv440, h4⟩ := ob h4; have q := si h4; subst q
        refine kw rfl (kw rfl (kw rfl (kw rfl (gw rfl (pkt rfl rfl) (s1 (pkt rfl rfl) (sm rfl (gw rfl (mv rfl) (gw rfl (mv rfl) (gw rfl (ixs rfl rfl rfl rfl (ix_str un9 (getI_some hv440).1 (getI_some hv440).2)) ?_)))))))))
        exact gw rfl (bi rfl rfl (q_u8_neq (b := (95 : UInt8)))) (s1 (pkt rfl rfl) (SO.nil ((wq rfl))))
       ·obtain ⟨v441, hv441, h4⟩ := ob h4
        refine gw rfl (mv rfl) (gw rfl (mv rfl) (gw rfl (ixs rfl rfl rfl rfl (ix_str un9 (getI_some hv441).1 (getI_some hv441).2)) (gw rfl (bi rfl rfl (q_u8_gtr (b := (57 : UInt8)))) (gw rfl (pkf rfl rfl) (s1 (pkt rfl rfl) (sm rfl (sp h4 (fun h4 => ?_) (fun h4 => ?_))))))))
        ·obtain ⟨v442, hv442, h4⟩ := ob h4; have q := si h4; subst q
         exact gw rfl (mv rfl) (gw rfl (mv rfl) (gw rfl (ixs rfl rfl rfl rfl (ix_str un9 (getI_some hv442).1 (getI_some hv442).2)) (gw rfl (bi rfl rfl (q_u8_neq (b := (95 : UInt8)))) (s1 (pkt rfl rfl) (SO.nil ((wq rfl)))))))
        ·have q := si h4; subst q
         exact kw rfl (kw rfl (kw rfl (kw rfl (s1 (pkf rfl rfl) (SO.nil ((wq rfl)))))))
      ·obtain ⟨v443, hv443, h4⟩ := ob h4
       refine gw rfl (mv rfl) (gw rfl (mv rfl) (gw rfl (ixs rfl rfl rfl rfl (ix_str un9 (getI_some hv443).1 (getI_some hv443).2)) (gw rfl (bi rfl rfl (q_u8_gtr (b := (122 : UInt8)))) (s1 (pkf rfl rfl) (sm rfl (sp h4 (fun h4 => ?_) (fun h4 => ?_)))))))
       ·obtain ⟨v444, hv444, h4⟩ := ob h4
        refine gw rfl (mv rfl) (gw rfl (mv rfl) (gw rfl (ixs rfl rfl rfl rfl (ix_str un9 (getI_some hv444).1 (getI_some hv444).2)) (gw rfl (bi rfl rfl (q_u8_lss (b := (48 : UInt8)))) (gw rfl (mv rfl) (sp h4 (fun h4 => ?_) (fun h4 => ?_))))))
        ·obtain ⟨v445, hv445, h4⟩ := ob h4; have q := si h4; subst q
         refine kw rfl (kw rfl (kw rfl (kw rfl (gw rfl (pkt rfl rfl) (s1 (pkt rfl rfl) (sm rfl (gw rfl (mv rfl) (gw rfl (mv rfl) (gw rfl (ixs rfl rfl rfl rfl (ix_str un9 (getI_some hv445).1 (getI_some hv445).2)) ?_)))))))))
         exact gw rfl (bi rfl rfl (q_u8_neq (b := (95 : UInt8)))) (s1 (pkt rfl rfl) (SO.nil ((wq rfl))))
        ·obtain ⟨v446, hv446, h4⟩ := ob h4
         refine gw rfl (mv rfl) (gw rfl (mv rfl) (gw rfl (ixs rfl rfl rfl rfl (ix_str un9 (getI_some hv446).1 (getI_some hv446).2)) (gw rfl (bi rfl rfl (q_u8_gtr (b := (57 : UInt8)))) (gw rfl (pkf rfl rfl) (s1 (pkt rfl rfl) (sm rfl (sp h4 (fun h4 => ?_) (fun h4 => ?_))))))))
         ·obtain ⟨v447, hv447, h4⟩ := ob h4; have q := si h4; subst q
          exact gw rfl (mv rfl) (gw rfl (mv rfl) (gw rfl (ixs rfl rfl rfl rfl (ix_str un9 (getI_some hv447).1 (getI_some hv447).2)) (gw rfl (bi rfl rfl (q_u8_neq (b := (95 : UInt8)))) (s1 (pkt rfl rfl) (SO.nil ((wq rfl)))))))
         ·have q := si h4; subst q
          exact kw rfl (kw rfl (kw rfl (kw rfl (s1 (pkf rfl rfl) (SO.nil ((wq rfl)))))))
       ·have q := si h4; subst q
        refine kw rfl (kw rfl (kw rfl (kw rfl (kw rfl (kw rfl (kw rfl (kw rfl (kw rfl (kw rfl ?_)))))))))
        exact s1 (pkf rfl rfl) (sm rfl (kw rfl (kw rfl (kw rfl (kw rfl (s1 (pkf rfl rfl) (SO.nil ((wq rfl)))))))))
     ·rintro y436 h3
      refine cB h3 rfl (fun h3 => ?_) (fun h3 => ?_)
      ·have q := si h3; subst q; have q : _ = _ := hv3; subst q; have q := si h1; subst q; have q := si h0; subst q
       exact sr (sa rfl (sn (SC.ret (finR (Wk.refl _) (lresT rfl lresN) rfl))))
      ·refine SC.skip ?_
       change SC _ _ _ _ _
       have q := si h3; subst q
       exact SC.region (sm rfl (s1 (bi rfl rfl q_i64_add) (sa rfl (SO.nil (lf (wq rfl))))))
    ·have q := si h3; subst q; have q : _ = _ := hv3; subst q; have q := si h1; subst q
     exact SC.exit (lf (wq rfl))
   ·intro _ h0
    have q := si h0; subst q
    exact sr (sa rfl (sn (SC.ret (finR (Wk.refl _) (lresT rfl lresN) rfl))))
noncomputable def ref06_utf8 (p0 : List UInt8) : Option Bool :=
 bindE (Y := Unit) (E := Bool)
 (Option.bind (α := Unit ⊕ Bool)
 (loop (Y := Int) (W := Unit ⊕ Bool) (fun y878 =>
 bif (decide (y878 < (p0.length : Int))) then
 Option.bind (getI p0 y878) fun v935 =>
 bindE (Y := Int × Int × Int) (E := Bool)
 (bif (decide ((v935.toNat : Int) < (128 : Int))) then
 some (Sum.inl ((1 : Int), (0 : Int), (v935.toNat : Int)))
 else
 Option.bind (α := Bool)
 (bif (decide ((v935.toNat : Int) ≥ (194 : Int))) then
 some (decide ((v935.toNat : Int) < (224 : Int)))
 else
 some false)
 fun y946 =>
 bif y946 then
 some (Sum.inl ((2 : Int), (128 : Int), (w64 ((v935.toNat : Int) - (192 : Int)))))
 else
 Option.bind (α := Bool)
 (bif (decide ((v935.toNat : Int) ≥ (224 : Int))) then
 some (decide ((v935.toNat : Int) < (240 : Int)))
 else
 some false)
 fun y948 =>
 bif y948 then
 some (Sum.inl ((3 : Int), (2048 : Int), (w64 ((v935.toNat : Int) - (224 : Int)))))
 else
 Option.bind (α := Bool)
 (bif (decide ((v935.toNat : Int) ≥ (240 : Int))) then
 some (decide ((v935.toNat : Int) < (245 : Int)))
 else
 some false)
 fun y950 =>
 bif y950 then
 some (Sum.inl ((4 : Int), (65536 : Int), (w64 ((v935.toNat : Int) - (240 : Int)))))
 else
 some (Sum.inr false))
 (fun (y942, y943, y944) =>
 bif (decide ((w64 (y878 + y942)) > (p0.length : Int))) then
 some (Sum.inr (Sum.inr false))
 else
 bindE (Y := Int) (E := Bool)
 (Option.bind (α := Int ⊕ Bool)
 (loop (Y := Int × Int) (W := Int ⊕ Bool) (fun (y973, y974) =>
 bif (decide (y974 < y942)) then
 Option.bind (getI p0 (w64 (y878 + y974))) fun v982 =>
 Option.bind (α := Bool)
 (bif (decide ((v982.toNat : Int) < (128 : Int))) then
 some true
 else
 some (decide ((v982.toNat : Int) ≥ (192 : Int))))
 fun y983 =>
 bif y983 then
 some (Sum.inr (Sum.inr false))
 else
 some (Sum.inl ((w64 ((w64 ((w64 (y973 * (64 : Int))) + (v982.toNat : Int))) - (128 : Int))), (w64 (y974 + (1 : Int)))))
 else
 some (Sum.inr (Sum.inl y973))) (y944, (1 : Int)))
 (Sum.elim (fun e => some (Sum.inl e)) (fun e => some (Sum.inr e))))
 (fun y968 =>
 Option.bind (α := Bool)
 (bif (decide (y968 < y943)) then
 some true
 else
 bif (decide (y968 > (1114111 : Int))) then
 some true
 else
 bif (decide (y968 ≥ (55296 : Int))) then
 some (decide (y968 < (57344 : Int)))
 else
 some false)
 fun y986 =>
 bif y986 then
 some (Sum.inr (Sum.inr false))
 else
 some (Sum.inl (w64 (y878 + y942))))
 (fun e => some (Sum.inr (Sum.inr e))))
 (fun e => some (Sum.inr (Sum.inr e)))
 else
 some (Sum.inr (Sum.inl ()))) (0 : Int))
 (Sum.elim (fun e => some (Sum.inl e)) (fun e => some (Sum.inr e))))
 (fun _ =>
 some true)
 (fun e => some e)
theorem ref06_utf8_ok (p0 : List UInt8) (r : Bool) (h0 : ref06_utf8 p0 = some r) : CallAt Tryz.prog 124 [.d (eS p0)] [] (.d (eB r)) [] := by
 unfold ref06_utf8 at h0
 refine fn0 [0] Tryz.func124 rfl rfl rfl rfl rfl ?_
 refine sr (sa rfl (sn (SC.seqB h0 (fun y => ⟨mk 95 [], []⟩) ?_ ?_)))
 ·intro u1_824 h1 h0
  obtain ⟨u2_934, h2, h1⟩ := ob h1
  refine sr (sa rfl (sn (SC.blk (SC.loopB h2 (fun y => ⟨mk 95 [(0, .d (eS p0)), (3, .d (eI y))], []⟩) (wq rfl) ?_))))
  intro n988
  rintro y878 w2_933 h3 hv3
  refine sq (sr (sm rfl (sm rfl (s1 (len rfl rfl rfl (len_str un9)) (s1 (bi rfl rfl q_i64_lss) (sn (cB h3 rfl (fun h3 => ?_) (fun h3 => ?_))))))))
  ·obtain ⟨v935, hv935, h3⟩ := ob h3
   refine sk (SC.blk (sr (sm rfl (sm rfl (s1 (ixs rfl rfl rfl rfl (ix_str un9 (getI_some hv935).1 (getI_some hv935).2)) (s1 (cvo rfl (cv_u8_i64 un5 un3 v935)) (sa rfl (sn (sr ?_)))))))))
   refine sa rfl (sn (sr (sa rfl (sn (sr (sm rfl (sa rfl (sn (SC.seqB h3 (fun y => ⟨mk 95 [(0, .d (eS p0)), (3, .d (eI y878)), (5, .d (eI y.1)), (6, .d (eI y.2.1)), (7, .d (eI y.2.2))], []⟩) ?_ ?_)))))))))
   ·intro u4_945 h4 h3
    refine SC.blk (sr (sm rfl (s1 (bi rfl rfl q_i64_lss) (sa rfl (sn (cB h4 rfl (fun h4 => ?_) (fun h4 => ?_)))))))
    ·have q := si h4; subst q
     exact SC.skip (lf (wq rfl))
    ·refine SC.seqP h4 (fun y => ⟨mk 95 [(0, .d (eS p0)), (3, .d (eI y878)), (4, .d (eI (v935.toNat : Int))), (22, .d (eB y))], []⟩) ?_ ?_
     ·intro u5_947 h5
      refine SC.region (sm rfl (s1 (bi rfl rfl q_i64_geq) (sm rfl (sp h5 (fun h5 => ?_) (fun h5 => ?_)))))
      ·have q := si h5; subst q
       exact gw rfl (mv rfl) (gw rfl (bi rfl rfl q_i64_lss) (s1 (pkt rfl rfl) (sa rfl (SO.nil ((wq rfl))))))
      ·have q := si h5; subst q
       exact kw rfl (kw rfl (s1 (pkf rfl rfl) (sa rfl (SO.nil ((wq rfl))))))
     ·rintro y946 h4
      refine cB h4 rfl (fun h4 => ?_) (fun h4 => ?_)
      ·have q := si h4; subst q
       exact SC.region (sm rfl (s1 (bi rfl rfl q_i64_sub) (sa rfl (sa rfl (sa rfl (SO.nil (lf (wq rfl))))))))
      ·refine SC.seqP h4 (fun y => ⟨mk 95 [(0, .d (eS p0)), (3, .d (eI y878)), (4, .d (eI (v935.toNat : Int))), (31, .d (eB y))], []⟩) ?_ ?_
       ·intro u5_949 h5
        refine SC.region (sm rfl (s1 (bi rfl rfl q_i64_geq) (sm rfl (sp h5 (fun h5 => ?_) (fun h5 => ?_)))))
        ·have q := si h5; subst q
         exact gw rfl (mv rfl) (gw rfl (bi rfl rfl q_i64_lss) (s1 (pkt rfl rfl) (sa rfl (SO.nil ((wq rfl))))))
        ·have q := si h5; subst q
         exact kw rfl (kw rfl (s1 (pkf rfl rfl) (sa rfl (SO.nil ((wq rfl))))))
       ·rintro y948 h4
        refine cB h4 rfl (fun h4 => ?_) (fun h4 => ?_)
        ·have q := si h4; subst q
         exact SC.region (sm rfl (s1 (bi rfl rfl q_i64_sub) (sa rfl (sa rfl (sa rfl (SO.nil (lf (wq rfl))))))))
        ·refine SC.seqP h4 (fun y => ⟨mk 95 [(0, .d (eS p0)), (3, .d (eI y878)), (4, .d (eI (v935.toNat : Int))), (40, .d (eB y))], []⟩) ?_ ?_
         ·intro u5_951 h5
          refine SC.region (sm rfl (s1 (bi rfl rfl q_i64_geq) (sm rfl (sp h5 (fun h5 => ?_) (fun h5 => ?_)))))
          ·have q := si h5; subst q
           exact gw rfl (mv rfl) (gw rfl (bi rfl rfl q_i64_lss) (s1 (pkt rfl rfl) (sa rfl (SO.nil ((wq rfl))))))
          ·have q := si h5; subst q
           exact kw rfl (kw rfl (s1 (pkf rfl rfl) (sa rfl (SO.nil ((wq rfl))))))
         ·rintro y950 h4
          refine cB h4 rfl (fun h4 => ?_) (fun h4 => ?_)
          ·have q := si h4; subst q
           exact SC.region (sm rfl (s1 (bi rfl rfl q_i64_sub) (sa rfl (sa rfl (sa rfl (SO.nil (lf (wq rfl))))))))
          ·have q := si h4; subst q; have q := si h3; subst q; have q : _ = _ := hv3; subst q; have q := si h1; subst q; have q := si h0; subst q
           exact sr (sa rfl (sn (SC.ret (finR (Wk.refl _) (lresT rfl lresN) rfl))))
   ·rintro ⟨y942, y943, y944⟩ h3
    refine sq (sr (sm rfl (sm rfl (s1 (bi rfl rfl q_i64_add) (sm rfl (s1 (len rfl rfl rfl (len_str un9)) (s1 (bi rfl rfl q_i64_gtr) (sn (cB h3 rfl (fun h3 => ?_) (fun h3 => ?_))))))))))
    ·have q := si h3; subst q; have q : _ = _ := hv3; subst q; have q := si h1; subst q; have q := si h0; subst q
     exact sr (sa rfl (sn (SC.ret (finR (Wk.refl _) (lresT rfl lresN) rfl))))
    ·refine sk (SC.seqB h3 (fun y => ⟨mk 95 [(0, .d (eS p0)), (3, .d (eI y878)), (5, .d (eI y942)), (6, .d (eI y943)), (7, .d (eI y))], []⟩) ?_ ?_)
     ·intro u4_969 h4 h3
      obtain ⟨u5_981, h5, h4⟩ := ob h4
      refine sr (sa rfl (sn (SC.blk (SC.loopB h5 (fun y => ⟨mk 95 [(0, .d (eS p0)), (3, .d (eI y878)), (5, .d (eI y942)), (6, .d (eI y943)), (7, .d (eI y.1)), (8, .d (eI y.2))], []⟩) (wq rfl) ?_))))
      intro n985
      rintro ⟨y973, y974⟩ w5_980 h6 hv6
      refine sq (sr (sm rfl (sm rfl (s1 (bi rfl rfl q_i64_lss) (sn (cB h6 rfl (fun h6 => ?_) (fun h6 => ?_)))))))
      ·obtain ⟨v982, hv982, h6⟩ := ob h6
       refine sk (sq (SC.blk (sr (sm rfl (sm rfl (sm rfl (s1 (bi rfl rfl q_i64_add) (s1 (ixs rfl rfl rfl rfl (ix_str un9 (getI_some hv982).1 (getI_some hv982).2)) (s1 (cvo rfl (cv_u8_i64 un5 un3 v982)) ?_)))))))))
       refine sa rfl (sn (sq (SC.seqP h6 (fun y => ⟨mk 95 [(0, .d (eS p0)), (3, .d (eI y878)), (5, .d (eI y942)), (6, .d (eI y943)), (7, .d (eI y973)), (8, .d (eI y974)), (9, .d (eI (v982.toNat : Int))), (71, .d (eB y))], []⟩) ?_ ?_)))
       ·intro u7_984 h7
        refine SC.region (sm rfl (s1 (bi rfl rfl q_i64_lss) (sm rfl (sp h7 (fun h7 => ?_) (fun h7 => ?_)))))
        ·have q := si h7; subst q
         exact kw rfl (kw rfl (s1 (pkt rfl rfl) (SO.nil ((wq rfl)))))
        ·have q := si h7; subst q
         exact gw rfl (mv rfl) (gw rfl (bi rfl rfl q_i64_geq) (s1 (pkf rfl rfl) (SO.nil ((wq rfl)))))
       ·rintro y983 h6
        refine cB h6 rfl (fun h6 => ?_) (fun h6 => ?_)
        ·have q := si h6; subst q; have q : _ = _ := hv6; subst q; have q := si h4; subst q; have q := si h3; subst q; have q : _ = _ := hv3; subst q; have q := si h1; subst q; have q := si h0; subst q
         exact sr (sa rfl (sn (SC.ret (finR (Wk.refl _) (lresT rfl lresN) rfl))))
        ·refine sk (SC.region (sm rfl (s1 (bi rfl rfl q_i64_mul) (sm rfl (s1 (bi rfl rfl q_i64_add) (s1 (bi rfl rfl q_i64_sub) (sa rfl (SO.nil ?_))))))))
         change SC _ _ _ _ _
         have q := si h6; subst q
         exact SC.region (sm rfl (s1 (bi rfl rfl q_i64_add) (sa rfl (SO.nil (lf (wq rfl))))))
      ·have q := si h6; subst q; have q : _ = _ := hv6; subst q; have q := si h4; subst q
       exact SC.exit (lf (wq rfl))
     ·rintro y968 h3
      refine sq (SC.seqP h3 (fun y => ⟨mk 95 [(0, .d (eS p0)), (3, .d (eI y878)), (5, .d (eI y942)), (91, .d (eB y))], []⟩) ?_ ?_)
      ·intro u4_987 h4
       refine SC.region (sm rfl (sm rfl (s1 (bi rfl rfl q_i64_lss) (sm rfl (sp h4 (fun h4 => ?_) (fun h4 => ?_))))))
       ·have q := si h4; subst q
        refine kw rfl (kw rfl (s1 (pkt rfl rfl) (sm rfl (kw rfl (kw rfl (kw rfl (kw rfl (kw rfl (kw rfl ?_)))))))))
        exact s1 (pkt rfl rfl) (SO.nil ((wq rfl)))
       ·refine gw rfl (mv rfl) (gw rfl (bi rfl rfl q_i64_gtr) (s1 (pkf rfl rfl) (sm rfl (sp h4 (fun h4 => ?_) (fun h4 => ?_)))))
        ·have q := si h4; subst q
         exact kw rfl (kw rfl (kw rfl (kw rfl (kw rfl (kw rfl (s1 (pkt rfl rfl) (SO.nil ((wq rfl)))))))))
        ·refine gw rfl (mv rfl) (gw rfl (bi rfl rfl q_i64_geq) (gw rfl (mv rfl) (sp h4 (fun h4 => ?_) (fun h4 => ?_))))
         ·have q := si h4; subst q
          exact gw rfl (mv rfl) (gw rfl (bi rfl rfl q_i64_lss) (gw rfl (pkt rfl rfl) (s1 (pkf rfl rfl) (SO.nil ((wq rfl))))))
         ·have q := si h4; subst q
          exact kw rfl (kw rfl (gw rfl (pkf rfl rfl) (s1 (pkf rfl rfl) (SO.nil ((wq rfl))))))
      ·rintro y986 h3
       refine cB h3 rfl (fun h3 => ?_) (fun h3 => ?_)
       ·have q := si h3; subst q; have q : _ = _ := hv3; subst q; have q := si h1; subst q; have q := si h0; subst q
        exact sr (sa rfl (sn (SC.ret (finR (Wk.refl _) (lresT rfl lresN) rfl))))
       ·have q := si h3; subst q
        exact sk (SC.region (sm rfl (sm rfl (s1 (bi rfl rfl q_i64_add) (sa rfl (SO.nil (lf (wq rfl))))))))
  ·have q := si h3; subst q; have q : _ = _ := hv3; subst q; have q := si h1; subst q
   exact SC.exit (lf (wq rfl))
 ·intro _ h0
  have q := si h0; subst q
  exact sr (sa rfl (sn (SC.ret (finR (Wk.refl _) (lresT rfl lresN) rfl))))
noncomputable def ref06_Valid (p0 : ApiValue) : Option Bool :=
 bif (p0.Kind == (0 : Int)) then
 Option.bind (α := Bool)
 (bif (p0.N == (0 : UInt64)) then
 some (p0.S == ([] : List UInt8))
 else
 some false)
 fun y30 =>
 some y30
 else
 Option.bind (α := Bool)
 (bif (p0.Kind == (1 : Int)) then
 some (p0.Kind == (1 : Int))
 else
 some (p0.Kind == (2 : Int)))
 fun y32 =>
 bif y32 then
 some (p0.S == ([] : List UInt8))
 else
 bif (p0.Kind == (3 : Int)) then
 Option.bind (α := Bool)
 (bif (decide (p0.N < (2 : UInt64))) then
 some (p0.S == ([] : List UInt8))
 else
 some false)
 fun y34 =>
 some y34
 else
 bif (p0.Kind == (4 : Int)) then
 Option.bind (α := Bool)
 (bif (p0.N == (0 : UInt64)) then
 some (decide ((p0.S.length : Int) ≤ (64 : Int)))
 else
 some false)
 fun y36 =>
 some y36
 else
 bif (p0.Kind == (5 : Int)) then
 Option.bind (α := Bool)
 (bif (p0.N == (0 : UInt64)) then
 bif (decide ((p0.S.length : Int) ≤ (64 : Int))) then
 Option.bind (ref06_utf8 p0.S) fun r43 =>
 some r43
 else
 some false
 else
 some false)
 fun y40 =>
 some y40
 else
 some false
theorem ref06_Valid_ok (p0 : ApiValue) (r : Bool) (h0 : ref06_Valid p0 = some r) : CallAt Tryz.prog 111 [.d (eApiValue p0)] [] (.d (eB r)) [] := by
 unfold ref06_Valid at h0
 refine fn0 [0] Tryz.func111 rfl rfl rfl rfl rfl ?_
 refine sr (s1 (bxo (k := 0) rfl rfl rfl) (sa rfl (sn (sq (sr (s1 (far (k := 0) rfl fo43_0 ts3 rfl) (s1 (lod rfl (ld_box ts3 ta3 rfl rfl)) (sn (SC.blk ?_)))))))))
 refine sr (s1 (bi rfl rfl q_i64_eql) (sa rfl (sn (cB h0 rfl (fun h0 => ?_) (fun h0 => ?_)))))
 ·refine SC.seqP h0 (fun y => ⟨mk 58 [(2, .d (eB y))], []⟩) ?_ ?_
  ·intro u1_31 h1
   refine SC.region (s1 (far (k := 1) rfl fo43_1 ts41 rfl) (s1 (lod rfl (ld_box ts41 ta41 rfl rfl)) (s1 (bi rfl rfl (q_u64_eql (b := (0 : UInt64)))) (sm rfl (sp h1 (fun h1 => ?_) (fun h1 => ?_))))))
   ·have q := si h1; subst q
    exact gw rfl (far (k := 2) rfl fo43_2 ts9 rfl) (gw rfl (lod rfl (ld_box ts9 ta9 rfl rfl)) (gw rfl (bi rfl rfl (q_str_eql (b := ([] : List UInt8)))) (s1 (pkt rfl rfl) (sa rfl (SO.nil ((wc [] [] (by kernel_rfl) rfl (by kernel_rfl))))))))
   ·have q := si h1; subst q
    exact kw rfl (kw rfl (kw rfl (s1 (pkf rfl rfl) (sa rfl (SO.nil ((wc [] [] (by kernel_rfl) rfl (by kernel_rfl))))))))
  ·rintro y30 h0
   have q := si h0; subst q
   exact SC.ret (finR (Wk.refl _) (lresT rfl lresN) rfl)
 ·refine SC.seqP h0 (fun y => ⟨mk 58 [(1, .ref 0 0 0), (4, .d (eI p0.Kind)), (15, .d (eB y))], [.box (.d (eApiValue p0))]⟩) ?_ ?_
  ·intro u1_33 h1
   refine sr (s1 (bi rfl rfl q_i64_eql) (sa rfl (sn (cB h1 rfl (fun h1 => ?_) (fun h1 => ?_)))))
   ·have q := si h1; subst q
    exact SC.skip ((wq rfl))
   ·have q := si h1; subst q
    exact SC.region (s1 (bi rfl rfl q_i64_eql) (sa rfl (SO.nil ((wq rfl)))))
  ·rintro y32 h0
   refine cB h0 rfl (fun h0 => ?_) (fun h0 => ?_)
   ·have q := si h0; subst q
    exact sr (s1 (far (k := 2) rfl fo43_2 ts9 rfl) (s1 (lod rfl (ld_box ts9 ta9 rfl rfl)) (s1 (bi rfl rfl (q_str_eql (b := ([] : List UInt8)))) (sa rfl (sn (SC.ret (finR (wc (e' := [(2, .d (eB (p0.S == ([] : List UInt8))))]) [] [] (by kernel_rfl) rfl (by kernel_rfl)) (lresT rfl lresN) rfl)))))))
   ·refine sr (s1 (bi rfl rfl q_i64_eql) (sa rfl (sn (cB h0 rfl (fun h0 => ?_) (fun h0 => ?_)))))
    ·refine SC.seqP h0 (fun y => ⟨mk 58 [(2, .d (eB y))], []⟩) ?_ ?_
     ·intro u1_35 h1
      refine SC.region (s1 (far (k := 1) rfl fo43_1 ts41 rfl) (s1 (lod rfl (ld_box ts41 ta41 rfl rfl)) (s1 (bi rfl rfl (q_u64_lss (b := (2 : UInt64)))) (sm rfl (sp h1 (fun h1 => ?_) (fun h1 => ?_))))))
      ·have q := si h1; subst q
       exact gw rfl (far (k := 2) rfl fo43_2 ts9 rfl) (gw rfl (lod rfl (ld_box ts9 ta9 rfl rfl)) (gw rfl (bi rfl rfl (q_str_eql (b := ([] : List UInt8)))) (s1 (pkt rfl rfl) (sa rfl (SO.nil ((wc [] [] (by kernel_rfl) rfl (by kernel_rfl))))))))
      ·have q := si h1; subst q
       exact kw rfl (kw rfl (kw rfl (s1 (pkf rfl rfl) (sa rfl (SO.nil ((wc [] [] (by kernel_rfl) rfl (by kernel_rfl))))))))
     ·rintro y34 h0
      have q := si h0; subst q
      exact SC.ret (finR (Wk.refl _) (lresT rfl lresN) rfl)
    ·refine sr (s1 (bi rfl rfl q_i64_eql) (sa rfl (sn (cB h0 rfl (fun h0 => ?_) (fun h0 => ?_)))))
     ·refine SC.seqP h0 (fun y => ⟨mk 58 [(2, .d (eB y))], []⟩) ?_ ?_
      ·intro u1_37 h1
       refine SC.region (s1 (far (k := 1) rfl fo43_1 ts41 rfl) (s1 (lod rfl (ld_box ts41 ta41 rfl rfl)) (s1 (bi rfl rfl (q_u64_eql (b := (0 : UInt64)))) (sm rfl (sp h1 (fun h1 => ?_) (fun h1 => ?_))))))
       ·have q := si h1; subst q
        exact gw rfl (far (k := 2) rfl fo43_2 ts9 rfl) (gw rfl (lod rfl (ld_box ts9 ta9 rfl rfl)) (gw rfl (len rfl rfl rfl (len_str un9)) (gw rfl (bi rfl rfl q_i64_leq) (s1 (pkt rfl rfl) (sa rfl (SO.nil ((wc [] [] (by kernel_rfl) rfl (by kernel_rfl)))))))))
       ·have q := si h1; subst q
        exact kw rfl (kw rfl (kw rfl (kw rfl (s1 (pkf rfl rfl) (sa rfl (SO.nil ((wc [] [] (by kernel_rfl) rfl (by kernel_rfl)))))))))
      ·rintro y36 h0
       have q := si h0; subst q
       exact SC.ret (finR (Wk.refl _) (lresT rfl lresN) rfl)
     ·refine sr (s1 (bi rfl rfl q_i64_eql) (sa rfl (sn (cB h0 rfl (fun h0 => ?_) (fun h0 => ?_)))))
      ·refine SC.seqP h0 (fun y => ⟨mk 58 [(2, .d (eB y))], []⟩) ?_ ?_
       ·intro u1_41 h1
        refine SC.region (s1 (far (k := 1) rfl fo43_1 ts41 rfl) (s1 (lod rfl (ld_box ts41 ta41 rfl rfl)) (s1 (bi rfl rfl (q_u64_eql (b := (0 : UInt64)))) (sm rfl (sp h1 (fun h1 => ?_) (fun h1 => ?_))))))
        ·refine gw rfl (far (k := 2) rfl fo43_2 ts9 rfl) (gw rfl (lod rfl (ld_box ts9 ta9 rfl rfl)) (gw rfl (len rfl rfl rfl (len_str un9)) (gw rfl (bi rfl rfl q_i64_leq) (s1 (pkt rfl rfl) (sm rfl (sp h1 (fun h1 => ?_) (fun h1 => ?_)))))))
         ·obtain ⟨r43, hq42, h1⟩ := ob h1; have q := si h1; subst q
          exact gw rfl (far (k := 2) rfl fo43_2 ts9 rfl) (gw rfl (lod rfl (ld_box ts9 ta9 rfl rfl)) (c0 (ref06_utf8_ok p0.S _ hq42) (ww rfl) rfl rfl rfl cb124 rfl (fun _ => rfl) (fun _ => rfl) (s1 (pkt rfl rfl) (sa rfl (SO.nil ((wc [] [] (by kernel_rfl) rfl (by kernel_rfl))))))))
         ·have q := si h1; subst q
          exact kw rfl (kw rfl (kw rfl (s1 (pkf rfl rfl) (sa rfl (SO.nil ((wc [] [] (by kernel_rfl) rfl (by kernel_rfl))))))))
        ·have q := si h1; subst q
         refine kw rfl (kw rfl (kw rfl (kw rfl (s1 (pkf rfl rfl) (sm rfl (kw rfl (kw rfl (kw rfl (s1 (pkf rfl rfl) ?_)))))))))
         exact sa rfl (SO.nil ((wc [] [] (by kernel_rfl) rfl (by kernel_rfl))))
       ·rintro y40 h0
        have q := si h0; subst q
        exact SC.ret (finR (Wk.refl _) (lresT rfl lresN) rfl)
      ·refine SC.skip ?_
       change SC _ _ _ _ _
       have q := si h0; subst q
       exact sr (sa rfl (sn (SC.ret (finR (wc (e' := [(2, .d (eB false))]) [] [] (by kernel_rfl) rfl (by kernel_rfl)) (lresT rfl lresN) rfl))))
noncomputable def ref06_Fits (p0 : ApiColumn) (p1 : ApiValue) : Option Int :=
 Option.bind (α := Bool)
 (Option.bind (ref06_Valid p1) fun r23 =>
 bif (!r23) then
 some true
 else
 bif (p1.Kind == (0 : Int)) then
 bif (!p0.Nulls) then
 some true
 else
 bif (p1.Kind != (0 : Int)) then
 some (p1.Kind != p0.Kind)
 else
 some false
 else
 bif (p1.Kind != (0 : Int)) then
 some (p1.Kind != p0.Kind)
 else
 some false)
 fun y20 =>
 bif y20 then
 some (8 : Int)
 else
 Option.bind (α := Bool)
 (bif (p1.Kind == (4 : Int)) then
 some (decide ((p1.S.length : Int) > p0.Max))
 else
 bif (p1.Kind == (5 : Int)) then
 some (decide ((p1.S.length : Int) > p0.Max))
 else
 some false)
 fun y24 =>
 bif y24 then
 some (7 : Int)
 else
 some (0 : Int)
theorem ref06_Fits_ok (p0 : ApiColumn) (p1 : ApiValue) (r : Int) (h0 : ref06_Fits p0 p1 = some r) : CallAt Tryz.prog 75 [.d (eApiColumn p0), .d (eApiValue p1)] [] (.d (eI r)) [] := by
 unfold ref06_Fits at h0
 refine fn0 [0, 1] Tryz.func75 rfl rfl rfl rfl rfl ?_
 refine sr (s1 (bxo (k := 0) rfl rfl rfl) (s1 (bxo (k := 1) rfl rfl rfl) (sa rfl (sn (sq (SC.seqP h0 (fun y => ⟨mk 46 [(2, .ref 0 0 0), (3, .ref 1 0 0), (29, .d (eB y))], [.box (.d (eApiColumn p0)), .box (.d (eApiValue p1))]⟩) ?_ ?_))))))
 ·intro u1_21 h1
  obtain ⟨r23, hq22, h1⟩ := ob h1
  refine SC.region (s1 (lod (v := .d (eApiValue p1)) rfl (ld_box ts43 ta43 rfl rfl)) (c0 (ref06_Valid_ok p1 _ hq22) wf rfl rfl rfl cb111 rfl (fun _ => rfl) (fun _ => rfl) (s1 (nt rfl) (sm rfl (sp h1 (fun h1 => ?_) (fun h1 => ?_))))))
  ·have q := si h1; subst q
   refine kw rfl (kw rfl (kw rfl (kw rfl (kw rfl (kw rfl (kw rfl (kw rfl (s1 (pkt rfl rfl) (sm rfl ?_)))))))))
   refine kw rfl (kw rfl (kw rfl (kw rfl (kw rfl (kw rfl (kw rfl (kw rfl (kw rfl (kw rfl ?_)))))))))
   exact s1 (pkt rfl rfl) (SO.nil ((wq rfl)))
  ·refine gw rfl (far (k := 0) rfl fo43_0 ts3 rfl) (gw rfl (lod rfl (ld_box ts3 ta3 rfl rfl)) (gw rfl (bi rfl rfl q_i64_eql) (gw rfl (mv rfl) (sp h1 (fun h1 => ?_) (fun h1 => ?_)))))
   ·refine gw rfl (far (k := 3) rfl fo45_3 ts4 rfl) (gw rfl (lod rfl (ld_box ts4 ta4 rfl rfl)) (gw rfl (nt rfl) (gw rfl (pkt rfl rfl) (s1 (pkf rfl rfl) (sm rfl (sp h1 (fun h1 => ?_) (fun h1 => ?_)))))))
    ·have q := si h1; subst q
     refine kw rfl (kw rfl (kw rfl (kw rfl (kw rfl (kw rfl (kw rfl (kw rfl (kw rfl (kw rfl ?_)))))))))
     exact s1 (pkt rfl rfl) (SO.nil ((wq rfl)))
    ·refine gw rfl (far (k := 0) rfl fo43_0 ts3 rfl) (gw rfl (lod rfl (ld_box ts3 ta3 rfl rfl)) (gw rfl (bi rfl rfl q_i64_neq) (gw rfl (mv rfl) (sp h1 (fun h1 => ?_) (fun h1 => ?_)))))
     ·have q := si h1; subst q
      exact gw rfl (far (k := 0) rfl fo43_0 ts3 rfl) (gw rfl (lod rfl (ld_box ts3 ta3 rfl rfl)) (gw rfl (far (k := 1) rfl fo45_1 ts3 rfl) (gw rfl (lod rfl (ld_box ts3 ta3 rfl rfl)) (gw rfl (bi rfl rfl q_i64_neq) (gw rfl (pkt rfl rfl) (s1 (pkf rfl rfl) (SO.nil ((wq rfl)))))))))
     ·have q := si h1; subst q
      exact kw rfl (kw rfl (kw rfl (kw rfl (kw rfl (gw rfl (pkf rfl rfl) (s1 (pkf rfl rfl) (SO.nil ((wq rfl)))))))))
   ·refine kw rfl (kw rfl (kw rfl (gw rfl (pkf rfl rfl) (s1 (pkf rfl rfl) (sm rfl (gw rfl (far (k := 0) rfl fo43_0 ts3 rfl) (gw rfl (lod rfl (ld_box ts3 ta3 rfl rfl)) (gw rfl (bi rfl rfl q_i64_neq) (gw rfl (mv rfl) ?_)))))))))
    refine sp h1 (fun h1 => ?_) (fun h1 => ?_)
    ·have q := si h1; subst q
     exact gw rfl (far (k := 0) rfl fo43_0 ts3 rfl) (gw rfl (lod rfl (ld_box ts3 ta3 rfl rfl)) (gw rfl (far (k := 1) rfl fo45_1 ts3 rfl) (gw rfl (lod rfl (ld_box ts3 ta3 rfl rfl)) (gw rfl (bi rfl rfl q_i64_neq) (gw rfl (pkt rfl rfl) (s1 (pkf rfl rfl) (SO.nil ((wq rfl)))))))))
    ·have q := si h1; subst q
     exact kw rfl (kw rfl (kw rfl (kw rfl (kw rfl (gw rfl (pkf rfl rfl) (s1 (pkf rfl rfl) (SO.nil ((wq rfl)))))))))
 ·rintro y20 h0
  refine cB h0 rfl (fun h0 => ?_) (fun h0 => ?_)
  ·have q := si h0; subst q
   exact sr (sa rfl (sn (SC.ret (finR (wc (e' := [(4, .d (eI (8 : Int)))]) [] [] (by kernel_rfl) rfl (by kernel_rfl)) (lresT rfl lresN) rfl))))
  ·refine sk (sq (SC.seqP h0 (fun y => ⟨mk 46 [(45, .d (eB y))], []⟩) ?_ ?_))
   ·intro u1_25 h1
    refine SC.region (s1 (far (k := 0) rfl fo43_0 ts3 rfl) (s1 (lod rfl (ld_box ts3 ta3 rfl rfl)) (s1 (bi rfl rfl q_i64_eql) (sm rfl (sp h1 (fun h1 => ?_) (fun h1 => ?_))))))
    ·have q := si h1; subst q
     refine kw rfl (kw rfl (kw rfl (s1 (pkt rfl rfl) (sm rfl (gw rfl (far (k := 2) rfl fo43_2 ts9 rfl) (gw rfl (lod rfl (ld_box ts9 ta9 rfl rfl)) (gw rfl (len rfl rfl rfl (len_str un9)) (gw rfl (far (k := 2) rfl fo45_2 ts3 rfl) (gw rfl (lod rfl (ld_box ts3 ta3 rfl rfl)) ?_)))))))))
     exact gw rfl (bi rfl rfl q_i64_gtr) (s1 (pkt rfl rfl) (SO.nil ((wc [] [] (by kernel_rfl) rfl (by kernel_rfl)))))
    ·refine gw rfl (far (k := 0) rfl fo43_0 ts3 rfl) (gw rfl (lod rfl (ld_box ts3 ta3 rfl rfl)) (gw rfl (bi rfl rfl q_i64_eql) (s1 (pkf rfl rfl) (sm rfl (sp h1 (fun h1 => ?_) (fun h1 => ?_))))))
     ·have q := si h1; subst q
      exact gw rfl (far (k := 2) rfl fo43_2 ts9 rfl) (gw rfl (lod rfl (ld_box ts9 ta9 rfl rfl)) (gw rfl (len rfl rfl rfl (len_str un9)) (gw rfl (far (k := 2) rfl fo45_2 ts3 rfl) (gw rfl (lod rfl (ld_box ts3 ta3 rfl rfl)) (gw rfl (bi rfl rfl q_i64_gtr) (s1 (pkt rfl rfl) (SO.nil ((wc [] [] (by kernel_rfl) rfl (by kernel_rfl))))))))))
     ·have q := si h1; subst q
      exact kw rfl (kw rfl (kw rfl (kw rfl (kw rfl (kw rfl (s1 (pkf rfl rfl) (SO.nil ((wc [] [] (by kernel_rfl) rfl (by kernel_rfl))))))))))
   ·rintro y24 h0
    refine cB h0 rfl (fun h0 => ?_) (fun h0 => ?_)
    ·have q := si h0; subst q
     exact sr (sa rfl (sn (SC.ret (finR (Wk.refl _) (lresT rfl lresN) rfl))))
    ·have q := si h0; subst q
     exact sk (sr (sa rfl (sn (SC.ret (finR (Wk.refl _) (lresT rfl lresN) rfl)))))
noncomputable def ref06_Column (p0 : ApiColumn) : Option Int :=
 Option.bind (ref06_Name p0.Name) fun r19 =>
 bif (!r19) then
 some (1 : Int)
 else
 Option.bind (α := Bool)
 (bif (decide (p0.Kind < (1 : Int))) then
 some true
 else
 some (decide (p0.Kind > (5 : Int))))
 fun y20 =>
 bif y20 then
 some (8 : Int)
 else
 Option.bind (α := Bool)
 (bif (decide (p0.Kind < (4 : Int))) then
 bif (p0.Max != (0 : Int)) then
 some true
 else
 bif (decide (p0.Kind > (3 : Int))) then
 bif (decide (p0.Max < (1 : Int))) then
 some true
 else
 some (decide (p0.Max > (64 : Int)))
 else
 some false
 else
 bif (decide (p0.Kind > (3 : Int))) then
 bif (decide (p0.Max < (1 : Int))) then
 some true
 else
 some (decide (p0.Max > (64 : Int)))
 else
 some false)
 fun y22 =>
 bif y22 then
 some (7 : Int)
 else
 Option.bind (ref06_Fits p0 p0.Default) fun r25 =>
 some r25
theorem ref06_Column_ok (p0 : ApiColumn) (r : Int) (h0 : ref06_Column p0 = some r) : CallAt Tryz.prog 43 [.d (eApiColumn p0)] [] (.d (eI r)) [] := by
 unfold ref06_Column at h0
 refine fn0 [0] Tryz.func43 rfl rfl rfl rfl rfl ?_
 obtain ⟨r19, hq18, h0⟩ := ob h0
 refine sr (s1 (bxo (k := 0) rfl rfl rfl) (sa rfl (sn (sq (sr (s1 (far (k := 0) rfl fo45_0 ts9 rfl) (s1 (lod rfl (ld_box ts9 ta9 rfl rfl)) (c0 (ref06_Name_ok p0.Name _ hq18) wf rfl rfl rfl cb42 rfl (fun _ => rfl) (fun _ => rfl) (s1 (nt rfl) ?_)))))))))
 refine sn (cB h0 rfl (fun h0 => ?_) (fun h0 => ?_))
 ·have q := si h0; subst q
  exact sr (sa rfl (sn (SC.ret (finR (wc (e' := [(2, .d (eI (1 : Int)))]) [] [] (by kernel_rfl) rfl (by kernel_rfl)) (lresT rfl lresN) rfl))))
 ·refine sk (sq (SC.seqP h0 (fun y => ⟨mk 42 [(1, .ref 0 0 0), (14, .d (eB y))], [.box (.d (eApiColumn p0))]⟩) ?_ ?_))
  ·intro u1_21 h1
   refine SC.region (s1 (far (k := 1) rfl fo45_1 ts3 rfl) (s1 (lod rfl (ld_box ts3 ta3 rfl rfl)) (s1 (bi rfl rfl q_i64_lss) (sm rfl (sp h1 (fun h1 => ?_) (fun h1 => ?_))))))
   ·have q := si h1; subst q
    exact kw rfl (kw rfl (kw rfl (s1 (pkt rfl rfl) (SO.nil ((wq rfl))))))
   ·have q := si h1; subst q
    exact gw rfl (far (k := 1) rfl fo45_1 ts3 rfl) (gw rfl (lod rfl (ld_box ts3 ta3 rfl rfl)) (gw rfl (bi rfl rfl q_i64_gtr) (s1 (pkf rfl rfl) (SO.nil ((wq rfl))))))
  ·rintro y20 h0
   refine cB h0 rfl (fun h0 => ?_) (fun h0 => ?_)
   ·have q := si h0; subst q
    exact sr (sa rfl (sn (SC.ret (finR (wc (e' := [(2, .d (eI (8 : Int)))]) [] [] (by kernel_rfl) rfl (by kernel_rfl)) (lresT rfl lresN) rfl))))
   ·refine sk (sq (SC.seqP h0 (fun y => ⟨mk 42 [(1, .ref 0 0 0), (37, .d (eB y))], [.box (.d (eApiColumn p0))]⟩) ?_ ?_))
    ·intro u1_23 h1
     refine SC.region (s1 (far (k := 1) rfl fo45_1 ts3 rfl) (s1 (lod rfl (ld_box ts3 ta3 rfl rfl)) (s1 (bi rfl rfl q_i64_lss) (sm rfl (sp h1 (fun h1 => ?_) (fun h1 => ?_))))))
     ·refine gw rfl (far (k := 2) rfl fo45_2 ts3 rfl) (gw rfl (lod rfl (ld_box ts3 ta3 rfl rfl)) (gw rfl (bi rfl rfl q_i64_neq) (s1 (pkt rfl rfl) (sm rfl (sp h1 (fun h1 => ?_) (fun h1 => ?_))))))
      ·have q := si h1; subst q
       refine kw rfl (kw rfl (kw rfl (kw rfl (kw rfl (kw rfl (kw rfl (kw rfl (kw rfl (kw rfl ?_)))))))))
       exact kw rfl (kw rfl (kw rfl (s1 (pkt rfl rfl) (SO.nil ((wq rfl))))))
      ·refine gw rfl (far (k := 1) rfl fo45_1 ts3 rfl) (gw rfl (lod rfl (ld_box ts3 ta3 rfl rfl)) (gw rfl (bi rfl rfl q_i64_gtr) (gw rfl (mv rfl) (sp h1 (fun h1 => ?_) (fun h1 => ?_)))))
       ·refine gw rfl (far (k := 2) rfl fo45_2 ts3 rfl) (gw rfl (lod rfl (ld_box ts3 ta3 rfl rfl)) (gw rfl (bi rfl rfl q_i64_lss) (gw rfl (mv rfl) (sp h1 (fun h1 => ?_) (fun h1 => ?_)))))
        ·have q := si h1; subst q
         exact kw rfl (kw rfl (kw rfl (gw rfl (pkt rfl rfl) (gw rfl (pkt rfl rfl) (s1 (pkf rfl rfl) (SO.nil ((wq rfl))))))))
        ·have q := si h1; subst q
         exact gw rfl (far (k := 2) rfl fo45_2 ts3 rfl) (gw rfl (lod rfl (ld_box ts3 ta3 rfl rfl)) (gw rfl (bi rfl rfl q_i64_gtr) (gw rfl (pkf rfl rfl) (gw rfl (pkt rfl rfl) (s1 (pkf rfl rfl) (SO.nil ((wq rfl))))))))
       ·have q := si h1; subst q
        refine kw rfl (kw rfl (kw rfl (kw rfl (kw rfl (kw rfl (kw rfl (kw rfl (gw rfl (pkf rfl rfl) (s1 (pkf rfl rfl) ?_)))))))))
        exact SO.nil ((wq rfl))
     ·refine kw rfl (kw rfl (kw rfl (s1 (pkf rfl rfl) (sm rfl (gw rfl (far (k := 1) rfl fo45_1 ts3 rfl) (gw rfl (lod rfl (ld_box ts3 ta3 rfl rfl)) (gw rfl (bi rfl rfl q_i64_gtr) (gw rfl (mv rfl) (sp h1 (fun h1 => ?_) (fun h1 => ?_))))))))))
      ·refine gw rfl (far (k := 2) rfl fo45_2 ts3 rfl) (gw rfl (lod rfl (ld_box ts3 ta3 rfl rfl)) (gw rfl (bi rfl rfl q_i64_lss) (gw rfl (mv rfl) (sp h1 (fun h1 => ?_) (fun h1 => ?_)))))
       ·have q := si h1; subst q
        exact kw rfl (kw rfl (kw rfl (gw rfl (pkt rfl rfl) (gw rfl (pkt rfl rfl) (s1 (pkf rfl rfl) (SO.nil ((wq rfl))))))))
       ·have q := si h1; subst q
        exact gw rfl (far (k := 2) rfl fo45_2 ts3 rfl) (gw rfl (lod rfl (ld_box ts3 ta3 rfl rfl)) (gw rfl (bi rfl rfl q_i64_gtr) (gw rfl (pkf rfl rfl) (gw rfl (pkt rfl rfl) (s1 (pkf rfl rfl) (SO.nil ((wq rfl))))))))
      ·have q := si h1; subst q
       refine kw rfl (kw rfl (kw rfl (kw rfl (kw rfl (kw rfl (kw rfl (kw rfl (gw rfl (pkf rfl rfl) (s1 (pkf rfl rfl) ?_)))))))))
       exact SO.nil ((wq rfl))
    ·rintro y22 h0
     refine cB h0 rfl (fun h0 => ?_) (fun h0 => ?_)
     ·have q := si h0; subst q
      exact sr (sa rfl (sn (SC.ret (finR (wc (e' := [(2, .d (eI (7 : Int)))]) [] [] (by kernel_rfl) rfl (by kernel_rfl)) (lresT rfl lresN) rfl))))
     ·obtain ⟨r25, hq24, h0⟩ := ob h0; have q := si h0; subst q
      exact sk (sr (s1 (lod (v := .d (eApiColumn p0)) rfl (ld_box ts45 ta45 rfl rfl)) (s1 (far (k := 4) rfl fo45_4 ts43 rfl) (s1 (lod (v := .d (eApiValue p0.Default)) rfl (ld_box ts43 ta43 rfl rfl)) (c0 (ref06_Fits_ok p0 p0.Default _ hq24) wf rfl rfl rfl cb75 rfl (fun _ => rfl) (fun _ => rfl) (sa rfl (sn (SC.ret (finR (wc (e' := [(2, .d (eI r25))]) [] [] (by kernel_rfl) rfl (by kernel_rfl)) (lresT rfl lresN) rfl)))))))))
noncomputable def ref17_Has (p0 : List Int) (p1 : Int) : Option Bool :=
 bindE (Y := Unit) (E := Bool)
 (Option.bind (α := Unit ⊕ Bool)
 (loop (Y := Int) (W := Unit ⊕ Bool) (fun y46 =>
 bif (decide (y46 < (p0.length : Int))) then
 Option.bind (getI p0 y46) fun v51 =>
 bif (v51 == p1) then
 some (Sum.inr (Sum.inr true))
 else
 some (Sum.inl (w64 (y46 + (1 : Int))))
 else
 some (Sum.inr (Sum.inl ()))) (0 : Int))
 (Sum.elim (fun e => some (Sum.inl e)) (fun e => some (Sum.inr e))))
 (fun _ =>
 some false)
 (fun e => some e)
theorem ref17_Has_ok (p0 : List Int) (p1 : Int) (r : Bool) (h0 : ref17_Has p0 p1 = some r) : CallAt Tryz.prog 76 [.d ((eL 1 eI) p0), .d (eI p1)] [] (.d (eB r)) [] := by
 unfold ref17_Has at h0
 refine fn0 [0, 1] Tryz.func76 rfl rfl rfl rfl rfl ?_
 refine sr (sa rfl (sn (SC.seqB h0 (fun y => ⟨mk 18 [], []⟩) ?_ ?_)))
 ·intro u1_44 h1 h0
  obtain ⟨u2_50, h2, h1⟩ := ob h1
  refine sr (sa rfl (sn (SC.blk (SC.loopB h2 (fun y => ⟨mk 18 [(0, .d ((eL 1 eI) p0)), (1, .d (eI p1)), (5, .d (eI y))], []⟩) (wq rfl) ?_))))
  intro n52
  rintro y46 w2_49 h3 hv3
  refine sq (sr (sm rfl (sm rfl (s1 (len rfl rfl rfl (len_lst un23)) (s1 (bi rfl rfl q_i64_lss) (sn (cB h3 rfl (fun h3 => ?_) (fun h3 => ?_))))))))
  ·obtain ⟨v51, hv51, h3⟩ := ob h3
   refine sk (sq (SC.blk (sr (sm rfl (sm rfl (s1 (ial rfl rfl un23 ts3 (getI_some hv51).1 (map_get (getI_some hv51).2) rfl) (s1 (lod rfl (ld_rop ts3 ta3 rfl)) (sm rfl (s1 (bi rfl rfl q_i64_eql) ?_)))))))))
   refine sn (cB h3 rfl (fun h3 => ?_) (fun h3 => ?_))
   ·have q := si h3; subst q; have q : _ = _ := hv3; subst q; have q := si h1; subst q; have q := si h0; subst q
    exact sr (sa rfl (sn (SC.ret (finR (Wk.refl _) (lresT rfl lresN) rfl))))
   ·refine SC.skip ?_
    change SC _ _ _ _ _
    have q := si h3; subst q
    exact SC.region (sm rfl (s1 (bi rfl rfl q_i64_add) (sa rfl (SO.nil (lf (wq rfl))))))
  ·have q := si h3; subst q; have q : _ = _ := hv3; subst q; have q := si h1; subst q
   exact SC.exit (lf (wq rfl))
 ·intro _ h0
  have q := si h0; subst q
  exact sr (sa rfl (sn (SC.ret (finR (Wk.refl _) (lresT rfl lresN) rfl))))
noncomputable def ref17_places (p0 : Int) (p1 : List Int) : Option Bool :=
 bindE (Y := Unit) (E := Bool)
 (Option.bind (α := Unit ⊕ Bool)
 (loop (Y := Int) (W := Unit ⊕ Bool) (fun y254 =>
 bif (decide (y254 < (p1.length : Int))) then
 Option.bind (α := Bool)
 (Option.bind (getI p1 y254) fun v280 =>
 bif (decide (v280 < (0 : Int))) then
 some true
 else
 Option.bind (getI p1 y254) fun v281 =>
 bif (decide (v281 ≥ p0)) then
 some true
 else
 bif decide (0 ≤ y254 ∧ y254 ≤ (p1.length : Int)) then
 Option.bind (getI p1 y254) fun v283 =>
 Option.bind (ref17_Has (List.take y254.toNat p1) v283) fun r285 =>
 some r285
 else none)
 fun y278 =>
 bif y278 then
 some (Sum.inr (Sum.inr false))
 else
 some (Sum.inl (w64 (y254 + (1 : Int))))
 else
 some (Sum.inr (Sum.inl ()))) (0 : Int))
 (Sum.elim (fun e => some (Sum.inl e)) (fun e => some (Sum.inr e))))
 (fun _ =>
 some true)
 (fun e => some e)
theorem ref17_places_ok (p0 : Int) (p1 : List Int) (r : Bool) (h0 : ref17_places p0 p1 = some r) : CallAt Tryz.prog 44 [.d (eI p0), .d ((eL 1 eI) p1)] [] (.d (eB r)) [] := by
 unfold ref17_places at h0
 refine fn0 [0, 1] Tryz.func44 rfl rfl rfl rfl rfl ?_
 refine sr (sa rfl (sn (SC.seqB h0 (fun y => ⟨mk 35 [], []⟩) ?_ ?_)))
 ·intro u1_239 h1 h0
  obtain ⟨u2_271, h2, h1⟩ := ob h1
  refine sr (sa rfl (sn (SC.blk (SC.loopB h2 (fun y => ⟨mk 35 [(0, .d (eI p0)), (1, .d ((eL 1 eI) p1)), (5, .d (eI y))], []⟩) (wq rfl) ?_))))
  intro n286
  rintro y254 w2_270 h3 hv3
  refine sq (sr (sm rfl (sm rfl (s1 (len rfl rfl rfl (len_lst un23)) (s1 (bi rfl rfl q_i64_lss) (sn (cB h3 rfl (fun h3 => ?_) (fun h3 => ?_))))))))
  ·refine sk (sq (SC.blk (SC.seqP h3 (fun y => ⟨mk 35 [(0, .d (eI p0)), (1, .d ((eL 1 eI) p1)), (5, .d (eI y254)), (34, .d (eB y))], []⟩) ?_ ?_)))
   ·intro u4_279 h4
    obtain ⟨v280, hv280, h4⟩ := ob h4
    refine SC.draws (by kernel_rfl) (t1 ([], false) (mv rfl) rfl (t1 ([], false) (mv rfl) rfl (t1 ([], false) (ial rfl rfl un23 ts3 (getI_some hv280).1 (map_get (getI_some hv280).2) rfl) rfl (t1 ([], false) (lod rfl (ld_rop ts3 ta3 rfl)) rfl (t1 ([], false) (bi rfl rfl q_i64_lss) rfl (t1 ([], false) (mv rfl) rfl (tp h4 (fun h4 => ?_) (fun h4 => ?_))))))))
    ·have q := si h4; subst q
     refine jw rfl (jw rfl (jw rfl (jw rfl (jw rfl (jw rfl (t1 ([], false) (pkt rfl rfl) rfl (t1 ([], false) (mv rfl) rfl (jw rfl (jw rfl ?_)))))))))
     refine jw rfl (jw rfl (jw rfl (jw rfl (jw rfl (jw rfl (t1 ([], false) (pkt rfl rfl) rfl (ST.nil (And.intro (by decide +kernel) ?_))))))))
     exact (wq rfl)
    ·obtain ⟨v281, hv281, h4⟩ := ob h4
     refine u1 ([], false) (ww rfl) (mv rfl) rfl (u1 ([], false) (ww rfl) (mv rfl) rfl (u1 ([], false) (ww rfl) (ial rfl rfl un23 ts3 (getI_some hv281).1 (map_get (getI_some hv281).2) rfl) rfl (u1 ([], false) (ww rfl) (lod rfl (ld_rop ts3 ta3 rfl)) rfl (u1 ([], false) (ww rfl) (mv rfl) rfl (u1 ([], false) (ww rfl) (bi rfl rfl q_i64_geq) rfl (t1 ([], false) (pkf rfl rfl) rfl (t1 ([], false) (mv rfl) rfl (tp h4 (fun h4 => ?_) (fun h4 => ?_)))))))))
     ·have q := si h4; subst q
      refine jw rfl (jw rfl (jw rfl (jw rfl (jw rfl (jw rfl (jw rfl (jw rfl (t1 ([], false) (pkt rfl rfl) rfl (ST.nil (And.intro (by decide +kernel) ?_))))))))))
      exact (wq rfl)
     ·obtain ⟨hg282, h4⟩ := gd h4; obtain ⟨v283, hv283, h4⟩ := ob h4; obtain ⟨r285, hq284, h4⟩ := ob h4; have q := si h4; subst q
      refine u1 ([], false) (ww rfl) (mv rfl) rfl (u1 ([], false) (ww rfl) (mv rfl) rfl (u1 ([], false) (ww rfl) (slo rfl rfl rfl rfl (sl_lst_hi un23 ts3 hg282)) rfl (u1 ([], false) (ww rfl) (mv rfl) rfl (u1 ([], false) (ww rfl) (mv rfl) rfl (u1 ([], false) (ww rfl) (ial rfl rfl un23 ts3 (getI_some hv283).1 (map_get (getI_some hv283).2) rfl) rfl (u1 ([], false) (ww rfl) (lod rfl (ld_rop ts3 ta3 rfl)) rfl (tc0 (ref17_Has_ok (List.take y254.toNat p1) v283 _ hq284) (ww rfl) rfl rfl rfl cb76 rfl (fun _ => rfl) (fun _ => rfl) (t1 ([], false) (pkf rfl rfl) rfl (ST.nil (And.intro (by decide +kernel) ?_))))))))))
      exact (wq rfl)
   ·rintro y278 h3
    refine cB h3 rfl (fun h3 => ?_) (fun h3 => ?_)
    ·have q := si h3; subst q; have q : _ = _ := hv3; subst q; have q := si h1; subst q; have q := si h0; subst q
     exact sr (sa rfl (sn (SC.ret (finR (Wk.refl _) (lresT rfl lresN) rfl))))
    ·refine SC.skip ?_
     change SC _ _ _ _ _
     have q := si h3; subst q
     exact SC.region (sm rfl (s1 (bi rfl rfl q_i64_add) (sa rfl (SO.nil (lf (wq rfl))))))
  ·have q := si h3; subst q; have q : _ = _ := hv3; subst q; have q := si h1; subst q
   exact SC.exit (lf (wq rfl))
 ·intro _ h0
  have q := si h0; subst q
  exact sr (sa rfl (sn (SC.ret (finR (Wk.refl _) (lresT rfl lresN) rfl))))
noncomputable def ref17_wide (p0 : ApiColumn) (p1 : Int) : Option Int :=
 Option.bind (α := Bool)
 (bif (p0.Kind == (1 : Int)) then
 some (p0.Kind == (1 : Int))
 else
 some (p0.Kind == (2 : Int)))
 fun y6 =>
 bif y6 then
 some (9 : Int)
 else
 bif (p0.Kind == (3 : Int)) then
 some (2 : Int)
 else
 some (w64 ((3 : Int) + (w64 (p1 * p0.Max))))
theorem ref17_wide_ok (p0 : ApiColumn) (p1 : Int) (r : Int) (h0 : ref17_wide p0 p1 = some r) : CallAt Tryz.prog 77 [.d (eApiColumn p0), .d (eI p1)] [] (.d (eI r)) [] := by
 unfold ref17_wide at h0
 refine fn0 [0, 1] Tryz.func77 rfl rfl rfl rfl rfl ?_
 refine sr (s1 (bxo (k := 0) rfl rfl rfl) (sa rfl (sn (sq (sr (s1 (far (k := 1) rfl fo45_1 ts3 rfl) (s1 (lod rfl (ld_box ts3 ta3 rfl rfl)) (sn (SC.blk ?_)))))))))
 refine SC.seqP h0 (fun y => ⟨mk 17 [(1, .d (eI p1)), (2, .ref 0 0 0), (6, .d (eI p0.Kind)), (7, .d (eB y))], [.box (.d (eApiColumn p0))]⟩) ?_ ?_
 ·intro u1_7 h1
  refine sr (s1 (bi rfl rfl q_i64_eql) (sa rfl (sn (cB h1 rfl (fun h1 => ?_) (fun h1 => ?_)))))
  ·have q := si h1; subst q
   exact SC.skip ((wq rfl))
  ·have q := si h1; subst q
   exact SC.region (s1 (bi rfl rfl q_i64_eql) (sa rfl (SO.nil ((wq rfl)))))
 ·rintro y6 h0
  refine cB h0 rfl (fun h0 => ?_) (fun h0 => ?_)
  ·have q := si h0; subst q
   exact sr (sa rfl (sn (SC.ret (finR (wc (e' := [(4, .d (eI (9 : Int)))]) [] [] (by kernel_rfl) rfl (by kernel_rfl)) (lresT rfl lresN) rfl))))
  ·refine sr (s1 (bi rfl rfl q_i64_eql) (sa rfl (sn (cB h0 rfl (fun h0 => ?_) (fun h0 => ?_)))))
   ·have q := si h0; subst q
    exact sr (sa rfl (sn (SC.ret (finR (wc (e' := [(4, .d (eI (2 : Int)))]) [] [] (by kernel_rfl) rfl (by kernel_rfl)) (lresT rfl lresN) rfl))))
   ·refine SC.skip ?_
    change SC _ _ _ _ _
    have q := si h0; subst q
    exact sr (sm rfl (s1 (far (k := 2) rfl fo45_2 ts3 rfl) (s1 (lod rfl (ld_box ts3 ta3 rfl rfl)) (s1 (bi rfl rfl q_i64_mul) (s1 (bi rfl rfl q_i64_add) (sa rfl (sn (SC.ret (finR (wc (e' := [(4, .d (eI (w64 ((3 : Int) + (w64 (p1 * p0.Max))))))]) [] [] (by kernel_rfl) rfl (by kernel_rfl)) (lresT rfl lresN) rfl)))))))))
noncomputable def ref17_RowMax (p0 : List ApiColumn) : Option Int :=
 Option.bind (α := Int)
 (Option.bind (α := Int)
 (loop (Y := Int × Int) (W := Int) (fun (y91, y92) =>
 bif (decide (y92 < (p0.length : Int))) then
 Option.bind (getI p0 y92) fun v100 =>
 Option.bind (ref17_wide v100 (1 : Int)) fun r102 =>
 some (Sum.inl ((w64 (y91 + r102)), (w64 (y92 + (1 : Int)))))
 else
 some (Sum.inr y91)) ((1 : Int), (0 : Int)))
 (fun e => some e))
 fun y86 =>
 some y86
theorem ref17_RowMax_ok (p0 : List ApiColumn) (r : Int) (h0 : ref17_RowMax p0 = some r) : CallAt Tryz.prog 45 [.d ((eL 7 eApiColumn) p0)] [] (.d (eI r)) [] := by
 unfold ref17_RowMax at h0
 refine fn0 [0] Tryz.func45 rfl rfl rfl rfl rfl ?_
 refine sr (sa rfl (sn (sr (sa rfl (sn (SC.seqP h0 (fun y => ⟨mk 19 [(3, .d (eI y))], []⟩) ?_ ?_))))))
 ·intro u1_87 h1
  obtain ⟨u2_99, h2, h1⟩ := ob h1
  refine sr (sa rfl (sn (SC.blk (SC.loopB h2 (fun y => ⟨mk 19 [(0, .d ((eL 7 eApiColumn) p0)), (3, .d (eI y.1)), (4, .d (eI y.2))], []⟩) (wq rfl) ?_))))
  intro n103
  rintro ⟨y91, y92⟩ w2_98 h3 hv3
  refine sq (sr (sm rfl (sm rfl (s1 (len rfl rfl rfl (len_lst un22)) (s1 (bi rfl rfl q_i64_lss) (sn (cB h3 rfl (fun h3 => ?_) (fun h3 => ?_))))))))
  ·obtain ⟨v100, hv100, h3⟩ := ob h3; obtain ⟨r102, hq101, h3⟩ := ob h3
   refine sk (sq (SC.blk (SC.region (sm rfl (sm rfl (sm rfl (s1 (ial rfl rfl un22 ts45 (getI_some hv100).1 (map_get (getI_some hv100).2) rfl) (s1 (lod (v := .d (eApiColumn v100)) rfl (ld_rop ts45 ta45 rfl)) (c0 (ref17_wide_ok v100 (1 : Int) _ hq101) wf rfl rfl rfl cb77 rfl (fun _ => rfl) (fun _ => rfl) ?_)))))))))
   refine s1 (bi rfl rfl q_i64_add) (sa rfl (SO.nil ?_))
   change SC _ _ _ _ _
   have q := si h3; subst q
   exact SC.region (sm rfl (s1 (bi rfl rfl q_i64_add) (sa rfl (SO.nil (lf (wq rfl))))))
  ·have q := si h3; subst q; have q : _ = _ := hv3; subst q; have q := si h1; subst q
   exact SC.exit ((wq rfl))
 ·rintro y86 h0
  have q := si h0; subst q
  exact sr (sm rfl (sa rfl (sn (SC.ret (finR (Wk.refl _) (lresT rfl lresN) rfl)))))
noncomputable def ref17_Up (p0 : List Int) : Option ((List ApiPart)) :=
 Option.bind (α := (List ApiPart))
 (Option.bind (α := (List ApiPart))
 (loop (Y := (List ApiPart) × Int) (W := (List ApiPart)) (fun (y75, y76) =>
 bif (decide (y76 < (p0.length : Int))) then
 Option.bind (getI p0 y76) fun v83 =>
 bif decide ((y75.length + [(ApiPart.mk v83 false)].length) * 16 ≤ room) then
 some (Sum.inl ((y75 ++ [(ApiPart.mk v83 false)]), (w64 (y76 + (1 : Int)))))
 else none
 else
 some (Sum.inr y75)) (([] : List ApiPart), (0 : Int)))
 (fun e => some e))
 fun y71 =>
 some y71
theorem ref17_Up_ok (p0 : List Int) (r : (List ApiPart)) (h0 : ref17_Up p0 = some r) : CallAt Tryz.prog 47 [.d ((eL 1 eI) p0)] [] (.d ((eL 2 eApiPart) r)) [] := by
 unfold ref17_Up at h0
 refine fn0 [0] Tryz.func47 rfl rfl rfl rfl rfl ?_
 refine sr (s1 (asg (v := .d .nils) rfl) (sn (sr (s1 (asg (v := .d .nils) rfl) (sn (SC.seqP h0 (fun y => ⟨mk 20 [(3, .slc 0 2 0 y.length none)], [.row 2 (List.map eApiPart y) true]⟩) ?_ ?_))))))
 ·intro u1_72 h1
  obtain ⟨u2_82, h2, h1⟩ := ob h1
  refine sr (sa rfl (sn (SC.blk (SC.loopB h2 (fun y => ⟨mk 20 [(0, .d ((eL 1 eI) p0)), (3, .slc 0 2 0 y.1.length none), (4, .d (eI y.2))], [.row 2 (List.map eApiPart y.1) true]⟩) (Wk.trans (Wk.pushE (σ' := [.row 2 (List.map eApiPart ([] : List ApiPart)) true]) (.row 2 [] true) (fun _ hh => by cases hh) rfl) (Wk.trans (Wk.env (e' := [(0, .d ((eL 1 eI) p0)), (3, .slc 0 2 0 (([] : List ApiPart).length) none), (4, .d (eI (0 : Int)))]) (EW.cons (AW.refl _) (EW.cons (AW.slcn _ _ _) (EW.cons (AW.refl _) EW.nil)))) (wq rfl))) ?_))))
  intro n85
  rintro ⟨y75, y76⟩ w2_81 h3 hv3
  refine sq (sr (sm rfl (sm rfl (s1 (len rfl rfl rfl (len_lst un23)) (s1 (bi rfl rfl q_i64_lss) (sn (cB h3 rfl (fun h3 => ?_) (fun h3 => ?_))))))))
  ·obtain ⟨v83, hv83, h3⟩ := ob h3; obtain ⟨hg84, h3⟩ := gd h3
   refine sk (sq (SC.blk (SC.region (sm rfl (sm rfl (sm rfl (s1 (ial rfl rfl un23 ts3 (getI_some hv83).1 (map_get (getI_some hv83).2) rfl) (s1 (lod rfl (ld_rop ts3 ta3 rfl)) (s1 (bld rfl (bd78_0 v83)) ?_)))))))))
   refine s1 (bsn (k := 1) (ds := List.map eApiPart [(ApiPart.mk v83 false)]) (off := 0) (l' := [(ApiPart.mk v83 false)].length) rfl un54 ei78 rfl rfl (by rfl) rfl rfl rfl) (s1 (app rfl rfl rfl rfl bc54 (aF (f := eApiPart) (xs := y75) (k := 2) rfl un54 ei78 rfl (el_full (xs := [(ApiPart.mk v83 false)]) rfl) hg84 rfl)) (sa rfl (SO.nil ?_)))
   change SC _ _ _ _ _
   have q := si h3; subst q
   exact SC.region (sm rfl (s1 (bi rfl rfl q_i64_add) (sa rfl (SO.nil (lf (wc [2] [2] (by kernel_rfl) rfl (by kernel_rfl)))))))
  ·have q := si h3; subst q; have q : _ = _ := hv3; subst q; have q := si h1; subst q
   exact SC.exit ((wq rfl))
 ·rintro y71 h0
  have q := si h0; subst q
  exact sr (sm rfl (sa rfl (sn (SC.ret (finR (Wk.trans (Wk.frz (i := 2) (x := .slc 0 2 0 y71.length none) rfl rfl (fF rfl rfl rfl)) (wc (e' := [(2, .d ((eL 2 eApiPart) y71))]) [] [] (by kernel_rfl) rfl (by kernel_rfl))) (lresT rfl lresN) rfl)))))
noncomputable def ref17_KeyMax (p0 : List ApiColumn) (p1 : List ApiPart) : Option Int :=
 Option.bind (α := Int)
 (Option.bind (α := Int)
 (loop (Y := Int × Int) (W := Int) (fun (y107, y108) =>
 bif (decide (y108 < (p1.length : Int))) then
 Option.bind (getI p1 y108) fun v117 =>
 Option.bind (getI p0 v117.Col) fun v118 =>
 Option.bind (ref17_wide v118 (2 : Int)) fun r120 =>
 some (Sum.inl ((w64 (y107 + r120)), (w64 (y108 + (1 : Int)))))
 else
 some (Sum.inr y107)) ((0 : Int), (0 : Int)))
 (fun e => some e))
 fun y101 =>
 some y101
theorem ref17_KeyMax_ok (p0 : List ApiColumn) (p1 : List ApiPart) (r : Int) (h0 : ref17_KeyMax p0 p1 = some r) : CallAt Tryz.prog 46 [.d ((eL 7 eApiColumn) p0), .d ((eL 2 eApiPart) p1)] [] (.d (eI r)) [] := by
 unfold ref17_KeyMax at h0
 refine fn0 [0, 1] Tryz.func46 rfl rfl rfl rfl rfl ?_
 refine sr (sa rfl (sn (sr (sa rfl (sn (SC.seqP h0 (fun y => ⟨mk 25 [(5, .d (eI y))], []⟩) ?_ ?_))))))
 ·intro u1_102 h1
  obtain ⟨u2_116, h2, h1⟩ := ob h1
  refine sr (sa rfl (sn (SC.blk (SC.loopB h2 (fun y => ⟨mk 25 [(0, .d ((eL 7 eApiColumn) p0)), (1, .d ((eL 2 eApiPart) p1)), (5, .d (eI y.1)), (6, .d (eI y.2))], []⟩) (wq rfl) ?_))))
  intro n121
  rintro ⟨y107, y108⟩ w2_115 h3 hv3
  refine sq (sr (sm rfl (sm rfl (s1 (len rfl rfl rfl (len_lst un54)) (s1 (bi rfl rfl q_i64_lss) (sn (cB h3 rfl (fun h3 => ?_) (fun h3 => ?_))))))))
  ·obtain ⟨v117, hv117, h3⟩ := ob h3; obtain ⟨v118, hv118, h3⟩ := ob h3; obtain ⟨r120, hq119, h3⟩ := ob h3
   refine sk (sq (SC.blk (SC.region (sm rfl (sm rfl (sm rfl (sm rfl (s1 (ial rfl rfl un54 ts78 (getI_some hv117).1 (map_get (getI_some hv117).2) rfl) (s1 (fap rfl fo78_0 ts3 rfl) ?_)))))))))
   refine s1 (lod rfl (ld_rop ts3 ta3 rfl)) (s1 (ial rfl rfl un22 ts45 (getI_some hv118).1 (map_get (getI_some hv118).2) rfl) (s1 (lod (v := .d (eApiColumn v118)) rfl (ld_rop ts45 ta45 rfl)) (c0 (ref17_wide_ok v118 (2 : Int) _ hq119) wf rfl rfl rfl cb77 rfl (fun _ => rfl) (fun _ => rfl) (s1 (bi rfl rfl q_i64_add) (sa rfl (SO.nil ?_))))))
   change SC _ _ _ _ _
   have q := si h3; subst q
   exact SC.region (sm rfl (s1 (bi rfl rfl q_i64_add) (sa rfl (SO.nil (lf (wq rfl))))))
  ·have q := si h3; subst q; have q : _ = _ := hv3; subst q; have q := si h1; subst q
   exact SC.exit ((wq rfl))
 ·rintro y101 h0
  have q := si h0; subst q
  exact sr (sm rfl (sa rfl (sn (SC.ret (finR (Wk.refl _) (lresT rfl lresN) rfl)))))
noncomputable def ref17_Cols (p0 : List ApiPart) : Option ((List Int)) :=
 Option.bind (α := (List Int))
 (Option.bind (α := (List Int))
 (loop (Y := (List Int) × Int) (W := (List Int)) (fun (y75, y76) =>
 bif (decide (y76 < (p0.length : Int))) then
 Option.bind (getI p0 y76) fun v83 =>
 bif decide ((y75.length + [v83.Col].length) * 8 ≤ room) then
 some (Sum.inl ((y75 ++ [v83.Col]), (w64 (y76 + (1 : Int)))))
 else none
 else
 some (Sum.inr y75)) (([] : List Int), (0 : Int)))
 (fun e => some e))
 fun y71 =>
 some y71
theorem ref17_Cols_ok (p0 : List ApiPart) (r : (List Int)) (h0 : ref17_Cols p0 = some r) : CallAt Tryz.prog 78 [.d ((eL 2 eApiPart) p0)] [] (.d ((eL 1 eI) r)) [] := by
 unfold ref17_Cols at h0
 refine fn0 [0] Tryz.func78 rfl rfl rfl rfl rfl ?_
 refine sr (s1 (asg (v := .d .nils) rfl) (sn (sr (s1 (asg (v := .d .nils) rfl) (sn (SC.seqP h0 (fun y => ⟨mk 20 [(3, .slc 0 1 0 y.length none)], [.row 1 (List.map eI y) true]⟩) ?_ ?_))))))
 ·intro u1_72 h1
  obtain ⟨u2_82, h2, h1⟩ := ob h1
  refine sr (sa rfl (sn (SC.blk (SC.loopB h2 (fun y => ⟨mk 20 [(0, .d ((eL 2 eApiPart) p0)), (3, .slc 0 1 0 y.1.length none), (4, .d (eI y.2))], [.row 1 (List.map eI y.1) true]⟩) (Wk.trans (Wk.pushE (σ' := [.row 1 (List.map eI ([] : List Int)) true]) (.row 1 [] true) (fun _ hh => by cases hh) rfl) (Wk.trans (Wk.env (e' := [(0, .d ((eL 2 eApiPart) p0)), (3, .slc 0 1 0 (([] : List Int).length) none), (4, .d (eI (0 : Int)))]) (EW.cons (AW.refl _) (EW.cons (AW.slcn _ _ _) (EW.cons (AW.refl _) EW.nil)))) (wq rfl))) ?_))))
  intro n85
  rintro ⟨y75, y76⟩ w2_81 h3 hv3
  refine sq (sr (sm rfl (sm rfl (s1 (len rfl rfl rfl (len_lst un54)) (s1 (bi rfl rfl q_i64_lss) (sn (cB h3 rfl (fun h3 => ?_) (fun h3 => ?_))))))))
  ·obtain ⟨v83, hv83, h3⟩ := ob h3; obtain ⟨hg84, h3⟩ := gd h3
   refine sk (sq (SC.blk (SC.region (sm rfl (sm rfl (sm rfl (s1 (ial rfl rfl un54 ts78 (getI_some hv83).1 (map_get (getI_some hv83).2) rfl) (s1 (fap rfl fo78_0 ts3 rfl) (s1 (lod rfl (ld_rop ts3 ta3 rfl)) ?_)))))))))
   refine s1 (bsn (k := 1) (ds := List.map eI [v83.Col]) (off := 0) (l' := [v83.Col].length) rfl un23 ei3 rfl rfl (by rfl) rfl rfl rfl) (s1 (app rfl rfl rfl rfl bc23 (aF (f := eI) (xs := y75) (k := 2) rfl un23 ei3 rfl (el_full (xs := [v83.Col]) rfl) hg84 rfl)) (sa rfl (SO.nil ?_)))
   change SC _ _ _ _ _
   have q := si h3; subst q
   exact SC.region (sm rfl (s1 (bi rfl rfl q_i64_add) (sa rfl (SO.nil (lf (wc [2] [2] (by kernel_rfl) rfl (by kernel_rfl)))))))
  ·have q := si h3; subst q; have q : _ = _ := hv3; subst q; have q := si h1; subst q
   exact SC.exit ((wq rfl))
 ·rintro y71 h0
  have q := si h0; subst q
  exact sr (sm rfl (sa rfl (sn (SC.ret (finR (Wk.trans (Wk.frz (i := 2) (x := .slc 0 1 0 y71.length none) rfl rfl (fF rfl rfl rfl)) (wc (e' := [(2, .d ((eL 1 eI) y71))]) [] [] (by kernel_rfl) rfl (by kernel_rfl))) (lresT rfl lresN) rfl)))))
end Lv
