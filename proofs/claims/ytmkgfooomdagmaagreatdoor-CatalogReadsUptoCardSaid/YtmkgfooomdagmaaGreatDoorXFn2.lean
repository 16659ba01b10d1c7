/- Part of the proof of a law: functions and their walks. -/
import Derived.Test.YtmkgfooomdagmaaGreatDoorXFn1
namespace Lv
open Go Go.Proofs
set_option linter.unusedVariables false
set_option linter.unusedSimpArgs false
set_option linter.unusedSectionVars false
set_option maxRecDepth 100000
variable [BaseTab] [TabOk]
noncomputable def catalog_Ops (p0 : Int) (p1 : List ApiPair) (p2 : List ApiPair) : Option ((List ForestOp)) :=
 Option.bind (α := (List (List UInt8)) × (List ((List UInt8) × (List UInt8))))
 (Option.bind (α := (List (List UInt8)) × (List ((List UInt8) × (List UInt8))))
 (loop (Y := (List (List UInt8)) × Int × (List ((List UInt8) × (List UInt8)))) (W := (List (List UInt8)) × (List ((List UInt8) × (List UInt8)))) (fun (y414, y415, y416) =>
 bif (decide (y415 < (p1.length : Int))) then
 Option.bind (getI p1 y415) fun v424 =>
 bif decide ((y414.length + [v424.Key].length) * 16 ≤ room) then
 some (Sum.inl ((y414 ++ [v424.Key]), (w64 (y415 + (1 : Int))), (mset y416 v424.Key v424.Val)))
 else none
 else
 some (Sum.inr (y414, y416))) (([] : List (List UInt8)), (0 : Int), ([] : List ((List UInt8) × (List UInt8)))))
 (fun e => some e))
 fun (y409, y410) =>
 Option.bind (α := (List (List UInt8)) × (List ((List UInt8) × (List UInt8))))
 (Option.bind (α := (List (List UInt8)) × (List ((List UInt8) × (List UInt8))))
 (loop (Y := (List (List UInt8)) × Int × (List ((List UInt8) × (List UInt8)))) (W := (List (List UInt8)) × (List ((List UInt8) × (List UInt8)))) (fun (y447, y448, y449) =>
 bif (decide (y448 < (p2.length : Int))) then
 Option.bind (getI p2 y448) fun v457 =>
 bif decide ((y447.length + [v457.Key].length) * 16 ≤ room) then
 some (Sum.inl ((y447 ++ [v457.Key]), (w64 (y448 + (1 : Int))), (mset y449 v457.Key v457.Val)))
 else none
 else
 some (Sum.inr (y447, y449))) (y409, (0 : Int), ([] : List ((List UInt8) × (List UInt8)))))
 (fun e => some e))
 fun (y442, y443) =>
 Option.bind (sortF y442) fun r461 =>
 Option.bind (α := (List ForestOp))
 (Option.bind (compactF r461 0 y442.length) fun r528 =>
 Option.bind (α := (List ForestOp))
 (loop (Y := (List ForestOp) × Int) (W := (List ForestOp)) (fun (y547, y548) =>
 bif (decide (y548 < (r528.length : Int))) then
 Option.bind (α := (List ForestOp))
 (Option.bind (getI r528 y548) fun v581 =>
 bindE (Y := ApiMsg) (E := (List ForestOp))
 (Option.bind (α := Bool)
 (bif (Option.isSome (mget y410 v581)) then
 bif (Option.isSome (mget y443 v581)) then
 some ((Option.getD (mget y410 v581) ([] : List UInt8)) == (Option.getD (mget y443 v581) ([] : List UInt8)))
 else
 some false
 else
 some false)
 fun y586 =>
 bif y586 then
 some (Sum.inr y547)
 else
 bif (!(Option.isSome (mget y443 v581))) then
 some (Sum.inl (ApiMsg.mk (0 : UInt64) (2 : Int) v581 (0 : UInt64) (Option.getD (mget y443 v581) ([] : List UInt8)) (0 : Int) (0 : UInt64)))
 else
 some (Sum.inl (ApiMsg.mk (0 : UInt64) (1 : Int) v581 (0 : UInt64) (Option.getD (mget y443 v581) ([] : List UInt8)) (0 : Int) (0 : UInt64))))
 (fun y584 =>
 bif decide ((y547.length + [(ForestOp.mk (1 : Int) p0 y584)].length) * 88 ≤ room) then
 some (y547 ++ [(ForestOp.mk (1 : Int) p0 y584)])
 else none)
 (fun e => some e))
 fun y579 =>
 some (Sum.inl (y579, (w64 (y548 + (1 : Int)))))
 else
 some (Sum.inr y547)) (([] : List ForestOp), (0 : Int)))
 (fun e => some e))
 fun y525 =>
 some y525
theorem catalog_Ops_ok (p0 : Int) (p1 : List ApiPair) (p2 : List ApiPair) (r : (List ForestOp)) (h0 : catalog_Ops p0 p1 p2 = some r) : CallAt Tryz.prog 14 [.d (eI p0), .d ((eL 2 eApiPair) p1), .d ((eL 2 eApiPair) p2)] [] (.d ((eL 9 eForestOp) r)) [] := by
 unfold catalog_Ops at h0
 refine fn0 [0, 1, 2] Tryz.func14 rfl rfl rfl rfl rfl ?_
 refine sr (s1 (asg (v := .d .nils) rfl) (sn (sr (s1 (mkm (f := eS) (g := eS) (i := 0) un84 rfl) (s1 (mkm (f := eS) (g := eS) (i := 1) un84 rfl) (sa rfl (sa rfl (sn (sr ?_)))))))))
 refine s1 (asg (v := .d .nils) rfl) (sn (SC.seqP h0 (fun y => ⟨mk 104 [(0, .d (eI p0)), (2, .d ((eL 2 eApiPair) p2)), (7, .mapr 0), (8, .mapr 1), (9, .slc 2 1 0 y.1.length none)], [.map (List.map (eM eS eS) y.2), .map (List.map (eM eS eS) ([] : List ((List UInt8) × (List UInt8)))), .row 1 (List.map eS y.1) true]⟩) ?_ ?_))
 ·intro u1_411 h1
  obtain ⟨u2_423, h2, h1⟩ := ob h1
  refine sr (sm rfl (s1 (len rfl rfl rfl (len_lst un29)) (sm rfl (sn (SC.blk (SC.loopB h2 (fun y => ⟨mk 104 [(0, .d (eI p0)), (2, .d ((eL 2 eApiPair) p2)), (7, .mapr 0), (8, .mapr 1), (9, .slc 2 1 0 y.1.length none), (24, .d ((eL 2 eApiPair) p1)), (25, .d (eI (p1.length : Int))), (26, .d (eI y.2.1))], [.map (List.map (eM eS eS) y.2.2), .map (List.map (eM eS eS) ([] : List ((List UInt8) × (List UInt8)))), .row 1 (List.map eS y.1) true]⟩) (Wk.trans (Wk.pushE (σ' := [.map (List.map (eM eS eS) ([] : List ((List UInt8) × (List UInt8)))), .map (List.map (eM eS eS) ([] : List ((List UInt8) × (List UInt8)))), .row 1 (List.map eS ([] : List (List UInt8))) true]) (.row 1 [] true) (fun _ hh => by cases hh) rfl) (Wk.trans (Wk.env (e' := [(0, .d (eI p0)), (2, .d ((eL 2 eApiPair) p2)), (7, .mapr 0), (8, .mapr 1), (9, .slc 2 1 0 (([] : List (List UInt8)).length) none), (24, .d ((eL 2 eApiPair) p1)), (25, .d (eI (p1.length : Int))), (26, .d (eI (0 : Int)))]) (EW.cons (AW.refl _) (EW.cons (AW.refl _) (EW.cons (AW.refl _) (EW.cons (AW.refl _) (EW.cons (AW.slcn _ _ _) (EW.cons (AW.refl _) (EW.cons (AW.refl _) (EW.cons (AW.refl _) EW.nil))))))))) (wq rfl))) ?_))))))
  intro n426
  rintro ⟨y414, y415, y416⟩ w2_422 h3 hv3
  refine sr (s1 (bi rfl rfl q_i64_lss) (sn (sq (cB h3 rfl (fun h3 => ?_) (fun h3 => ?_)))))
  ·obtain ⟨v424, hv424, h3⟩ := ob h3; obtain ⟨hg425, h3⟩ := gd h3
   refine sk (sq (SC.blk (sr (s1 (ial rfl rfl un29 ts49 (getI_some hv424).1 (map_get (getI_some hv424).2) rfl) (s1 (lod (v := .d (eApiPair v424)) rfl (ld_rop ts49 ta49 rfl)) (s1 (alo (k := 3) zo49 rfl) (s0 (sto rfl rfl (sB (d' := .d (eApiPair v424)) ts49 rfl rfl rfl rfl rfl rfl rfl)) (sn (sr ?_)))))))))
   refine sm rfl (s1 (far (k := 0) rfl fo49_0 ts9 rfl) (s1 (lod rfl (ld_box ts9 ta9 rfl rfl)) (s1 (far (k := 1) rfl fo49_1 ts9 rfl) (s1 (lod rfl (ld_box ts9 ta9 rfl rfl)) (s0 (mpu (f := eS) (g := eS) (k := v424.Key) (v := v424.Val) kq_str rfl rfl rfl rfl un84 un9 rfl rfl rfl) (sn (SC.region (sm rfl (s1 (far (k := 0) rfl fo49_0 ts9 rfl) ?_)))))))))
   refine s1 (lod rfl (ld_box ts9 ta9 rfl rfl)) (s1 (bsn (k := 4) (ds := List.map eS [v424.Key]) (off := 0) (l' := [v424.Key].length) rfl un85 ei9 rfl rfl (by rfl) rfl rfl rfl) (s1 (app rfl rfl rfl rfl bc85 (aF (f := eS) (xs := y414) (k := 5) rfl un85 ei9 rfl (el_full (xs := [v424.Key]) rfl) hg425 rfl)) (sa rfl (SO.nil ?_))))
   change SC _ _ _ _ _
   have q := si h3; subst q
   exact SC.region (s1 (bi rfl rfl q_i64_add) (sm rfl (SO.nil (lf (wc [0, 1, 5] [0, 1, 5] (by kernel_rfl) rfl (by kernel_rfl))))))
  ·have q := si h3; subst q; have q : _ = _ := hv3; subst q; have q := si h1; subst q
   exact SC.exit ((wq rfl))
 ·rintro ⟨y409, y410⟩ h0
  refine SC.seqP h0 (fun y => ⟨mk 104 [(0, .d (eI p0)), (7, .mapr 0), (8, .mapr 1), (9, .slc 2 1 0 y.1.length none)], [.map (List.map (eM eS eS) y410), .map (List.map (eM eS eS) y.2), .row 1 (List.map eS y.1) true]⟩) ?_ ?_
  ·intro u1_444 h1
   obtain ⟨u2_456, h2, h1⟩ := ob h1
   refine sr (sm rfl (s1 (len rfl rfl rfl (len_lst un29)) (sm rfl (sn (SC.blk (SC.loopB h2 (fun y => ⟨mk 104 [(0, .d (eI p0)), (7, .mapr 0), (8, .mapr 1), (9, .slc 2 1 0 y.1.length none), (41, .d ((eL 2 eApiPair) p2)), (42, .d (eI (p2.length : Int))), (43, .d (eI y.2.1))], [.map (List.map (eM eS eS) y410), .map (List.map (eM eS eS) y.2.2), .row 1 (List.map eS y.1) true]⟩) (wq rfl) ?_))))))
   intro n459
   rintro ⟨y447, y448, y449⟩ w2_455 h3 hv3
   refine sr (s1 (bi rfl rfl q_i64_lss) (sn (sq (cB h3 rfl (fun h3 => ?_) (fun h3 => ?_)))))
   ·obtain ⟨v457, hv457, h3⟩ := ob h3; obtain ⟨hg458, h3⟩ := gd h3
    refine sk (sq (SC.blk (sr (s1 (ial rfl rfl un29 ts49 (getI_some hv457).1 (map_get (getI_some hv457).2) rfl) (s1 (lod (v := .d (eApiPair v457)) rfl (ld_rop ts49 ta49 rfl)) (s1 (alo (k := 3) zo49 rfl) (s0 (sto rfl rfl (sB (d' := .d (eApiPair v457)) ts49 rfl rfl rfl rfl rfl rfl rfl)) (sn (sr ?_)))))))))
    refine sm rfl (s1 (far (k := 0) rfl fo49_0 ts9 rfl) (s1 (lod rfl (ld_box ts9 ta9 rfl rfl)) (s1 (far (k := 1) rfl fo49_1 ts9 rfl) (s1 (lod rfl (ld_box ts9 ta9 rfl rfl)) (s0 (mpu (f := eS) (g := eS) (k := v457.Key) (v := v457.Val) kq_str rfl rfl rfl rfl un84 un9 rfl rfl rfl) (sn (SC.region (sm rfl (s1 (far (k := 0) rfl fo49_0 ts9 rfl) ?_)))))))))
    refine s1 (lod rfl (ld_box ts9 ta9 rfl rfl)) (s1 (bsn (k := 4) (ds := List.map eS [v457.Key]) (off := 0) (l' := [v457.Key].length) rfl un85 ei9 rfl rfl (by rfl) rfl rfl rfl) (s1 (app rfl rfl rfl rfl bc85 (aF (f := eS) (xs := y447) (k := 5) rfl un85 ei9 rfl (el_full (xs := [v457.Key]) rfl) hg458 rfl)) (sa rfl (SO.nil ?_))))
    change SC _ _ _ _ _
    have q := si h3; subst q
    exact SC.region (s1 (bi rfl rfl q_i64_add) (sm rfl (SO.nil (lf (wc [0, 1, 5] [0, 1, 5] (by kernel_rfl) rfl (by kernel_rfl))))))
   ·have q := si h3; subst q; have q : _ = _ := hv3; subst q; have q := si h1; subst q
    exact SC.exit ((wq rfl))
  ·rintro ⟨y442, y443⟩ h0
   obtain ⟨r461, hq460, h0⟩ := ob h0
   refine sr (sm rfl (cq [2] [] (sort_ok y442 _ hq460) wf rfl rfl rfl cb32 rfl rfl rfl rfl rfl rfl rfl rfl (sn (sr (s1 (asg (v := .d .nils) rfl) (sn (SC.seqP h0 (fun y => ⟨mk 104 [(14, .slc 0 9 0 y.length none)], [.row 9 (List.map eForestOp y) true]⟩) ?_ ?_)))))))
   ·intro u1_526 h1
    obtain ⟨r528, hq527, h1⟩ := ob h1; obtain ⟨u2_570, h2, h1⟩ := ob h1
    refine sr (sm rfl (cq [2] [] (compact_ok r461 0 y442.length _ hq527) wf rfl rfl rfl cb33 rfl rfl rfl rfl rfl rfl rfl rfl (s1 (len rfl rfl rfl (len_lst un85)) (sm rfl (sn (SC.blk (SC.loopB h2 (fun y => ⟨mk 104 [(0, .d (eI p0)), (7, .mapr 0), (8, .mapr 1), (14, .slc 2 9 0 y.1.length none), (61, .d ((eL 1 eS) r528)), (62, .d (eI (r528.length : Int))), (63, .d (eI y.2))], [.map (List.map (eM eS eS) y410), .map (List.map (eM eS eS) y443), .row 9 (List.map eForestOp y.1) true]⟩) (Wk.trans (Wk.pushE (σ' := [.map (List.map (eM eS eS) y410), .map (List.map (eM eS eS) y443), .row 1 (List.map eS (r528 ++ List.replicate (r461.length - r528.length) [])) false, .row 9 (List.map eForestOp ([] : List ForestOp)) true]) (.row 9 [] true) (fun _ hh => by cases hh) rfl) (Wk.trans (Wk.env (e' := [(0, .d (eI p0)), (7, .mapr 0), (8, .mapr 1), (14, .slc 3 9 0 (([] : List ForestOp).length) none), (61, .d ((eL 1 eS) r528)), (62, .d (eI (r528.length : Int))), (63, .d (eI (0 : Int)))]) (EW.cons (AW.refl _) (EW.cons (AW.refl _) (EW.cons (AW.refl _) (EW.cons (AW.slcn _ _ _) (EW.cons (AW.refl _) (EW.cons (AW.refl _) (EW.cons (AW.refl _) EW.nil)))))))) (wc [0, 1, 3] [0, 1, 3] (by kernel_rfl) rfl (by kernel_rfl)))) ?_)))))))
    intro n589
    rintro ⟨y547, y548⟩ w2_569 h3 hv3
    refine sr (s1 (bi rfl rfl q_i64_lss) (sn (sq (cB h3 rfl (fun h3 => ?_) (fun h3 => ?_)))))
    ·refine sk (SC.seqP h3 (fun y => ⟨mk 104 [(0, .d (eI p0)), (7, .mapr 0), (8, .mapr 1), (14, .slc 2 9 0 y.length none), (61, .d ((eL 1 eS) r528)), (62, .d (eI (r528.length : Int))), (63, .d (eI y548))], [.map (List.map (eM eS eS) y410), .map (List.map (eM eS eS) y443), .row 9 (List.map eForestOp y) true]⟩) ?_ ?_)
     ·intro u4_580 h4
      obtain ⟨v581, hv581, h4⟩ := ob h4
      refine SC.blk (sr (s1 (ial rfl rfl un85 ts9 (getI_some hv581).1 (map_get (getI_some hv581).2) rfl) (s1 (lod rfl (ld_rop ts9 ta9 rfl)) (sa rfl (sn (sr (sm rfl (sm rfl (s1 (mlo (f := eS) (g := eS) (k := v581) (v := ([] : List UInt8)) kq_str rfl rfl un84 un9 rfl zo9 rfl) ?_)))))))))
      refine sm rfl (s1 (ext rfl rfl) (s1 (ext rfl rfl) (sa rfl (sa rfl (sn (sr (sm rfl (sm rfl (s1 (mlo (f := eS) (g := eS) (k := v581) (v := ([] : List UInt8)) kq_str rfl rfl un84 un9 rfl zo9 rfl) ?_)))))))))
      refine sm rfl (s1 (ext rfl rfl) (s1 (ext rfl rfl) (sa rfl (sa rfl (sn (sr (sm rfl (sm rfl (s1 (bld rfl (bd51_1_2_4 (1 : Int) v581 (Option.getD (mget y443 v581) ([] : List UInt8)))) ?_)))))))))
      refine s1 (alo (k := 3) zo51 rfl) (s0 (sto rfl rfl (sB (d' := .d (eApiMsg (ApiMsg.mk (0 : UInt64) (1 : Int) v581 (0 : UInt64) (Option.getD (mget y443 v581) ([] : List UInt8)) (0 : Int) (0 : UInt64)))) ts51 rfl rfl rfl rfl rfl rfl rfl)) (sn (SC.seqB h4 (fun y => ⟨mk 104 [(0, .d (eI p0)), (7, .mapr 0), (8, .mapr 1), (14, .slc 2 9 0 y547.length none), (21, .ref 3 0 0), (61, .d ((eL 1 eS) r528)), (62, .d (eI (r528.length : Int))), (63, .d (eI y548))], [.map (List.map (eM eS eS) y410), .map (List.map (eM eS eS) y443), .row 9 (List.map eForestOp y547) true, .box (.d (eApiMsg y))]⟩) ?_ ?_)))
      ·intro u5_585 h5 h4
       refine SC.blk (SC.seqP h5 (fun y => ⟨mk 104 [(0, .d (eI p0)), (7, .mapr 0), (8, .mapr 1), (14, .slc 2 9 0 y547.length none), (20, .d (eB (Option.isSome (mget y443 v581)))), (21, .ref 3 0 0), (61, .d ((eL 1 eS) r528)), (62, .d (eI (r528.length : Int))), (63, .d (eI y548)), (82, .d (eB y))], [.map (List.map (eM eS eS) y410), .map (List.map (eM eS eS) y443), .row 9 (List.map eForestOp y547) true, .box (.d (eApiMsg (ApiMsg.mk (0 : UInt64) (1 : Int) v581 (0 : UInt64) (Option.getD (mget y443 v581) ([] : List UInt8)) (0 : Int) (0 : UInt64))))]⟩) ?_ ?_)
       ·intro u6_587 h6
        refine SC.region (sm rfl (sm rfl (sp h6 (fun h6 => ?_) (fun h6 => ?_))))
        ·refine gw rfl (mv rfl) (s1 (pkt rfl rfl) (sm rfl (sp h6 (fun h6 => ?_) (fun h6 => ?_))))
         ·have q := si h6; subst q
          exact gw rfl (mv rfl) (gw rfl (mv rfl) (gw rfl (bi rfl rfl q_str_eql) (s1 (pkt rfl rfl) (sa rfl (SO.nil ((wq rfl)))))))
         ·have q := si h6; subst q
          exact kw rfl (kw rfl (kw rfl (s1 (pkf rfl rfl) (sa rfl (SO.nil ((wq rfl)))))))
        ·have q := si h6; subst q
         exact kw rfl (s1 (pkf rfl rfl) (sm rfl (kw rfl (kw rfl (kw rfl (s1 (pkf rfl rfl) (sa rfl (SO.nil ((wq rfl))))))))))
       ·rintro y586 h5
        refine cB h5 rfl (fun h5 => ?_) (fun h5 => ?_)
        ·have q := si h5; subst q; have q := si h4; subst q
         exact SC.exit ((wc [0, 1, 2] [0, 1, 2] (by kernel_rfl) rfl (by kernel_rfl)))
        ·refine sr (sm rfl (s1 (nt rfl) (sa rfl (sn (cB h5 rfl (fun h5 => ?_) (fun h5 => ?_))))))
         ·have q := si h5; subst q
          exact SC.region (s1 (far (k := 1) rfl fo51_1 ts3 rfl) (s0 (sto (b := .d (eI (2 : Int))) rfl rfl (sB (d' := .d (eApiMsg (ApiMsg.mk (0 : UInt64) (2 : Int) v581 (0 : UInt64) (Option.getD (mget y443 v581) ([] : List UInt8)) (0 : Int) (0 : UInt64)))) ts3 rfl rfl rfl rfl rfl rfl rfl)) (SO.nil (lf (wq rfl)))))
         ·have q := si h5; subst q
          exact SC.skip (lf (wq rfl))
      ·rintro y584 h4
       obtain ⟨hg588, h4⟩ := gd h4; have q := si h4; subst q
       exact SC.region (sm rfl (sm rfl (s1 (lod (v := .d (eApiMsg y584)) rfl (ld_box ts51 ta51 rfl rfl)) (s1 (bld rfl (bd53_0_1_2 (1 : Int) p0 y584)) (s1 (bsn (k := 4) (ds := List.map eForestOp [(ForestOp.mk (1 : Int) p0 y584)]) (off := 0) (l' := [(ForestOp.mk (1 : Int) p0 y584)].length) rfl un46 ei53 rfl rfl (by rfl) rfl rfl rfl) (s1 (app rfl rfl rfl rfl bc46 (aF (f := eForestOp) (xs := y547) (k := 5) rfl un46 ei53 rfl (el_full (xs := [(ForestOp.mk (1 : Int) p0 y584)]) rfl) hg588 rfl)) (sa rfl (SO.nil ((wc [0, 1, 5] [0, 1, 5] (by kernel_rfl) rfl (by kernel_rfl)))))))))))
     ·rintro y579 h3
      have q := si h3; subst q
      exact SC.region (s1 (bi rfl rfl q_i64_add) (sm rfl (SO.nil (lf (wq rfl)))))
    ·have q := si h3; subst q; have q : _ = _ := hv3; subst q; have q := si h1; subst q
     exact SC.exit ((wc [2] [2] (by kernel_rfl) rfl (by kernel_rfl)))
   ·rintro y525 h0
    have q := si h0; subst q
    exact sr (sm rfl (sa rfl (sn (SC.ret (finR (Wk.trans (Wk.frz (i := 6) (x := .slc 0 9 0 y525.length none) rfl rfl (fF rfl rfl rfl)) (wc (e' := [(6, .d ((eL 9 eForestOp) y525))]) [] [] (by kernel_rfl) rfl (by kernel_rfl))) (lresT rfl lresN) rfl)))))
noncomputable def raw_Ints (p0 : List Int) (p1 : List Int) : Option Bool :=
 bif ((p0.length : Int) != (p1.length : Int)) then
 some false
 else
 bindE (Y := Unit) (E := Bool)
 (Option.bind (α := Unit ⊕ Bool)
 (loop (Y := Int) (W := Unit ⊕ Bool) (fun y62 =>
 bif (decide (y62 < (p0.length : Int))) then
 Option.bind (getI p0 y62) fun v68 =>
 Option.bind (getI p1 y62) fun v69 =>
 bif (v68 != v69) then
 some (Sum.inr (Sum.inr false))
 else
 some (Sum.inl (w64 (y62 + (1 : Int))))
 else
 some (Sum.inr (Sum.inl ()))) (0 : Int))
 (Sum.elim (fun e => some (Sum.inl e)) (fun e => some (Sum.inr e))))
 (fun _ =>
 some true)
 (fun e => some e)
theorem raw_Ints_ok (p0 : List Int) (p1 : List Int) (r : Bool) (h0 : raw_Ints p0 p1 = some r) : CallAt Tryz.prog 29 [.d ((eL 1 eI) p0), .d ((eL 1 eI) p1)] [] (.d (eB r)) [] := by
 unfold raw_Ints at h0
 refine fn0 [0, 1] Tryz.func29 rfl rfl rfl rfl rfl ?_
 refine sr (sa rfl (sn (sq (sr (sm rfl (s1 (len rfl rfl rfl (len_lst un23)) (sm rfl (s1 (len rfl rfl rfl (len_lst un23)) (s1 (bi rfl rfl q_i64_neq) ?_)))))))))
 refine sn (cB h0 rfl (fun h0 => ?_) (fun h0 => ?_))
 ·have q := si h0; subst q
  exact sr (sa rfl (sn (SC.ret (finR (Wk.refl _) (lresT rfl lresN) rfl))))
 ·refine sk (SC.seqB h0 (fun y => ⟨mk 26 [], []⟩) ?_ ?_)
  ·intro u1_59 h1 h0
   obtain ⟨u2_67, h2, h1⟩ := ob h1
   refine sr (sa rfl (sn (SC.blk (SC.loopB h2 (fun y => ⟨mk 26 [(0, .d ((eL 1 eI) p0)), (1, .d ((eL 1 eI) p1)), (5, .d (eI y))], []⟩) (wq rfl) ?_))))
   intro n70
   rintro y62 w2_66 h3 hv3
   refine sq (sr (sm rfl (sm rfl (s1 (len rfl rfl rfl (len_lst un23)) (s1 (bi rfl rfl q_i64_lss) (sn (cB h3 rfl (fun h3 => ?_) (fun h3 => ?_))))))))
   ·obtain ⟨v68, hv68, h3⟩ := ob h3; obtain ⟨v69, hv69, h3⟩ := ob h3
    refine sk (sq (SC.blk (sd (by kernel_rfl) (t1 ([], false) (mv rfl) rfl (t1 ([], false) (mv rfl) rfl (t1 ([], false) (ial rfl rfl un23 ts3 (getI_some hv68).1 (map_get (getI_some hv68).2) rfl) rfl (t1 ([], false) (lod rfl (ld_rop ts3 ta3 rfl)) rfl (t1 ([], false) (mv rfl) rfl (t1 ([], false) (mv rfl) rfl ?_)))))))))
    refine t1 ([], false) (ial rfl rfl un23 ts3 (getI_some hv69).1 (map_get (getI_some hv69).2) rfl) rfl (t1 ([], false) (lod rfl (ld_rop ts3 ta3 rfl)) rfl (t1 ([], false) (bi rfl rfl q_i64_neq) rfl (tn (by decide +kernel) (cB h3 rfl (fun h3 => ?_) (fun h3 => ?_)))))
    ·have q := si h3; subst q; have q : _ = _ := hv3; subst q; have q := si h1; subst q; have q := si h0; subst q
     exact sr (sa rfl (sn (SC.ret (finR (Wk.refl _) (lresT rfl lresN) rfl))))
    ·refine SC.skip ?_
     change SC _ _ _ _ _
     have q := si h3; subst q
     exact SC.region (sm rfl (s1 (bi rfl rfl q_i64_add) (sa rfl (SO.nil (lf (wq rfl))))))
   ·have q := si h3; subst q; have q : _ = _ := hv3; subst q; have q := si h1; subst q
    exact SC.exit (lf (wq rfl))
  ·intro _ h0
   have q := si h0; subst q
   exact sr (sa rfl (sn (SC.ret (finR (Wk.refl _) (lresT rfl lresN) rfl))))
noncomputable def ref17_Same (p0 : ApiTable) (p1 : ApiTable) : Option Bool :=
 Option.bind (α := Bool)
 (bif (p0.Name != p1.Name) then
 some true
 else
 bif (p0.Tree != p1.Tree) then
 some true
 else
 bif ((p0.Cols.length : Int) != (p1.Cols.length : Int)) then
 some true
 else
 Option.bind (raw_Ints p0.Primary p1.Primary) fun r555 =>
 bif (!r555) then
 some true
 else
 some ((p0.Indexes.length : Int) != (p1.Indexes.length : Int)))
 fun y552 =>
 bif y552 then
 some false
 else
 bindE (Y := Unit) (E := Bool)
 (Option.bind (α := Unit ⊕ Bool)
 (loop (Y := Int) (W := Unit ⊕ Bool) (fun y570 =>
 bif (decide (y570 < (p0.Cols.length : Int))) then
 Option.bind (getI p0.Cols y570) fun v576 =>
 Option.bind (getI p1.Cols y570) fun v577 =>
 bif (!(eqApiColumn v576 v577)) then
 some (Sum.inr (Sum.inr false))
 else
 some (Sum.inl (w64 (y570 + (1 : Int))))
 else
 some (Sum.inr (Sum.inl ()))) (0 : Int))
 (Sum.elim (fun e => some (Sum.inl e)) (fun e => some (Sum.inr e))))
 (fun _ =>
 bindE (Y := Unit) (E := Bool)
 (Option.bind (α := Unit ⊕ Bool)
 (loop (Y := Int) (W := Unit ⊕ Bool) (fun y741 =>
 bif (decide (y741 < (p0.Indexes.length : Int))) then
 bindE (Y := Unit) (E := Bool)
 (Option.bind (getI p0.Indexes y741) fun v804 =>
 Option.bind (getI p1.Indexes y741) fun v805 =>
 Option.bind (α := Bool)
 (bif (v804.Name != v805.Name) then
 some true
 else
 bif (v804.Unique != v805.Unique) then
 some true
 else
 bif (v804.Ready != v805.Ready) then
 some true
 else
 bif (v804.Tree != v805.Tree) then
 some true
 else
 Option.bind (raw_Ints v804.Extra v805.Extra) fun r811 =>
 bif (!r811) then
 some true
 else
 some ((v804.Parts.length : Int) != (v805.Parts.length : Int)))
 fun y808 =>
 bif y808 then
 some (Sum.inr false)
 else
 Option.bind (α := Unit ⊕ Bool)
 (loop (Y := Int) (W := Unit ⊕ Bool) (fun y814 =>
 bif (decide (y814 < (v804.Parts.length : Int))) then
 Option.bind (getI v804.Parts y814) fun v820 =>
 Option.bind (getI v805.Parts y814) fun v821 =>
 bif (!(eqApiPart v820 v821)) then
 some (Sum.inr (Sum.inr false))
 else
 some (Sum.inl (w64 (y814 + (1 : Int))))
 else
 some (Sum.inr (Sum.inl ()))) (0 : Int))
 (Sum.elim (fun e => some (Sum.inl e)) (fun e => some (Sum.inr e))))
 (fun _ =>
 some (Sum.inl (w64 (y741 + (1 : Int)))))
 (fun e => some (Sum.inr (Sum.inr e)))
 else
 some (Sum.inr (Sum.inl ()))) (0 : Int))
 (Sum.elim (fun e => some (Sum.inl e)) (fun e => some (Sum.inr e))))
 (fun _ =>
 some true)
 (fun e => some e))
 (fun e => some e)
theorem ref17_Same_ok (p0 : ApiTable) (p1 : ApiTable) (r : Bool) (h0 : ref17_Same p0 p1 = some r) : CallAt Tryz.prog 10 [.d (eApiTable p0), .d (eApiTable p1)] [] (.d (eB r)) [] := by
 unfold ref17_Same at h0
 refine fn0 [0, 1] Tryz.func10 rfl rfl rfl rfl rfl ?_
 refine sr (s1 (bxo (k := 0) rfl rfl rfl) (s1 (bxo (k := 1) rfl rfl rfl) (sa rfl (sn (sq (SC.seqP h0 (fun y => ⟨mk 144 [(2, .ref 0 0 0), (3, .ref 1 0 0), (47, .d (eB y))], [.box (.d (eApiTable p0)), .box (.d (eApiTable p1))]⟩) ?_ ?_))))))
 ·intro u1_553 h1
  refine SC.region (s1 (far (k := 0) rfl fo26_0 ts9 rfl) (s1 (lod rfl (ld_box ts9 ta9 rfl rfl)) (s1 (far (k := 0) rfl fo26_0 ts9 rfl) (s1 (lod rfl (ld_box ts9 ta9 rfl rfl)) (s1 (bi rfl rfl q_str_neq) (sm rfl (sp h1 (fun h1 => ?_) (fun h1 => ?_))))))))
  ·have q := si h1; subst q
   refine kw rfl (kw rfl (kw rfl (kw rfl (kw rfl (s1 (pkt rfl rfl) (sm rfl (kw rfl (kw rfl (kw rfl ?_)))))))))
   refine kw rfl (kw rfl (kw rfl (kw rfl (s1 (pkt rfl rfl) (sm rfl (kw rfl (kw rfl (kw rfl (kw rfl ?_)))))))))
   refine kw rfl (kw rfl (s1 (pkt rfl rfl) (sm rfl (kw rfl (kw rfl (kw rfl (kw rfl (kw rfl (kw rfl ?_)))))))))
   exact kw rfl (s1 (pkt rfl rfl) (SO.nil ((wq rfl))))
  ·refine gw rfl (far (k := 4) rfl fo26_4 ts3 rfl) (gw rfl (lod rfl (ld_box ts3 ta3 rfl rfl)) (gw rfl (far (k := 4) rfl fo26_4 ts3 rfl) (gw rfl (lod rfl (ld_box ts3 ta3 rfl rfl)) (gw rfl (bi rfl rfl q_i64_neq) (s1 (pkf rfl rfl) (sm rfl (sp h1 (fun h1 => ?_) (fun h1 => ?_))))))))
   ·have q := si h1; subst q
    refine kw rfl (kw rfl (kw rfl (kw rfl (kw rfl (kw rfl (kw rfl (s1 (pkt rfl rfl) (sm rfl (kw rfl ?_)))))))))
    refine kw rfl (kw rfl (kw rfl (kw rfl (kw rfl (s1 (pkt rfl rfl) (sm rfl (kw rfl (kw rfl (kw rfl ?_)))))))))
    exact kw rfl (kw rfl (kw rfl (kw rfl (s1 (pkt rfl rfl) (SO.nil ((wq rfl)))))))
   ·refine gw rfl (far (k := 1) rfl fo26_1 ts22 rfl) (gw rfl (lod rfl (ld_box ts22 ta22 rfl rfl)) (gw rfl (len rfl rfl rfl (len_lst un22)) (gw rfl (far (k := 1) rfl fo26_1 ts22 rfl) (gw rfl (lod rfl (ld_box ts22 ta22 rfl rfl)) (gw rfl (len rfl rfl rfl (len_lst un22)) (gw rfl (bi rfl rfl q_i64_neq) (s1 (pkf rfl rfl) (sm rfl (sp h1 (fun h1 => ?_) (fun h1 => ?_))))))))))
    ·have q := si h1; subst q
     refine kw rfl (kw rfl (kw rfl (kw rfl (kw rfl (kw rfl (s1 (pkt rfl rfl) (sm rfl (kw rfl (kw rfl ?_)))))))))
     exact kw rfl (kw rfl (kw rfl (kw rfl (kw rfl (s1 (pkt rfl rfl) (SO.nil ((wq rfl))))))))
    ·obtain ⟨r555, hq554, h1⟩ := ob h1
     refine gw rfl (far (k := 2) rfl fo26_2 ts23 rfl) (gw rfl (lod rfl (ld_box ts23 ta23 rfl rfl)) (gw rfl (far (k := 2) rfl fo26_2 ts23 rfl) (gw rfl (lod rfl (ld_box ts23 ta23 rfl rfl)) (c0 (raw_Ints_ok p0.Primary p1.Primary _ hq554) (ww rfl) rfl rfl rfl cb29 rfl (fun _ => rfl) (fun _ => rfl) (gw rfl (nt rfl) (s1 (pkf rfl rfl) (sm rfl (sp h1 (fun h1 => ?_) (fun h1 => ?_)))))))))
     ·have q := si h1; subst q
      exact kw rfl (kw rfl (kw rfl (kw rfl (kw rfl (kw rfl (kw rfl (s1 (pkt rfl rfl) (SO.nil ((wq rfl))))))))))
     ·have q := si h1; subst q
      exact gw rfl (far (k := 3) rfl fo26_3 ts24 rfl) (gw rfl (lod rfl (ld_box ts24 ta24 rfl rfl)) (gw rfl (len rfl rfl rfl (len_lst un24)) (gw rfl (far (k := 3) rfl fo26_3 ts24 rfl) (gw rfl (lod rfl (ld_box ts24 ta24 rfl rfl)) (gw rfl (len rfl rfl rfl (len_lst un24)) (gw rfl (bi rfl rfl q_i64_neq) (s1 (pkf rfl rfl) (SO.nil ((wq rfl))))))))))
 ·rintro y552 h0
  refine cB h0 rfl (fun h0 => ?_) (fun h0 => ?_)
  ·have q := si h0; subst q
   exact sr (sa rfl (sn (SC.ret (finR (wc (e' := [(4, .d (eB false))]) [] [] (by kernel_rfl) rfl (by kernel_rfl)) (lresT rfl lresN) rfl))))
  ·refine sk (SC.seqB h0 (fun y => ⟨mk 144 [(2, .ref 0 0 0), (3, .ref 1 0 0)], [.box (.d (eApiTable p0)), .box (.d (eApiTable p1))]⟩) ?_ ?_)
   ·intro u1_567 h1 h0
    obtain ⟨u2_575, h2, h1⟩ := ob h1
    refine sr (sa rfl (sn (SC.blk (SC.loopB h2 (fun y => ⟨mk 144 [(2, .ref 0 0 0), (3, .ref 1 0 0), (5, .d (eI y))], [.box (.d (eApiTable p0)), .box (.d (eApiTable p1))]⟩) (wq rfl) ?_))))
    intro n578
    rintro y570 w2_574 h3 hv3
    refine sq (sr (sm rfl (s1 (far (k := 1) rfl fo26_1 ts22 rfl) (s1 (lod rfl (ld_box ts22 ta22 rfl rfl)) (s1 (len rfl rfl rfl (len_lst un22)) (s1 (bi rfl rfl q_i64_lss) (sn (cB h3 rfl (fun h3 => ?_) (fun h3 => ?_)))))))))
    ·obtain ⟨v576, hv576, h3⟩ := ob h3; obtain ⟨v577, hv577, h3⟩ := ob h3
     refine sk (sq (SC.blk (sd (by kernel_rfl) (t1 ([], false) (far (k := 1) rfl fo26_1 ts22 rfl) rfl (t1 ([0], false) (lod rfl (ld_box ts22 ta22 rfl rfl)) rfl (t1 ([], false) (mv rfl) rfl (t1 ([], false) (ial rfl rfl un22 ts45 (getI_some hv576).1 (map_get (getI_some hv576).2) rfl) rfl (t1 ([], false) (lod (v := .d (eApiColumn v576)) rfl (ld_rop ts45 ta45 rfl)) rfl (t1 ([], false) (far (k := 1) rfl fo26_1 ts22 rfl) rfl ?_)))))))))
     refine t1 ([1], false) (lod rfl (ld_box ts22 ta22 rfl rfl)) rfl (t1 ([], false) (mv rfl) rfl (t1 ([], false) (ial rfl rfl un22 ts45 (getI_some hv577).1 (map_get (getI_some hv577).2) rfl) rfl (t1 ([], false) (lod (v := .d (eApiColumn v577)) rfl (ld_rop ts45 ta45 rfl)) rfl (t1 ([], false) (bi (v := .d (eB (!(eqApiColumn v576 v577)))) rfl rfl (fun X Y => eqApiColumn_neq_45 X Y v576 v577)) rfl (tn (by decide +kernel) (cB h3 rfl (fun h3 => ?_) (fun h3 => ?_)))))))
     ·have q := si h3; subst q; have q : _ = _ := hv3; subst q; have q := si h1; subst q; have q := si h0; subst q
      exact sr (sa rfl (sn (SC.ret (finR (wc (e' := [(4, .d (eB false))]) [] [] (by kernel_rfl) rfl (by kernel_rfl)) (lresT rfl lresN) rfl))))
     ·refine SC.skip ?_
      change SC _ _ _ _ _
      have q := si h3; subst q
      exact SC.region (sm rfl (s1 (bi rfl rfl q_i64_add) (sa rfl (SO.nil (lf (wq rfl))))))
    ·have q := si h3; subst q; have q : _ = _ := hv3; subst q; have q := si h1; subst q
     exact SC.exit (lf (wq rfl))
   ·intro _ h0
    refine SC.seqB h0 (fun y => ⟨mk 144 [], []⟩) ?_ ?_
    ·intro u1_701 h1 h0
     obtain ⟨u2_783, h2, h1⟩ := ob h1
     refine sr (sa rfl (sn (SC.blk (SC.loopB h2 (fun y => ⟨mk 144 [(2, .ref 0 0 0), (3, .ref 1 0 0), (6, .d (eI y))], [.box (.d (eApiTable p0)), .box (.d (eApiTable p1))]⟩) (wq rfl) ?_))))
     intro n823
     rintro y741 w2_782 h3 hv3
     refine sq (sr (sm rfl (s1 (far (k := 3) rfl fo26_3 ts24 rfl) (s1 (lod rfl (ld_box ts24 ta24 rfl rfl)) (s1 (len rfl rfl rfl (len_lst un24)) (s1 (bi rfl rfl q_i64_lss) (sn (cB h3 rfl (fun h3 => ?_) (fun h3 => ?_)))))))))
     ·refine sk (SC.seqB h3 (fun y => ⟨mk 144 [(2, .ref 0 0 0), (3, .ref 1 0 0), (6, .d (eI y741))], [.box (.d (eApiTable p0)), .box (.d (eApiTable p1))]⟩) ?_ ?_)
      ·intro u4_803 h4 h3
       obtain ⟨v804, hv804, h4⟩ := ob h4; obtain ⟨v805, hv805, h4⟩ := ob h4
       refine SC.blk (sr (s1 (far (k := 3) rfl fo26_3 ts24 rfl) (s1 (lod rfl (ld_box ts24 ta24 rfl rfl)) (sm rfl (s1 (ial rfl rfl un24 ts56 (getI_some hv804).1 (map_get (getI_some hv804).2) rfl) (s1 (lod (v := .d (eApiIndex v804)) rfl (ld_rop ts56 ta56 rfl)) (s1 (alo (k := 2) zo56 rfl) (s0 (sto rfl rfl (sB (d' := .d (eApiIndex v804)) ts56 rfl rfl rfl rfl rfl rfl rfl)) (sn ?_)))))))))
       refine sr (s1 (far (k := 3) rfl fo26_3 ts24 rfl) (s1 (lod rfl (ld_box ts24 ta24 rfl rfl)) (sm rfl (s1 (ial rfl rfl un24 ts56 (getI_some hv805).1 (map_get (getI_some hv805).2) rfl) (s1 (lod (v := .d (eApiIndex v805)) rfl (ld_rop ts56 ta56 rfl)) (s1 (alo (k := 3) zo56 rfl) (s0 (sto rfl rfl (sB (d' := .d (eApiIndex v805)) ts56 rfl rfl rfl rfl rfl rfl rfl)) (sn (sq ?_)))))))))
       refine SC.seqP h4 (fun y => ⟨mk 144 [(2, .ref 0 0 0), (3, .ref 1 0 0), (6, .d (eI y741)), (7, .ref 2 0 0), (8, .ref 3 0 0), (125, .d (eB y))], [.box (.d (eApiTable p0)), .box (.d (eApiTable p1)), .box (.d (eApiIndex v804)), .box (.d (eApiIndex v805))]⟩) ?_ ?_
       ·intro u5_809 h5
        refine SC.region (s1 (far (k := 0) rfl fo56_0 ts9 rfl) (s1 (lod rfl (ld_box ts9 ta9 rfl rfl)) (s1 (far (k := 0) rfl fo56_0 ts9 rfl) (s1 (lod rfl (ld_box ts9 ta9 rfl rfl)) (s1 (bi rfl rfl q_str_neq) (sm rfl (sp h5 (fun h5 => ?_) (fun h5 => ?_))))))))
        ·have q := si h5; subst q
         refine kw rfl (kw rfl (kw rfl (kw rfl (kw rfl (s1 (pkt rfl rfl) (sm rfl (kw rfl (kw rfl (kw rfl ?_)))))))))
         refine kw rfl (kw rfl (s1 (pkt rfl rfl) (sm rfl (kw rfl (kw rfl (kw rfl (kw rfl (kw rfl (s1 (pkt rfl rfl) ?_)))))))))
         refine sm rfl (kw rfl (kw rfl (kw rfl (kw rfl (kw rfl (kw rfl (s1 (pkt rfl rfl) (sm rfl (kw rfl ?_)))))))))
         exact kw rfl (kw rfl (kw rfl (kw rfl (kw rfl (kw rfl (s1 (pkt rfl rfl) (SO.nil ((wq rfl)))))))))
        ·refine gw rfl (far (k := 3) rfl fo56_3 ts4 rfl) (gw rfl (lod rfl (ld_box ts4 ta4 rfl rfl)) (gw rfl (far (k := 3) rfl fo56_3 ts4 rfl) (gw rfl (lod rfl (ld_box ts4 ta4 rfl rfl)) (gw rfl (bi (v := .d (eB (v804.Unique != v805.Unique))) rfl rfl (fun X Y => b_bool_neq un4 X Y v804.Unique v805.Unique)) (s1 (pkf rfl rfl) (sm rfl (sp h5 (fun h5 => ?_) (fun h5 => ?_))))))))
         ·have q := si h5; subst q
          refine kw rfl (kw rfl (kw rfl (kw rfl (kw rfl (s1 (pkt rfl rfl) (sm rfl (kw rfl (kw rfl (kw rfl ?_)))))))))
          refine kw rfl (kw rfl (s1 (pkt rfl rfl) (sm rfl (kw rfl (kw rfl (kw rfl (kw rfl (kw rfl (kw rfl ?_)))))))))
          refine s1 (pkt rfl rfl) (sm rfl (kw rfl (kw rfl (kw rfl (kw rfl (kw rfl (kw rfl (kw rfl (s1 (pkt rfl rfl) ?_)))))))))
          exact SO.nil ((wq rfl))
         ·refine gw rfl (far (k := 4) rfl fo56_4 ts4 rfl) (gw rfl (lod rfl (ld_box ts4 ta4 rfl rfl)) (gw rfl (far (k := 4) rfl fo56_4 ts4 rfl) (gw rfl (lod rfl (ld_box ts4 ta4 rfl rfl)) (gw rfl (bi (v := .d (eB (v804.Ready != v805.Ready))) rfl rfl (fun X Y => b_bool_neq un4 X Y v804.Ready v805.Ready)) (s1 (pkf rfl rfl) (sm rfl (sp h5 (fun h5 => ?_) (fun h5 => ?_))))))))
          ·have q := si h5; subst q
           refine kw rfl (kw rfl (kw rfl (kw rfl (kw rfl (s1 (pkt rfl rfl) (sm rfl (kw rfl (kw rfl (kw rfl ?_)))))))))
           refine kw rfl (kw rfl (kw rfl (s1 (pkt rfl rfl) (sm rfl (kw rfl (kw rfl (kw rfl (kw rfl (kw rfl ?_)))))))))
           exact kw rfl (kw rfl (s1 (pkt rfl rfl) (SO.nil ((wq rfl)))))
          ·refine gw rfl (far (k := 5) rfl fo56_5 ts3 rfl) (gw rfl (lod rfl (ld_box ts3 ta3 rfl rfl)) (gw rfl (far (k := 5) rfl fo56_5 ts3 rfl) (gw rfl (lod rfl (ld_box ts3 ta3 rfl rfl)) (gw rfl (bi rfl rfl q_i64_neq) (s1 (pkf rfl rfl) (sm rfl (sp h5 (fun h5 => ?_) (fun h5 => ?_))))))))
           ·have q := si h5; subst q
            refine kw rfl (kw rfl (kw rfl (kw rfl (kw rfl (kw rfl (s1 (pkt rfl rfl) (sm rfl (kw rfl (kw rfl ?_)))))))))
            exact kw rfl (kw rfl (kw rfl (kw rfl (kw rfl (s1 (pkt rfl rfl) (SO.nil ((wq rfl))))))))
           ·obtain ⟨r811, hq810, h5⟩ := ob h5
            refine gw rfl (far (k := 2) rfl fo56_2 ts23 rfl) (gw rfl (lod rfl (ld_box ts23 ta23 rfl rfl)) (gw rfl (far (k := 2) rfl fo56_2 ts23 rfl) (gw rfl (lod rfl (ld_box ts23 ta23 rfl rfl)) (c0 (raw_Ints_ok v804.Extra v805.Extra _ hq810) (ww rfl) rfl rfl rfl cb29 rfl (fun _ => rfl) (fun _ => rfl) (gw rfl (nt rfl) (s1 (pkf rfl rfl) (sm rfl (sp h5 (fun h5 => ?_) (fun h5 => ?_)))))))))
            ·have q := si h5; subst q
             exact kw rfl (kw rfl (kw rfl (kw rfl (kw rfl (kw rfl (kw rfl (s1 (pkt rfl rfl) (SO.nil ((wq rfl))))))))))
            ·have q := si h5; subst q
             exact gw rfl (far (k := 1) rfl fo56_1 ts54 rfl) (gw rfl (lod rfl (ld_box ts54 ta54 rfl rfl)) (gw rfl (len rfl rfl rfl (len_lst un54)) (gw rfl (far (k := 1) rfl fo56_1 ts54 rfl) (gw rfl (lod rfl (ld_box ts54 ta54 rfl rfl)) (gw rfl (len rfl rfl rfl (len_lst un54)) (gw rfl (bi rfl rfl q_i64_neq) (s1 (pkf rfl rfl) (SO.nil ((wq rfl))))))))))
       ·rintro y808 h4
        refine cB h4 rfl (fun h4 => ?_) (fun h4 => ?_)
        ·have q := si h4; subst q; have q := si h3; subst q; have q : _ = _ := hv3; subst q; have q := si h1; subst q; have q := si h0; subst q
         exact sr (sa rfl (sn (SC.ret (finR (wc (e' := [(4, .d (eB false))]) [] [] (by kernel_rfl) rfl (by kernel_rfl)) (lresT rfl lresN) rfl))))
        ·obtain ⟨u5_819, h5, h4⟩ := ob h4
         refine sk (sr (sa rfl (sn (SC.blk (SC.loopB h5 (fun y => ⟨mk 144 [(2, .ref 0 0 0), (3, .ref 1 0 0), (6, .d (eI y741)), (7, .ref 2 0 0), (8, .ref 3 0 0), (9, .d (eI y))], [.box (.d (eApiTable p0)), .box (.d (eApiTable p1)), .box (.d (eApiIndex v804)), .box (.d (eApiIndex v805))]⟩) (wq rfl) ?_)))))
         intro n822
         rintro y814 w5_818 h6 hv6
         refine sq (sr (sm rfl (s1 (far (k := 1) rfl fo56_1 ts54 rfl) (s1 (lod rfl (ld_box ts54 ta54 rfl rfl)) (s1 (len rfl rfl rfl (len_lst un54)) (s1 (bi rfl rfl q_i64_lss) (sn (cB h6 rfl (fun h6 => ?_) (fun h6 => ?_)))))))))
         ·obtain ⟨v820, hv820, h6⟩ := ob h6; obtain ⟨v821, hv821, h6⟩ := ob h6
          refine sk (sq (SC.blk (sd (by kernel_rfl) (t1 ([], false) (far (k := 1) rfl fo56_1 ts54 rfl) rfl (t1 ([2], false) (lod rfl (ld_box ts54 ta54 rfl rfl)) rfl (t1 ([], false) (mv rfl) rfl (t1 ([], false) (ial rfl rfl un54 ts78 (getI_some hv820).1 (map_get (getI_some hv820).2) rfl) rfl (t1 ([], false) (lod (v := .d (eApiPart v820)) rfl (ld_rop ts78 ta78 rfl)) rfl (t1 ([], false) (far (k := 1) rfl fo56_1 ts54 rfl) rfl ?_)))))))))
          refine t1 ([3], false) (lod rfl (ld_box ts54 ta54 rfl rfl)) rfl (t1 ([], false) (mv rfl) rfl (t1 ([], false) (ial rfl rfl un54 ts78 (getI_some hv821).1 (map_get (getI_some hv821).2) rfl) rfl (t1 ([], false) (lod (v := .d (eApiPart v821)) rfl (ld_rop ts78 ta78 rfl)) rfl (t1 ([], false) (bi (v := .d (eB (!(eqApiPart v820 v821)))) rfl rfl (fun X Y => eqApiPart_neq_78 X Y v820 v821)) rfl (tn (by decide +kernel) (cB h6 rfl (fun h6 => ?_) (fun h6 => ?_)))))))
          ·have q := si h6; subst q; have q : _ = _ := hv6; subst q; have q := si h4; subst q; have q := si h3; subst q; have q : _ = _ := hv3; subst q; have q := si h1; subst q; have q := si h0; subst q
           exact sr (sa rfl (sn (SC.ret (finR (wc (e' := [(4, .d (eB false))]) [] [] (by kernel_rfl) rfl (by kernel_rfl)) (lresT rfl lresN) rfl))))
          ·refine SC.skip ?_
           change SC _ _ _ _ _
           have q := si h6; subst q
           exact SC.region (sm rfl (s1 (bi rfl rfl q_i64_add) (sa rfl (SO.nil (lf (wq rfl))))))
         ·have q := si h6; subst q; have q : _ = _ := hv6; subst q; have q := si h4; subst q
          exact SC.exit (lf (wc [0, 1] [0, 1] (by kernel_rfl) rfl (by kernel_rfl)))
      ·intro _ h3
       have q := si h3; subst q
       exact SC.region (sm rfl (s1 (bi rfl rfl q_i64_add) (sa rfl (SO.nil (lf (wq rfl))))))
     ·have q := si h3; subst q; have q : _ = _ := hv3; subst q; have q := si h1; subst q
      exact SC.exit (lf (wc [] [] (by kernel_rfl) rfl (by kernel_rfl)))
    ·intro _ h0
     have q := si h0; subst q
     exact sr (sa rfl (sn (SC.ret (finR (Wk.refl _) (lresT rfl lresN) rfl))))
noncomputable def law18_awake : Option Bool :=
 Option.bind (catalog_Pairs (ApiTable.mk ([97] : List UInt8) [(ApiColumn.mk ([105, 100] : List UInt8) (1 : Int) (0 : Int) false (ApiValue.mk (1 : Int) (0 : UInt64) ([] : List UInt8)))] [(0 : Int)] ([] : List ApiIndex) (2 : Int))) fun (r47, r48) =>
 Option.bind (catalog_Read r47) fun (r50, r51) =>
 Option.bind (catalog_Ops (1 : Int) [(ApiPair.mk ([97] : List UInt8) ([] : List UInt8))] [(ApiPair.mk ([98] : List UInt8) ([] : List UInt8))]) fun r53 =>
 Option.bind (α := Bool)
 (bif (r48 == (0 : Int)) then
 bif ((r47.length : Int) == (2 : Int)) then
 Option.bind (getI r47 (0 : Int)) fun v62 =>
 bif (v62.Key == ([116, 97] : List UInt8)) then
 Option.bind (getI r47 (0 : Int)) fun v63 =>
 bif (v63.Val == ([0, 2, 1, 1, 0, 0] : List UInt8)) then
 bif (r51 == (0 : Int)) then
 bif ((r50.length : Int) == (1 : Int)) then
 Option.bind (getI r50 (0 : Int)) fun v64 =>
 Option.bind (ref17_Same v64 (ApiTable.mk ([97] : List UInt8) [(ApiColumn.mk ([105, 100] : List UInt8) (1 : Int) (0 : Int) false (ApiValue.mk (1 : Int) (0 : UInt64) ([] : List UInt8)))] [(0 : Int)] ([] : List ApiIndex) (2 : Int))) fun r66 =>
 bif r66 then
 bif ((r53.length : Int) == (2 : Int)) then
 Option.bind (getI r53 (1 : Int)) fun v67 =>
 some (v67.Msg.Key == ([98] : List UInt8))
 else
 some false
 else
 some false
 else
 some false
 else
 some false
 else
 some false
 else
 some false
 else
 some false
 else
 some false)
 fun y60 =>
 some y60
theorem law18_awake_ok (r : Bool) (h0 : law18_awake = some r) : CallAt Tryz.prog 5 [] [] (.d (eB r)) [] := by
 unfold law18_awake at h0
 refine fn0 [] Tryz.func5 rfl rfl rfl rfl rfl ?_
 obtain ⟨⟨r47, r48⟩, hq46, h0⟩ := ob h0; obtain ⟨⟨r50, r51⟩, hq49, h0⟩ := ob h0; obtain ⟨r53, hq52, h0⟩ := ob h0
 refine sr (sa rfl (sn (sr (s1 (bld rfl (bd43_0 (1 : Int))) (s1 (bld rfl (bd45_0_1_4 ([105, 100] : List UInt8) (1 : Int) (ApiValue.mk (1 : Int) (0 : UInt64) ([] : List UInt8)))) (s1 (bsn (k := 0) (ds := List.map eApiColumn [(ApiColumn.mk ([105, 100] : List UInt8) (1 : Int) (0 : Int) false (ApiValue.mk (1 : Int) (0 : UInt64) ([] : List UInt8)))]) (off := 0) (l' := [(ApiColumn.mk ([105, 100] : List UInt8) (1 : Int) (0 : Int) false (ApiValue.mk (1 : Int) (0 : UInt64) ([] : List UInt8)))].length) rfl un22 ei45 rfl rfl (by rfl) rfl rfl rfl) (s1 (bsn (k := 1) (ds := List.map eI [(0 : Int)]) (off := 0) (l' := [(0 : Int)].length) rfl un23 ei3 rfl rfl (by rfl) rfl rfl rfl) (s1 (bld rfl (bd26_0_1_2_4 ([97] : List UInt8) (2 : Int))) (s1 (alo (k := 2) zo26 rfl) ?_)))))))))
 refine s0 (sto rfl rfl (sB (d' := .agg [.d (eS ([97] : List UInt8)), .slc 0 7 0 ([(ApiColumn.mk ([105, 100] : List UInt8) (1 : Int) (0 : Int) false (ApiValue.mk (1 : Int) (0 : UInt64) ([] : List UInt8)))].length) none, .slc 1 1 0 ([(0 : Int)].length) none, .d .nils, .d (eI (2 : Int))]) ts26 rfl rfl rfl rfl rfl rfl rfl)) (sn (sr (s1 (lod (v := .agg [.d (eS ([97] : List UInt8)), .slc 0 7 0 ([(ApiColumn.mk ([105, 100] : List UInt8) (1 : Int) (0 : Int) false (ApiValue.mk (1 : Int) (0 : UInt64) ([] : List UInt8)))].length) none, .slc 1 1 0 ([(0 : Int)].length) none, .d .nils, .d (eI (2 : Int))]) rfl (ld_box ts26 ta26 rfl rfl)) (cq (args' := [.agg [.d (eS ([97] : List UInt8)), .slc 0 7 0 ([(ApiColumn.mk ([105, 100] : List UInt8) (1 : Int) (0 : Int) false (ApiValue.mk (1 : Int) (0 : UInt64) ([] : List UInt8)))].length) none, .slc 1 1 0 ([(0 : Int)].length) none, .d .nils, .d (eI (2 : Int))]]) (σc := [.row 7 (List.map eApiColumn [(ApiColumn.mk ([105, 100] : List UInt8) (1 : Int) (0 : Int) false (ApiValue.mk (1 : Int) (0 : UInt64) ([] : List UInt8)))]) true, .row 1 (List.map eI [(0 : Int)]) true]) [0, 1] [] (CallAt.frz (ArgF.frzw (y := .d (eApiTable (ApiTable.mk ([97] : List UInt8) [(ApiColumn.mk ([105, 100] : List UInt8) (1 : Int) (0 : Int) false (ApiValue.mk (1 : Int) (0 : UInt64) ([] : List UInt8)))] [(0 : Int)] ([] : List ApiIndex) (2 : Int)))) rfl (frzs_d rfl (frzs_slc (fF rfl rfl rfl) (frzs_slc (fF rfl rfl rfl) (frzs_d rfl (frzs_d rfl frzs_nil))))) (AW.aggd rfl (AWs.cons (AW.refl _) (AWs.cons (AW.refl _) (AWs.cons (AW.refl _) (AWs.cons (AW.nl _) (AWs.cons (AW.refl _) AWs.nil)))))) (ArgF.nil _)) (fq [] [] (catalog_Pairs_ok (ApiTable.mk ([97] : List UInt8) [(ApiColumn.mk ([105, 100] : List UInt8) (1 : Int) (0 : Int) false (ApiValue.mk (1 : Int) (0 : UInt64) ([] : List UInt8)))] [(0 : Int)] ([] : List ApiIndex) (2 : Int)) _ hq46) rfl rfl rfl rfl rfl rfl rfl rfl)) wf rfl rfl rfl cb7 rfl rfl rfl rfl rfl rfl rfl rfl ?_))))
 refine sm rfl (s1 (ext rfl rfl) (s1 (ext rfl rfl) (sa rfl (sa rfl (sn (sr (sm rfl (c0 (catalog_Read_ok r47 _ hq49) wf rfl rfl rfl cb11 rfl (fun _ => rfl) (fun _ => rfl) (sm rfl ?_)))))))))
 refine s1 (ext rfl rfl) (s1 (ext rfl rfl) (sa rfl (sa rfl (sn (sr (s1 (bld rfl (bd49_0 ([97] : List UInt8))) (s1 (bsn (k := 3) (ds := List.map eApiPair [(ApiPair.mk ([97] : List UInt8) ([] : List UInt8))]) (off := 0) (l' := [(ApiPair.mk ([97] : List UInt8) ([] : List UInt8))].length) rfl un29 ei49 rfl rfl (by rfl) rfl rfl rfl) (s1 (bld rfl (bd49_0 ([98] : List UInt8))) (s1 (bsn (k := 4) (ds := List.map eApiPair [(ApiPair.mk ([98] : List UInt8) ([] : List UInt8))]) (off := 0) (l' := [(ApiPair.mk ([98] : List UInt8) ([] : List UInt8))].length) rfl un29 ei49 rfl rfl (by rfl) rfl rfl rfl) ?_)))))))))
 refine cq (args' := [.d (eI (1 : Int)), .slc 0 2 0 ([(ApiPair.mk ([97] : List UInt8) ([] : List UInt8))].length) none, .slc 1 2 0 ([(ApiPair.mk ([98] : List UInt8) ([] : List UInt8))].length) none]) (σc := [.row 2 (List.map eApiPair [(ApiPair.mk ([97] : List UInt8) ([] : List UInt8))]) true, .row 2 (List.map eApiPair [(ApiPair.mk ([98] : List UInt8) ([] : List UInt8))]) true]) [3, 4] [] (CallAt.frz (ArgF.keep (ArgF.frz (fF rfl rfl rfl) (ArgF.frz (fF rfl rfl rfl) (ArgF.nil _)))) (fq [] [] (catalog_Ops_ok (1 : Int) [(ApiPair.mk ([97] : List UInt8) ([] : List UInt8))] [(ApiPair.mk ([98] : List UInt8) ([] : List UInt8))] _ hq52) rfl rfl rfl rfl rfl rfl rfl rfl)) wf rfl rfl rfl cb14 rfl rfl rfl rfl rfl rfl rfl rfl (sa rfl (sn (SC.seqP h0 (fun y => ⟨mk 77 [(0, .d (eB y))], []⟩) ?_ ?_)))
 ·intro u1_61 h1
  refine SC.draws (by kernel_rfl) (t1 ([], false) (mv rfl) rfl (t1 ([], false) (bi rfl rfl q_i64_eql) rfl (t1 ([], false) (mv rfl) rfl (tp h1 (fun h1 => ?_) (fun h1 => ?_)))))
  ·refine u1 ([], false) (ww rfl) (mv rfl) rfl (u1 ([], false) (ww rfl) (len rfl rfl rfl (len_lst un29)) rfl (u1 ([], false) (ww rfl) (bi rfl rfl q_i64_eql) rfl (t1 ([], false) (pkt rfl rfl) rfl (t1 ([], false) (mv rfl) rfl (tp h1 (fun h1 => ?_) (fun h1 => ?_))))))
   ·obtain ⟨v62, hv62, h1⟩ := ob h1
    refine u1 ([], false) (ww rfl) (mv rfl) rfl (u1 ([], false) (ww rfl) (ial rfl rfl un29 ts49 (getI_some hv62).1 (map_get (getI_some hv62).2) rfl) rfl (u1 ([], false) (ww rfl) (fap rfl fo49_0 ts9 rfl) rfl (u1 ([], false) (ww rfl) (lod rfl (ld_rop ts9 ta9 rfl)) rfl (u1 ([], false) (ww rfl) (bi rfl rfl (q_str_eql (b := ([116, 97] : List UInt8)))) rfl (t1 ([], false) (pkt rfl rfl) rfl (t1 ([], false) (mv rfl) rfl (tp h1 (fun h1 => ?_) (fun h1 => ?_))))))))
    ·obtain ⟨v63, hv63, h1⟩ := ob h1
     refine u1 ([], false) (ww rfl) (mv rfl) rfl (u1 ([], false) (ww rfl) (ial rfl rfl un29 ts49 (getI_some hv63).1 (map_get (getI_some hv63).2) rfl) rfl (u1 ([], false) (ww rfl) (fap rfl fo49_1 ts9 rfl) rfl (u1 ([], false) (ww rfl) (lod rfl (ld_rop ts9 ta9 rfl)) rfl (u1 ([], false) (ww rfl) (bi rfl rfl (q_str_eql (b := ([0, 2, 1, 1, 0, 0] : List UInt8)))) rfl (t1 ([], false) (pkt rfl rfl) rfl (t1 ([], false) (mv rfl) rfl (tp h1 (fun h1 => ?_) (fun h1 => ?_))))))))
     ·refine u1 ([], false) (ww rfl) (mv rfl) rfl (u1 ([], false) (ww rfl) (bi rfl rfl q_i64_eql) rfl (t1 ([], false) (pkt rfl rfl) rfl (t1 ([], false) (mv rfl) rfl (tp h1 (fun h1 => ?_) (fun h1 => ?_)))))
      ·refine u1 ([], false) (ww rfl) (mv rfl) rfl (u1 ([], false) (ww rfl) (len rfl rfl rfl (len_lst un36)) rfl (u1 ([], false) (ww rfl) (bi rfl rfl q_i64_eql) rfl (t1 ([], false) (pkt rfl rfl) rfl (t1 ([], false) (mv rfl) rfl (tp h1 (fun h1 => ?_) (fun h1 => ?_))))))
       ·obtain ⟨v64, hv64, h1⟩ := ob h1; obtain ⟨r66, hq65, h1⟩ := ob h1
        refine u1 ([], false) (ww rfl) (mv rfl) rfl (u1 ([], false) (ww rfl) (ial rfl rfl un36 ts26 (getI_some hv64).1 (map_get (getI_some hv64).2) rfl) rfl (u1 ([], false) (ww rfl) (lod (v := .d (eApiTable v64)) rfl (ld_rop ts26 ta26 rfl)) rfl (u1 ([2], false) (ww rfl) (lod (v := .agg [.d (eS ([97] : List UInt8)), .slc 0 7 0 ([(ApiColumn.mk ([105, 100] : List UInt8) (1 : Int) (0 : Int) false (ApiValue.mk (1 : Int) (0 : UInt64) ([] : List UInt8)))].length) none, .slc 1 1 0 ([(0 : Int)].length) none, .d .nils, .d (eI (2 : Int))]) rfl (ld_box ts26 ta26 rfl rfl)) rfl (tqr (args' := [.d (eApiTable v64), .agg [.d (eS ([97] : List UInt8)), .slc 0 7 0 ([(ApiColumn.mk ([105, 100] : List UInt8) (1 : Int) (0 : Int) false (ApiValue.mk (1 : Int) (0 : UInt64) ([] : List UInt8)))].length) none, .slc 1 1 0 ([(0 : Int)].length) none, .d .nils, .d (eI (2 : Int))]]) (σc := [.row 7 (List.map eApiColumn [(ApiColumn.mk ([105, 100] : List UInt8) (1 : Int) (0 : Int) false (ApiValue.mk (1 : Int) (0 : UInt64) ([] : List UInt8)))]) false, .row 1 (List.map eI [(0 : Int)]) false]) [0, 1] [0, 1] (CallAt.frz (ArgF.keep (ArgF.frzw (y := .d (eApiTable (ApiTable.mk ([97] : List UInt8) [(ApiColumn.mk ([105, 100] : List UInt8) (1 : Int) (0 : Int) false (ApiValue.mk (1 : Int) (0 : UInt64) ([] : List UInt8)))] [(0 : Int)] ([] : List ApiIndex) (2 : Int)))) rfl (frzs_d rfl (frzs_slc (fF rfl rfl rfl) (frzs_slc (fF rfl rfl rfl) (frzs_d rfl (frzs_d rfl frzs_nil))))) (AW.aggd rfl (AWs.cons (AW.refl _) (AWs.cons (AW.refl _) (AWs.cons (AW.refl _) (AWs.cons (AW.nl _) (AWs.cons (AW.refl _) AWs.nil)))))) (ArgF.nil _))) (fq [] [] (ref17_Same_ok v64 (ApiTable.mk ([97] : List UInt8) [(ApiColumn.mk ([105, 100] : List UInt8) (1 : Int) (0 : Int) false (ApiValue.mk (1 : Int) (0 : UInt64) ([] : List UInt8)))] [(0 : Int)] ([] : List ApiIndex) (2 : Int)) _ hq65) rfl rfl rfl rfl rfl rfl rfl rfl)) (ww rfl) rfl rfl rfl cb10 rfl rfl rfl rfl rfl rfl rfl rfl ?_))))
        refine t1 ([], false) (pkt rfl rfl) rfl (t1 ([], false) (mv rfl) rfl (tp h1 (fun h1 => ?_) (fun h1 => ?_)))
        ·refine u1 ([], false) (ww rfl) (mv rfl) rfl (u1 ([], false) (ww rfl) (len rfl rfl rfl (len_lst un46)) rfl (u1 ([], false) (ww rfl) (bi rfl rfl q_i64_eql) rfl (t1 ([], false) (pkt rfl rfl) rfl (t1 ([], false) (mv rfl) rfl (tp h1 (fun h1 => ?_) (fun h1 => ?_))))))
         ·obtain ⟨v67, hv67, h1⟩ := ob h1; have q := si h1; subst q
          refine u1 ([], false) (ww rfl) (mv rfl) rfl (u1 ([], false) (ww rfl) (ial rfl rfl un46 ts53 (getI_some hv67).1 (map_get (getI_some hv67).2) rfl) rfl (u1 ([], false) (ww rfl) (fap rfl fo53_2 ts51 rfl) rfl (u1 ([], false) (ww rfl) (fap rfl fo51_2 ts9 rfl) rfl (u1 ([], false) (ww rfl) (lod rfl (ld_rop ts9 ta9 rfl)) rfl (u1 ([], false) (ww rfl) (bi rfl rfl (q_str_eql (b := ([98] : List UInt8)))) rfl (t1 ([], false) (pkt rfl rfl) rfl (t1 ([], false) (asg rfl) rfl (ST.nil (And.intro (by decide +kernel) ?_)))))))))
          exact (wc [] [] (by kernel_rfl) rfl (by kernel_rfl))
         ·have q := si h1; subst q
          refine jw rfl (jw rfl (jw rfl (jw rfl (jw rfl (jw rfl (t1 ([], false) (pkf rfl rfl) rfl (t1 ([], false) (asg rfl) rfl (ST.nil (And.intro (by decide +kernel) ?_)))))))))
          exact (wc [] [] (by kernel_rfl) rfl (by kernel_rfl))
        ·have q := si h1; subst q
         refine jw rfl (jw rfl (jw rfl (t1 ([], false) (pkf rfl rfl) rfl (t1 ([], false) (mv rfl) rfl (jw rfl (jw rfl (jw rfl (jw rfl (jw rfl ?_)))))))))
         refine jw rfl (t1 ([], false) (pkf rfl rfl) rfl (t1 ([], false) (asg rfl) rfl (ST.nil (And.intro (by decide +kernel) ?_))))
         exact (wc [] [] (by kernel_rfl) rfl (by kernel_rfl))
       ·have q := si h1; subst q
        refine jw rfl (jw rfl (jw rfl (jw rfl (jw rfl (t1 ([], false) (pkf rfl rfl) rfl (t1 ([], false) (mv rfl) rfl (jw rfl (jw rfl (jw rfl ?_)))))))))
        refine t1 ([], false) (pkf rfl rfl) rfl (t1 ([], false) (mv rfl) rfl (jw rfl (jw rfl (jw rfl (jw rfl (jw rfl (jw rfl (t1 ([], false) (pkf rfl rfl) rfl (t1 ([], false) (asg rfl) rfl ?_)))))))))
        refine ST.nil (And.intro (by decide +kernel) ?_)
        exact (wc [] [] (by kernel_rfl) rfl (by kernel_rfl))
      ·have q := si h1; subst q
       refine jw rfl (jw rfl (jw rfl (t1 ([], false) (pkf rfl rfl) rfl (t1 ([], false) (mv rfl) rfl (jw rfl (jw rfl (jw rfl (jw rfl (jw rfl ?_)))))))))
       refine t1 ([], false) (pkf rfl rfl) rfl (t1 ([], false) (mv rfl) rfl (jw rfl (jw rfl (jw rfl (t1 ([], false) (pkf rfl rfl) rfl (t1 ([], false) (mv rfl) rfl (jw rfl (jw rfl (jw rfl ?_)))))))))
       refine jw rfl (jw rfl (jw rfl (t1 ([], false) (pkf rfl rfl) rfl (t1 ([], false) (asg rfl) rfl (ST.nil (And.intro (by decide +kernel) ?_))))))
       exact (wc [] [] (by kernel_rfl) rfl (by kernel_rfl))
     ·have q := si h1; subst q
      refine jw rfl (jw rfl (t1 ([], false) (pkf rfl rfl) rfl (t1 ([], false) (mv rfl) rfl (jw rfl (jw rfl (jw rfl (t1 ([], false) (pkf rfl rfl) rfl (t1 ([], false) (mv rfl) rfl (jw rfl ?_)))))))))
      refine jw rfl (jw rfl (jw rfl (jw rfl (t1 ([], false) (pkf rfl rfl) rfl (t1 ([], false) (mv rfl) rfl (jw rfl (jw rfl (jw rfl (t1 ([], false) (pkf rfl rfl) rfl ?_)))))))))
      refine t1 ([], false) (mv rfl) rfl (jw rfl (jw rfl (jw rfl (jw rfl (jw rfl (jw rfl (t1 ([], false) (pkf rfl rfl) rfl (t1 ([], false) (asg rfl) rfl (ST.nil (And.intro (by decide +kernel) ?_))))))))))
      exact (wc [] [] (by kernel_rfl) rfl (by kernel_rfl))
    ·have q := si h1; subst q
     refine jw rfl (jw rfl (jw rfl (jw rfl (jw rfl (t1 ([], false) (pkf rfl rfl) rfl (t1 ([], false) (mv rfl) rfl (jw rfl (jw rfl (t1 ([], false) (pkf rfl rfl) rfl ?_)))))))))
     refine t1 ([], false) (mv rfl) rfl (jw rfl (jw rfl (jw rfl (t1 ([], false) (pkf rfl rfl) rfl (t1 ([], false) (mv rfl) rfl (jw rfl (jw rfl (jw rfl (jw rfl ?_)))))))))
     refine jw rfl (t1 ([], false) (pkf rfl rfl) rfl (t1 ([], false) (mv rfl) rfl (jw rfl (jw rfl (jw rfl (t1 ([], false) (pkf rfl rfl) rfl (t1 ([], false) (mv rfl) rfl (jw rfl (jw rfl ?_)))))))))
     refine jw rfl (jw rfl (jw rfl (jw rfl (t1 ([], false) (pkf rfl rfl) rfl (t1 ([], false) (asg rfl) rfl (ST.nil (And.intro (by decide +kernel) ?_)))))))
     exact (wc [] [] (by kernel_rfl) rfl (by kernel_rfl))
   ·have q := si h1; subst q
    refine jw rfl (jw rfl (jw rfl (jw rfl (jw rfl (t1 ([], false) (pkf rfl rfl) rfl (t1 ([], false) (mv rfl) rfl (jw rfl (jw rfl (jw rfl ?_)))))))))
    refine jw rfl (jw rfl (t1 ([], false) (pkf rfl rfl) rfl (t1 ([], false) (mv rfl) rfl (jw rfl (jw rfl (t1 ([], false) (pkf rfl rfl) rfl (t1 ([], false) (mv rfl) rfl (jw rfl (jw rfl ?_)))))))))
    refine jw rfl (t1 ([], false) (pkf rfl rfl) rfl (t1 ([], false) (mv rfl) rfl (jw rfl (jw rfl (jw rfl (jw rfl (jw rfl (t1 ([], false) (pkf rfl rfl) rfl (t1 ([], false) (mv rfl) rfl ?_)))))))))
    refine jw rfl (jw rfl (jw rfl (t1 ([], false) (pkf rfl rfl) rfl (t1 ([], false) (mv rfl) rfl (jw rfl (jw rfl (jw rfl (jw rfl (jw rfl ?_)))))))))
    refine jw rfl (t1 ([], false) (pkf rfl rfl) rfl (t1 ([], false) (asg rfl) rfl (ST.nil (And.intro (by decide +kernel) ?_))))
    exact (wc [] [] (by kernel_rfl) rfl (by kernel_rfl))
  ·have q := si h1; subst q
   refine jw rfl (jw rfl (jw rfl (t1 ([], false) (pkf rfl rfl) rfl (t1 ([], false) (mv rfl) rfl (jw rfl (jw rfl (jw rfl (jw rfl (jw rfl ?_)))))))))
   refine t1 ([], false) (pkf rfl rfl) rfl (t1 ([], false) (mv rfl) rfl (jw rfl (jw rfl (jw rfl (jw rfl (jw rfl (t1 ([], false) (pkf rfl rfl) rfl (t1 ([], false) (mv rfl) rfl (jw rfl ?_)))))))))
   refine jw rfl (t1 ([], false) (pkf rfl rfl) rfl (t1 ([], false) (mv rfl) rfl (jw rfl (jw rfl (jw rfl (t1 ([], false) (pkf rfl rfl) rfl (t1 ([], false) (mv rfl) rfl (jw rfl (jw rfl ?_)))))))))
   refine jw rfl (jw rfl (jw rfl (t1 ([], false) (pkf rfl rfl) rfl (t1 ([], false) (mv rfl) rfl (jw rfl (jw rfl (jw rfl (t1 ([], false) (pkf rfl rfl) rfl (t1 ([], false) (mv rfl) rfl ?_)))))))))
   refine jw rfl (jw rfl (jw rfl (jw rfl (jw rfl (jw rfl (t1 ([], false) (pkf rfl rfl) rfl (t1 ([], false) (asg rfl) rfl (ST.nil (And.intro (by decide +kernel) ?_)))))))))
   exact (wc [] [] (by kernel_rfl) rfl (by kernel_rfl))
 ·rintro y60 h0
  have q := si h0; subst q
  exact SC.ret (finR (Wk.refl _) (lresT rfl lresN) rfl)
noncomputable def ref01_In_Left (p0 : List UInt8) (p1 : Int) (p2 : Bool) : Option Unit :=
 some ()
theorem ref01_In_Left_ok (p0 : List UInt8) (p1 : Int) (p2 : Bool) (r : Unit) (h0 : ref01_In_Left p0 p1 p2 = some r) : CallAt Tryz.prog 91 [.ref 0 0 0] [.box (.agg [.slc 1 1 0 p0.length none, .d (eI p1), .d (eB p2)]), .row 1 (List.map eU8 p0) true] (.d (eI (w64 ((p0.length : Int) - p1)))) [.box (.agg [.slc 1 1 0 p0.length none, .d (eI p1), .d (eB p2)]), .row 1 (List.map eU8 p0) true] := by
 unfold ref01_In_Left at h0
 refine fn0 [0] Tryz.func91 rfl rfl rfl rfl rfl ?_
 have q := si h0; subst q
 refine sr (sa rfl (sn (sd (by kernel_rfl) (t1 ([], false) (mv rfl) rfl (t1 ([], false) (nkr rfl) rfl (t1 ([], false) (far (k := 0) rfl fo115_0 ts57 rfl) rfl (t1 ([0], false) (lod rfl (ld_box ts57 ta57 rfl rfl)) rfl (t1 ([], false) (len rfl rfl rfl (len_slc un57)) rfl (t1 ([], false) (mv rfl) rfl ?_)))))))))
 exact t1 ([], false) (nkr rfl) rfl (t1 ([], false) (far (k := 1) rfl fo115_1 ts3 rfl) rfl (t1 ([0], false) (lod rfl (ld_box ts3 ta3 rfl rfl)) rfl (t1 ([], false) (bi rfl rfl q_i64_sub) rfl (t1 ([], false) (asg rfl) rfl (tn (by decide +kernel) (SC.ret (finR (Wk.refl _) (lresT rfl lresN) rfl)))))))
noncomputable def ref01_In_Num (p0 : Int) (p1 : List UInt8) (p2 : Int) (p3 : Bool) : Option (UInt64 × Int × Bool) :=
 Option.bind (α := Bool)
 (bif p3 then
 some true
 else
 Option.bind (ref01_In_Left p1 p2 p3) fun _ =>
 some (decide ((w64 ((p1.length : Int) - p2)) < p0)))
 fun y57 =>
 bif y57 then
 some ((0 : UInt64), p2, true)
 else
 Option.bind (α := UInt64)
 (Option.bind (α := UInt64)
 (loop (Y := UInt64 × Int) (W := UInt64) (fun (y73, y74) =>
 bif (decide (y74 < p0)) then
 Option.bind (getI p1 (w64 (p2 + y74))) fun v80 =>
 some (Sum.inl (((shl64 y73 8) + (v80.toUInt64)), (w64 (y74 + (1 : Int)))))
 else
 some (Sum.inr y73)) ((0 : UInt64), (0 : Int)))
 (fun e => some e))
 fun y70 =>
 some (y70, (w64 (p2 + p0)), p3)
theorem ref01_In_Num_ok (p0 : Int) (p1 : List UInt8) (p2 : Int) (p3 : Bool) (r : UInt64 × Int × Bool) (h0 : ref01_In_Num p0 p1 p2 p3 = some r) : CallAt Tryz.prog 59 [.ref 0 0 0, .d (eI p0)] [.box (.agg [.slc 1 1 0 p1.length none, .d (eI p2), .d (eB p3)]), .row 1 (List.map eU8 p1) true] (.d (eU64 r.1)) [.box (.agg [.slc 1 1 0 p1.length none, .d (eI r.2.1), .d (eB r.2.2)]), .row 1 (List.map eU8 p1) true] := by
 unfold ref01_In_Num at h0
 refine fn0 [0, 1] Tryz.func59 rfl rfl rfl rfl rfl ?_
 refine sr (s1 (asg (v := .d (eU64 (0 : UInt64))) rfl) (sn (sq (SC.seqP h0 (fun y => ⟨mk 50 [(0, .ref 0 0 0), (1, .d (eI p0)), (16, .d (eB y))], [.box (.agg [.slc 1 1 0 p1.length none, .d (eI p2), .d (eB p3)]), .row 1 (List.map eU8 p1) true]⟩) ?_ ?_))))
 ·intro u1_58 h1
  refine SC.region (sm rfl (s1 (nkr rfl) (s1 (far (k := 2) rfl fo115_2 ts4 rfl) (s1 (lod rfl (ld_box ts4 ta4 rfl rfl)) (sm rfl (sp h1 (fun h1 => ?_) (fun h1 => ?_)))))))
  ·have q := si h1; subst q
   exact kw rfl (kw rfl (kw rfl (kw rfl (s1 (pkt rfl rfl) (SO.nil ((wq rfl)))))))
  ·obtain ⟨_, hq59, h1⟩ := ob h1; have q := si h1; subst q
   exact gw rfl (mv rfl) (cq [0, 1] [] (ref01_In_Left_ok p1 p2 p3 _ hq59) (ww rfl) rfl rfl rfl cb91 rfl rfl rfl rfl rfl rfl rfl rfl (gw rfl (mv rfl) (gw rfl (bi rfl rfl q_i64_lss) (s1 (pkf rfl rfl) (SO.nil ((wq rfl)))))))
 ·rintro y57 h0
  refine cB h0 rfl (fun h0 => ?_) (fun h0 => ?_)
  ·have q := si h0; subst q
   refine sr (sm rfl (s1 (nkr rfl) (s1 (far (k := 2) rfl fo115_2 ts4 rfl) (s0 (sto (b := .d (eB true)) rfl rfl (sB (d' := .agg [.slc 1 1 0 p1.length none, .d (eI p2), .d (eB true)]) ts4 rfl rfl rfl rfl rfl rfl rfl)) (sn (sr (s1 (asg (v := .d (eU64 (0 : UInt64))) rfl) (sn (SC.ret ?_)))))))))
   exact finR (Wk.refl _) (lresT rfl lresN) rfl
  ·refine sk (sr (s1 (asg (v := .d (eU64 (0 : UInt64))) rfl) (sn (SC.seqP h0 (fun y => ⟨mk 50 [(0, .ref 0 0 0), (1, .d (eI p0)), (5, .d (eU64 y))], [.box (.agg [.slc 1 1 0 p1.length none, .d (eI p2), .d (eB p3)]), .row 1 (List.map eU8 p1) true]⟩) ?_ ?_))))
   ·intro u1_71 h1
    obtain ⟨u2_79, h2, h1⟩ := ob h1
    refine sr (sa rfl (sn (SC.blk (SC.loopB h2 (fun y => ⟨mk 50 [(0, .ref 0 0 0), (1, .d (eI p0)), (5, .d (eU64 y.1)), (6, .d (eI y.2))], [.box (.agg [.slc 1 1 0 p1.length none, .d (eI p2), .d (eB p3)]), .row 1 (List.map eU8 p1) true]⟩) (wq rfl) ?_))))
    intro n81
    rintro ⟨y73, y74⟩ w2_78 h3 hv3
    refine sq (sr (sm rfl (sm rfl (s1 (bi rfl rfl q_i64_lss) (sn (cB h3 rfl (fun h3 => ?_) (fun h3 => ?_)))))))
    ·obtain ⟨v80, hv80, h3⟩ := ob h3
     refine sk (sq (SC.blk (SC.draws (by kernel_rfl) (t1 ([], false) (mv rfl) rfl (t1 ([], false) (bi (v := .d (eU64 (shl64 y73 8))) rfl rfl (fun X Y => b_u64_shl _ X Y y73 _ (by decide))) rfl (t1 ([], false) (mv rfl) rfl (t1 ([], false) (nkr rfl) rfl (t1 ([], false) (far (k := 0) rfl fo115_0 ts57 rfl) rfl (t1 ([0], false) (lod rfl (ld_box ts57 ta57 rfl rfl)) rfl ?_)))))))))
     refine t1 ([], false) (mv rfl) rfl (t1 ([], false) (nkr rfl) rfl (t1 ([], false) (far (k := 1) rfl fo115_1 ts3 rfl) rfl (t1 ([0], false) (lod rfl (ld_box ts3 ta3 rfl rfl)) rfl (t1 ([], false) (mv rfl) rfl (t1 ([], false) (bi rfl rfl q_i64_add) rfl (t1 ([], false) (iaz rfl rfl un57 ts5 (getI_lt hv80)) rfl (t1 ([1], false) (lod rfl (ld_row ts5 ta5 rfl (map_get (getI_some hv80).2) rfl)) rfl (t1 ([], false) (cvo rfl (cv_u8_u64 un5 un41 v80)) rfl (t1 ([], false) (bi rfl rfl q_u64_add) rfl ?_)))))))))
     refine t1 ([], false) (asg rfl) rfl (ST.nil (And.intro (by decide +kernel) ?_))
     change SC _ _ _ _ _
     have q := si h3; subst q
     exact SC.region (sm rfl (s1 (bi rfl rfl q_i64_add) (sa rfl (SO.nil (lf (wq rfl))))))
    ·have q := si h3; subst q; have q : _ = _ := hv3; subst q; have q := si h1; subst q
     exact SC.exit ((wq rfl))
   ·rintro y70 h0
    have q := si h0; subst q
    refine sr (sm rfl (s1 (nkr rfl) (s1 (far (k := 1) rfl fo115_1 ts3 rfl) (s1 (lod rfl (ld_box ts3 ta3 rfl rfl)) (sm rfl (s1 (bi rfl rfl q_i64_add) (s1 (nkr rfl) (s1 (far (k := 1) rfl fo115_1 ts3 rfl) (s0 (sto rfl rfl (sB (d' := .agg [.slc 1 1 0 p1.length none, .d (eI (w64 (p2 + p0))), .d (eB p3)]) ts3 rfl rfl rfl rfl rfl rfl rfl)) ?_)))))))))
    exact sn (sr (sm rfl (sa rfl (sn (SC.ret (finR (Wk.refl _) (lresT rfl lresN) rfl))))))
noncomputable def ref01_In_Text (p0 : List UInt8) (p1 : Int) (p2 : Bool) : Option ((List UInt8) × Int × Bool) :=
 Option.bind (α := Bool)
 (bif p2 then
 some true
 else
 Option.bind (ref01_In_Left p0 p1 p2) fun _ =>
 some (decide ((w64 ((p0.length : Int) - p1)) < (2 : Int))))
 fun y23 =>
 bif y23 then
 some (([] : List UInt8), p1, true)
 else
 Option.bind (getI p0 p1) fun v26 =>
 Option.bind (getI p0 (w64 (p1 + (1 : Int)))) fun v27 =>
 Option.bind (ref01_In_Left p0 p1 p2) fun _ =>
 bif (decide ((w64 ((p0.length : Int) - p1)) < (w64 ((2 : Int) + (w64 ((w64 ((v26.toNat : Int) * (256 : Int))) + (v27.toNat : Int))))))) then
 some (([] : List UInt8), p1, true)
 else
 bif decide (0 ≤ (w64 ((w64 (p1 + (w64 ((2 : Int) + (w64 ((w64 ((v26.toNat : Int) * (256 : Int))) + (v27.toNat : Int))))))) - (w64 ((w64 ((v26.toNat : Int) * (256 : Int))) + (v27.toNat : Int))))) ∧ (w64 ((w64 (p1 + (w64 ((2 : Int) + (w64 ((w64 ((v26.toNat : Int) * (256 : Int))) + (v27.toNat : Int))))))) - (w64 ((w64 ((v26.toNat : Int) * (256 : Int))) + (v27.toNat : Int))))) ≤ (w64 (p1 + (w64 ((2 : Int) + (w64 ((w64 ((v26.toNat : Int) * (256 : Int))) + (v27.toNat : Int))))))) ∧ (w64 (p1 + (w64 ((2 : Int) + (w64 ((w64 ((v26.toNat : Int) * (256 : Int))) + (v27.toNat : Int))))))) ≤ (p0.length : Int)) then
 bif decide ((0 + (w64 ((w64 (p1 + (w64 ((2 : Int) + (w64 ((w64 ((v26.toNat : Int) * (256 : Int))) + (v27.toNat : Int))))))) - (w64 ((w64 ((v26.toNat : Int) * (256 : Int))) + (v27.toNat : Int))))).toNat) + ((w64 (p1 + (w64 ((2 : Int) + (w64 ((w64 ((v26.toNat : Int) * (256 : Int))) + (v27.toNat : Int))))))).toNat - (w64 ((w64 (p1 + (w64 ((2 : Int) + (w64 ((w64 ((v26.toNat : Int) * (256 : Int))) + (v27.toNat : Int))))))) - (w64 ((w64 ((v26.toNat : Int) * (256 : Int))) + (v27.toNat : Int))))).toNat) ≤ p0.length) then
 some ((List.take ((w64 (p1 + (w64 ((2 : Int) + (w64 ((w64 ((v26.toNat : Int) * (256 : Int))) + (v27.toNat : Int))))))).toNat - (w64 ((w64 (p1 + (w64 ((2 : Int) + (w64 ((w64 ((v26.toNat : Int) * (256 : Int))) + (v27.toNat : Int))))))) - (w64 ((w64 ((v26.toNat : Int) * (256 : Int))) + (v27.toNat : Int))))).toNat) (List.drop (0 + (w64 ((w64 (p1 + (w64 ((2 : Int) + (w64 ((w64 ((v26.toNat : Int) * (256 : Int))) + (v27.toNat : Int))))))) - (w64 ((w64 ((v26.toNat : Int) * (256 : Int))) + (v27.toNat : Int))))).toNat) p0)), (w64 (p1 + (w64 ((2 : Int) + (w64 ((w64 ((v26.toNat : Int) * (256 : Int))) + (v27.toNat : Int))))))), p2)
 else none
 else none
theorem ref01_In_Text_ok (p0 : List UInt8) (p1 : Int) (p2 : Bool) (r : (List UInt8) × Int × Bool) (h0 : ref01_In_Text p0 p1 p2 = some r) : CallAt Tryz.prog 92 [.ref 0 0 0] [.box (.agg [.slc 1 1 0 p0.length none, .d (eI p1), .d (eB p2)]), .row 1 (List.map eU8 p0) true] (.d (eS r.1)) [.box (.agg [.slc 1 1 0 p0.length none, .d (eI r.2.1), .d (eB r.2.2)]), .row 1 (List.map eU8 p0) true] := by
 unfold ref01_In_Text at h0
 refine fn0 [0] Tryz.func92 rfl rfl rfl rfl rfl ?_
 refine sr (s1 (asg (v := .d (eS ([] : List UInt8))) rfl) (sn (sq (SC.seqP h0 (fun y => ⟨mk 74 [(0, .ref 0 0 0), (12, .d (eB y))], [.box (.agg [.slc 1 1 0 p0.length none, .d (eI p1), .d (eB p2)]), .row 1 (List.map eU8 p0) true]⟩) ?_ ?_))))
 ·intro u1_24 h1
  refine SC.region (sm rfl (s1 (nkr rfl) (s1 (far (k := 2) rfl fo115_2 ts4 rfl) (s1 (lod rfl (ld_box ts4 ta4 rfl rfl)) (sm rfl (sp h1 (fun h1 => ?_) (fun h1 => ?_)))))))
  ·have q := si h1; subst q
   exact kw rfl (kw rfl (kw rfl (s1 (pkt rfl rfl) (SO.nil ((wq rfl))))))
  ·obtain ⟨_, hq25, h1⟩ := ob h1; have q := si h1; subst q
   exact gw rfl (mv rfl) (cq [0, 1] [] (ref01_In_Left_ok p0 p1 p2 _ hq25) (ww rfl) rfl rfl rfl cb91 rfl rfl rfl rfl rfl rfl rfl rfl (gw rfl (bi rfl rfl q_i64_lss) (s1 (pkf rfl rfl) (SO.nil ((wq rfl))))))
 ·rintro y23 h0
  refine cB h0 rfl (fun h0 => ?_) (fun h0 => ?_)
  ·have q := si h0; subst q
   refine sr (sm rfl (s1 (nkr rfl) (s1 (far (k := 2) rfl fo115_2 ts4 rfl) (s0 (sto (b := .d (eB true)) rfl rfl (sB (d' := .agg [.slc 1 1 0 p0.length none, .d (eI p1), .d (eB true)]) ts4 rfl rfl rfl rfl rfl rfl rfl)) (sn (sr (s1 (asg (v := .d (eS ([] : List UInt8))) rfl) (sn (SC.ret ?_)))))))))
   exact finR (Wk.refl _) (lresT rfl lresN) rfl
  ·obtain ⟨v26, hv26, h0⟩ := ob h0; obtain ⟨v27, hv27, h0⟩ := ob h0; obtain ⟨_, hq28, h0⟩ := ob h0
   refine sk (sd (by kernel_rfl) (t1 ([], false) (mv rfl) rfl (t1 ([], false) (nkr rfl) rfl (t1 ([], false) (far (k := 0) rfl fo115_0 ts57 rfl) rfl (t1 ([0], false) (lod rfl (ld_box ts57 ta57 rfl rfl)) rfl (t1 ([], false) (mv rfl) rfl (t1 ([], false) (nkr rfl) rfl (t1 ([], false) (far (k := 1) rfl fo115_1 ts3 rfl) rfl (t1 ([0], false) (lod rfl (ld_box ts3 ta3 rfl rfl)) rfl ?_)))))))))
   refine t1 ([], false) (iaz rfl rfl un57 ts5 (getI_lt hv26)) rfl (t1 ([1], false) (lod rfl (ld_row ts5 ta5 rfl (map_get (getI_some hv26).2) rfl)) rfl (t1 ([], false) (cvo rfl (cv_u8_i64 un5 un3 v26)) rfl (t1 ([], false) (bi rfl rfl q_i64_mul) rfl (t1 ([], false) (mv rfl) rfl (t1 ([], false) (nkr rfl) rfl (t1 ([], false) (far (k := 0) rfl fo115_0 ts57 rfl) rfl (t1 ([0], false) (lod rfl (ld_box ts57 ta57 rfl rfl)) rfl (t1 ([], false) (mv rfl) rfl (t1 ([], false) (nkr rfl) rfl ?_)))))))))
   refine t1 ([], false) (far (k := 1) rfl fo115_1 ts3 rfl) rfl (t1 ([0], false) (lod rfl (ld_box ts3 ta3 rfl rfl)) rfl (t1 ([], false) (bi rfl rfl q_i64_add) rfl (t1 ([], false) (iaz rfl rfl un57 ts5 (getI_lt hv27)) rfl (t1 ([1], false) (lod rfl (ld_row ts5 ta5 rfl (map_get (getI_some hv27).2) rfl)) rfl (t1 ([], false) (cvo rfl (cv_u8_i64 un5 un3 v27)) rfl (t1 ([], false) (bi rfl rfl q_i64_add) rfl (t1 ([], false) (asg rfl) rfl (tn (by decide +kernel) (sq ?_)))))))))
   refine sr (sm rfl (cq [0, 1] [] (ref01_In_Left_ok p0 p1 p2 _ hq28) wf rfl rfl rfl cb91 rfl rfl rfl rfl rfl rfl rfl rfl (sm rfl (s1 (bi rfl rfl q_i64_add) (s1 (bi rfl rfl q_i64_lss) (sn (cB h0 rfl (fun h0 => ?_) (fun h0 => ?_))))))))
   ·have q := si h0; subst q
    refine sr (sm rfl (s1 (nkr rfl) (s1 (far (k := 2) rfl fo115_2 ts4 rfl) (s0 (sto (b := .d (eB true)) rfl rfl (sB (d' := .agg [.slc 1 1 0 p0.length none, .d (eI p1), .d (eB true)]) ts4 rfl rfl rfl rfl rfl rfl rfl)) (sn (sr (s1 (asg (v := .d (eS ([] : List UInt8))) rfl) (sn (SC.ret ?_)))))))))
    exact finR (Wk.refl _) (lresT rfl lresN) rfl
   ·obtain ⟨hg29, h0⟩ := gd h0; obtain ⟨hg30, h0⟩ := gd h0; have q := si h0; subst q
    refine sk (sr (sm rfl (s1 (nkr rfl) (s1 (far (k := 1) rfl fo115_1 ts3 rfl) (s1 (lod rfl (ld_box ts3 ta3 rfl rfl)) (sm rfl (s1 (bi rfl rfl q_i64_add) (s1 (bi rfl rfl q_i64_add) (s1 (nkr rfl) ?_)))))))))
    refine s1 (far (k := 1) rfl fo115_1 ts3 rfl) (s0 (sto rfl rfl (sB (d' := .agg [.slc 1 1 0 p0.length none, .d (eI (w64 (p1 + (w64 ((2 : Int) + (w64 ((w64 ((v26.toNat : Int) * (256 : Int))) + (v27.toNat : Int)))))))), .d (eB p2)]) ts3 rfl rfl rfl rfl rfl rfl rfl)) (sn (sd (by kernel_rfl) (t1 ([], false) (mv rfl) rfl (t1 ([], false) (nkr rfl) rfl (t1 ([], false) (far (k := 0) rfl fo115_0 ts57 rfl) rfl (t1 ([0], false) (lod rfl (ld_box ts57 ta57 rfl rfl)) rfl (t1 ([], false) (mv rfl) rfl (t1 ([], false) (nkr rfl) rfl ?_)))))))))
    refine t1 ([], false) (far (k := 1) rfl fo115_1 ts3 rfl) rfl (t1 ([0], false) (lod rfl (ld_box ts3 ta3 rfl rfl)) rfl (t1 ([], false) (mv rfl) rfl (t1 ([], false) (bi rfl rfl q_i64_sub) rfl (t1 ([], false) (mv rfl) rfl (t1 ([], false) (nkr rfl) rfl (t1 ([], false) (far (k := 1) rfl fo115_1 ts3 rfl) rfl (t1 ([0], false) (lod rfl (ld_box ts3 ta3 rfl rfl)) rfl (t1 ([], false) (slo rfl rfl rfl rfl (sl_slc un57 ts5 hg29)) rfl (t1 ([1], false) (cvo (v := .d (eS (List.take ((w64 (p1 + (w64 ((2 : Int) + (w64 ((w64 ((v26.toNat : Int) * (256 : Int))) + (v27.toNat : Int))))))).toNat - (w64 ((w64 (p1 + (w64 ((2 : Int) + (w64 ((w64 ((v26.toNat : Int) * (256 : Int))) + (v27.toNat : Int))))))) - (w64 ((w64 ((v26.toNat : Int) * (256 : Int))) + (v27.toNat : Int))))).toNat) (List.drop (0 + (w64 ((w64 (p1 + (w64 ((2 : Int) + (w64 ((w64 ((v26.toNat : Int) * (256 : Int))) + (v27.toNat : Int))))))) - (w64 ((w64 ((v26.toNat : Int) * (256 : Int))) + (v27.toNat : Int))))).toNat) p0)))) rfl (cv_bytes_str un57 un9 un5 (el_slc (xs := p0) rfl hg30) (fun _ hh => by cases hh))) rfl ?_)))))))))
    exact t1 ([], false) (asg rfl) rfl (tn (by decide +kernel) (SC.ret (finR (Wk.refl _) (lresT rfl lresN) rfl)))
noncomputable def ref01_In_Flag (p0 : List UInt8) (p1 : Int) (p2 : Bool) : Option (Bool × Int × Bool) :=
 Option.bind (α := Bool)
 (bif p2 then
 some true
 else
 Option.bind (ref01_In_Left p0 p1 p2) fun _ =>
 bif (decide ((w64 ((p0.length : Int) - p1)) < (1 : Int))) then
 some true
 else
 Option.bind (getI p0 p1) fun v23 =>
 some (decide ((1 : UInt8) < v23)))
 fun y20 =>
 bif y20 then
 some (false, p1, true)
 else
 Option.bind (getI p0 (w64 ((w64 (p1 + (1 : Int))) - (1 : Int)))) fun v24 =>
 some ((v24 == (1 : UInt8)), (w64 (p1 + (1 : Int))), p2)
theorem ref01_In_Flag_ok (p0 : List UInt8) (p1 : Int) (p2 : Bool) (r : Bool × Int × Bool) (h0 : ref01_In_Flag p0 p1 p2 = some r) : CallAt Tryz.prog 93 [.ref 0 0 0] [.box (.agg [.slc 1 1 0 p0.length none, .d (eI p1), .d (eB p2)]), .row 1 (List.map eU8 p0) true] (.d (eB r.1)) [.box (.agg [.slc 1 1 0 p0.length none, .d (eI r.2.1), .d (eB r.2.2)]), .row 1 (List.map eU8 p0) true] := by
 unfold ref01_In_Flag at h0
 refine fn0 [0] Tryz.func93 rfl rfl rfl rfl rfl ?_
 refine sr (sa rfl (sn (sq (SC.seqP h0 (fun y => ⟨mk 47 [(0, .ref 0 0 0), (24, .d (eB y))], [.box (.agg [.slc 1 1 0 p0.length none, .d (eI p1), .d (eB p2)]), .row 1 (List.map eU8 p0) true]⟩) ?_ ?_))))
 ·intro u1_21 h1
  refine SC.draws (by kernel_rfl) (t1 ([], false) (mv rfl) rfl (t1 ([], false) (nkr rfl) rfl (t1 ([], false) (far (k := 2) rfl fo115_2 ts4 rfl) rfl (t1 ([0], false) (lod rfl (ld_box ts4 ta4 rfl rfl)) rfl (t1 ([], false) (mv rfl) rfl (tp h1 (fun h1 => ?_) (fun h1 => ?_)))))))
  ·have q := si h1; subst q
   refine jw rfl (jw rfl (jw rfl (t1 ([], false) (pkt rfl rfl) rfl (t1 ([], false) (mv rfl) rfl (jw rfl (jw rfl (jw rfl (jw rfl (jw rfl ?_)))))))))
   refine jw rfl (jw rfl (jw rfl (jw rfl (jw rfl (jw rfl (t1 ([], false) (pkt rfl rfl) rfl (ST.nil (And.intro (by decide +kernel) ?_))))))))
   exact (wq rfl)
  ·obtain ⟨_, hq22, h1⟩ := ob h1
   refine u1 ([], false) (ww rfl) (mv rfl) rfl (tqr [0, 1] [0, 1] (ref01_In_Left_ok p0 p1 p2 _ hq22) (ww rfl) rfl rfl rfl cb91 rfl rfl rfl rfl rfl rfl rfl rfl (u1 ([], false) (ww rfl) (bi rfl rfl q_i64_lss) rfl (t1 ([], false) (pkf rfl rfl) rfl (t1 ([], false) (mv rfl) rfl (tp h1 (fun h1 => ?_) (fun h1 => ?_))))))
   ·have q := si h1; subst q
    refine jw rfl (jw rfl (jw rfl (jw rfl (jw rfl (jw rfl (jw rfl (jw rfl (jw rfl (jw rfl ?_)))))))))
    refine jw rfl (t1 ([], false) (pkt rfl rfl) rfl (ST.nil (And.intro (by decide +kernel) ?_)))
    exact (wq rfl)
   ·obtain ⟨v23, hv23, h1⟩ := ob h1; have q := si h1; subst q
    refine u1 ([], false) (ww rfl) (mv rfl) rfl (u1 ([], false) (ww rfl) (nkr rfl) rfl (u1 ([], false) (ww rfl) (far (k := 0) rfl fo115_0 ts57 rfl) rfl (u1 ([0], false) (ww rfl) (lod rfl (ld_box ts57 ta57 rfl rfl)) rfl (u1 ([], false) (ww rfl) (mv rfl) rfl (u1 ([], false) (ww rfl) (nkr rfl) rfl (u1 ([], false) (ww rfl) (far (k := 1) rfl fo115_1 ts3 rfl) rfl (u1 ([0], false) (ww rfl) (lod rfl (ld_box ts3 ta3 rfl rfl)) rfl (u1 ([], false) (ww rfl) (iaz rfl rfl un57 ts5 (getI_lt hv23)) rfl (u1 ([1], false) (ww rfl) (lod rfl (ld_row ts5 ta5 rfl (map_get (getI_some hv23).2) rfl)) rfl ?_)))))))))
    refine u1 ([], false) (ww rfl) (bi rfl rfl (q_u8_gtr (b := (1 : UInt8)))) rfl (t1 ([], false) (pkf rfl rfl) rfl (ST.nil (And.intro (by decide +kernel) ?_)))
    exact (wq rfl)
 ·rintro y20 h0
  refine cB h0 rfl (fun h0 => ?_) (fun h0 => ?_)
  ·have q := si h0; subst q
   refine sr (sm rfl (s1 (nkr rfl) (s1 (far (k := 2) rfl fo115_2 ts4 rfl) (s0 (sto (b := .d (eB true)) rfl rfl (sB (d' := .agg [.slc 1 1 0 p0.length none, .d (eI p1), .d (eB true)]) ts4 rfl rfl rfl rfl rfl rfl rfl)) (sn (sr (sa rfl (sn (SC.ret ?_)))))))))
   exact finR (Wk.refl _) (lresT rfl lresN) rfl
  ·obtain ⟨v24, hv24, h0⟩ := ob h0; have q := si h0; subst q
   refine sk (sr (sm rfl (s1 (nkr rfl) (s1 (far (k := 1) rfl fo115_1 ts3 rfl) (s1 (lod rfl (ld_box ts3 ta3 rfl rfl)) (s1 (bi rfl rfl q_i64_add) (s1 (nkr rfl) (s1 (far (k := 1) rfl fo115_1 ts3 rfl) (s0 (sto rfl rfl (sB (d' := .agg [.slc 1 1 0 p0.length none, .d (eI (w64 (p1 + (1 : Int)))), .d (eB p2)]) ts3 rfl rfl rfl rfl rfl rfl rfl)) ?_)))))))))
   refine sn (sd (by kernel_rfl) (t1 ([], false) (mv rfl) rfl (t1 ([], false) (nkr rfl) rfl (t1 ([], false) (far (k := 0) rfl fo115_0 ts57 rfl) rfl (t1 ([0], false) (lod rfl (ld_box ts57 ta57 rfl rfl)) rfl (t1 ([], false) (mv rfl) rfl (t1 ([], false) (nkr rfl) rfl (t1 ([], false) (far (k := 1) rfl fo115_1 ts3 rfl) rfl (t1 ([0], false) (lod rfl (ld_box ts3 ta3 rfl rfl)) rfl ?_)))))))))
   exact t1 ([], false) (bi rfl rfl q_i64_sub) rfl (t1 ([], false) (iaz rfl rfl un57 ts5 (getI_lt hv24)) rfl (t1 ([1], false) (lod rfl (ld_row ts5 ta5 rfl (map_get (getI_some hv24).2) rfl)) rfl (t1 ([], false) (bi rfl rfl (q_u8_eql (b := (1 : UInt8)))) rfl (t1 ([], false) (asg rfl) rfl (tn (by decide +kernel) (SC.ret (finR (Wk.refl _) (lresT rfl lresN) rfl)))))))
noncomputable def ref18_readColumn (p0 : List UInt8) : Option ApiColumn :=
 Option.bind (ref01_In_Text p0 (0 : Int) false) fun (r59, r60, r61) =>
 Option.bind (ref01_In_Num (1 : Int) p0 r60 r61) fun (r63, r64, r65) =>
 Option.bind (ref01_In_Num (1 : Int) p0 r64 r65) fun (r67, r68, r69) =>
 Option.bind (ref01_In_Flag p0 r68 r69) fun (r71, r72, r73) =>
 Option.bind (ref01_In_Num (1 : Int) p0 r72 r73) fun (r75, r76, r77) =>
 Option.bind (ref01_In_Num (8 : Int) p0 r76 r77) fun (r79, r80, r81) =>
 Option.bind (ref01_In_Text p0 r80 r81) fun (r83, r84, r85) =>
 some (ApiColumn.mk r59 (i64u r63) (i64u r67) r71 (ApiValue.mk (i64u r75) r79 r83))
theorem ref18_readColumn_ok (p0 : List UInt8) (r : ApiColumn) (h0 : ref18_readColumn p0 = some r) : CallAt Tryz.prog 60 [.d (eS p0)] [] (.d (eApiColumn r)) [.box (.d (eApiColumn r))] := by
 unfold ref18_readColumn at h0
 refine fn0 [0] Tryz.func60 rfl rfl rfl rfl rfl ?_
 obtain ⟨⟨r59, r60, r61⟩, hq58, h0⟩ := ob h0
 obtain ⟨⟨r63, r64, r65⟩, hq62, h0⟩ := ob h0
 obtain ⟨⟨r67, r68, r69⟩, hq66, h0⟩ := ob h0
 obtain ⟨⟨r71, r72, r73⟩, hq70, h0⟩ := ob h0
 obtain ⟨⟨r75, r76, r77⟩, hq74, h0⟩ := ob h0
 obtain ⟨⟨r79, r80, r81⟩, hq78, h0⟩ := ob h0
 obtain ⟨⟨r83, r84, r85⟩, hq82, h0⟩ := ob h0
 have q := si h0; subst q
 refine sr (s1 (alo (k := 0) zo45 rfl) (sn (sr (sm rfl (s1 (cvs (s := p0) (k := 1) rfl un9 un57 un5 ts5 rfl) (s1 (bld (v := .agg [.slc 1 1 0 p0.length none, .d (eI (0 : Int)), .d (eB false)]) rfl (by rfl)) (s1 (bxo (k := 2) rfl rfl rfl) (sa rfl (sn ?_)))))))))
 refine sr (s1 (bld rfl (bd45_ )) (s1 (alo (k := 3) zo45 rfl) (s0 (sto rfl rfl (sB (d' := .d (eApiColumn (ApiColumn.mk ([] : List UInt8) (0 : Int) (0 : Int) false (ApiValue.mk (0 : Int) (0 : UInt64) ([] : List UInt8))))) ts45 rfl rfl rfl rfl rfl rfl rfl)) (sn (sr (sm rfl (cq [2, 1] [] (ref01_In_Text_ok p0 (0 : Int) false _ hq58) wf rfl rfl rfl cb92 rfl rfl rfl rfl rfl rfl rfl rfl (s1 (far (k := 0) rfl fo45_0 ts9 rfl) (s0 (sto rfl rfl (sB (d' := .d (eApiColumn (ApiColumn.mk r59 (0 : Int) (0 : Int) false (ApiValue.mk (0 : Int) (0 : UInt64) ([] : List UInt8))))) ts9 rfl rfl rfl rfl rfl rfl rfl)) ?_)))))))))
 refine sn (sr (sm rfl (cq [2, 1] [] (ref01_In_Num_ok (1 : Int) p0 r60 r61 _ hq62) wf rfl rfl rfl cb59 rfl rfl rfl rfl rfl rfl rfl rfl (s1 (cvo rfl (cv_u64_i64 un41 un3 r63)) (s1 (far (k := 1) rfl fo45_1 ts3 rfl) (s0 (sto rfl rfl (sB (d' := .d (eApiColumn (ApiColumn.mk r59 (i64u r63) (0 : Int) false (ApiValue.mk (0 : Int) (0 : UInt64) ([] : List UInt8))))) ts3 rfl rfl rfl rfl rfl rfl rfl)) (sn (sr (sm rfl ?_)))))))))
 refine cq [2, 1] [] (ref01_In_Num_ok (1 : Int) p0 r64 r65 _ hq66) wf rfl rfl rfl cb59 rfl rfl rfl rfl rfl rfl rfl rfl (s1 (cvo rfl (cv_u64_i64 un41 un3 r67)) (s1 (far (k := 2) rfl fo45_2 ts3 rfl) (s0 (sto rfl rfl (sB (d' := .d (eApiColumn (ApiColumn.mk r59 (i64u r63) (i64u r67) false (ApiValue.mk (0 : Int) (0 : UInt64) ([] : List UInt8))))) ts3 rfl rfl rfl rfl rfl rfl rfl)) (sn (sr (sm rfl (cq [2, 1] [] (ref01_In_Flag_ok p0 r68 r69 _ hq70) wf rfl rfl rfl cb93 rfl rfl rfl rfl rfl rfl rfl rfl (s1 (far (k := 3) rfl fo45_3 ts4 rfl) (s0 (sto rfl rfl (sB (d' := .d (eApiColumn (ApiColumn.mk r59 (i64u r63) (i64u r67) r71 (ApiValue.mk (0 : Int) (0 : UInt64) ([] : List UInt8))))) ts4 rfl rfl rfl rfl rfl rfl rfl)) ?_)))))))))
 refine sn (sr (sm rfl (cq [2, 1] [] (ref01_In_Num_ok (1 : Int) p0 r72 r73 _ hq74) wf rfl rfl rfl cb59 rfl rfl rfl rfl rfl rfl rfl rfl (s1 (cvo rfl (cv_u64_i64 un41 un3 r75)) (s1 (far (k := 4) rfl fo45_4 ts43 rfl) (s1 (far (k := 4) rfl fo43_0 ts3 rfl) (s0 (sto rfl rfl (sB (d' := .d (eApiColumn (ApiColumn.mk r59 (i64u r63) (i64u r67) r71 (ApiValue.mk (i64u r75) (0 : UInt64) ([] : List UInt8))))) ts3 rfl rfl rfl rfl rfl rfl rfl)) (sn (sr ?_)))))))))
 refine sm rfl (cq [2, 1] [] (ref01_In_Num_ok (8 : Int) p0 r76 r77 _ hq78) wf rfl rfl rfl cb59 rfl rfl rfl rfl rfl rfl rfl rfl (s1 (far (k := 4) rfl fo45_4 ts43 rfl) (s1 (far (k := 5) rfl fo43_1 ts41 rfl) (s0 (sto rfl rfl (sB (d' := .d (eApiColumn (ApiColumn.mk r59 (i64u r63) (i64u r67) r71 (ApiValue.mk (i64u r75) r79 ([] : List UInt8))))) ts41 rfl rfl rfl rfl rfl rfl rfl)) (sn (sr (sm rfl (cq [2, 1] [] (ref01_In_Text_ok p0 r80 r81 _ hq82) wf rfl rfl rfl cb92 rfl rfl rfl rfl rfl rfl rfl rfl (s1 (far (k := 4) rfl fo45_4 ts43 rfl) ?_)))))))))
 exact s1 (far (k := 6) rfl fo43_2 ts9 rfl) (s0 (sto rfl rfl (sB (d' := .d (eApiColumn (ApiColumn.mk r59 (i64u r63) (i64u r67) r71 (ApiValue.mk (i64u r75) r79 r83)))) ts9 rfl rfl rfl rfl rfl rfl rfl)) (sn (sr (s1 (lod (v := .d (eApiColumn (ApiColumn.mk r59 (i64u r63) (i64u r67) r71 (ApiValue.mk (i64u r75) r79 r83)))) rfl (ld_box ts45 ta45 rfl rfl)) (s0 (sto rfl rfl (sB (d' := .d (eApiColumn (ApiColumn.mk r59 (i64u r63) (i64u r67) r71 (ApiValue.mk (i64u r75) r79 r83)))) ts45 rfl rfl rfl rfl rfl rfl rfl)) (sn (SC.ret (finR (wc (e' := [(2, .ref 0 0 0)]) [0] [0] (by kernel_rfl) rfl (by kernel_rfl)) (lresC rfl (ld_box ts45 ta45 rfl rfl) lresN) rfl))))))))
noncomputable def ref18_readIndex (p0 : List UInt8) : Option ((List UInt8) × (List ApiPart) × (List Int) × Bool × Bool × Int) :=
 Option.bind (ref01_In_Text p0 (0 : Int) false) fun (r376, r377, r378) =>
 Option.bind (ref01_In_Num (1 : Int) p0 r377 r378) fun (r380, r381, r382) =>
 Option.bind (α := Int × Bool × (List ApiPart))
 (Option.bind (α := Int × Bool × (List ApiPart))
 (loop (Y := Int × Int × Bool × (List ApiPart)) (W := Int × Bool × (List ApiPart)) (fun (y442, y443, y444, y445) =>
 Option.bind (α := Bool)
 (bif (decide (y442 < (i64u r380))) then
 some (!y444)
 else
 some false)
 fun y463 =>
 bif y463 then
 Option.bind (ref01_In_Num (1 : Int) p0 y443 y444) fun (r466, r467, r468) =>
 Option.bind (ref01_In_Flag p0 r467 r468) fun (r470, r471, r472) =>
 bif decide ((y445.length + [(ApiPart.mk (i64u r466) r470)].length) * 16 ≤ room) then
 some (Sum.inl ((w64 (y442 + (1 : Int))), r471, r472, (y445 ++ [(ApiPart.mk (i64u r466) r470)])))
 else none
 else
 some (Sum.inr (y443, y444, y445))) ((0 : Int), r381, r382, ([] : List ApiPart)))
 (fun e => some e))
 fun (y427, y428, y429) =>
 Option.bind (ref01_In_Num (1 : Int) p0 y427 y428) fun (r476, r477, r478) =>
 Option.bind (α := Int × Bool × (List Int))
 (Option.bind (α := Int × Bool × (List Int))
 (loop (Y := Int × Int × Bool × (List Int)) (W := Int × Bool × (List Int)) (fun (y522, y523, y524, y525) =>
 Option.bind (α := Bool)
 (bif (decide (y522 < (i64u r476))) then
 some (!y524)
 else
 some false)
 fun y539 =>
 bif y539 then
 Option.bind (ref01_In_Num (1 : Int) p0 y523 y524) fun (r542, r543, r544) =>
 bif decide ((y525.length + [(i64u r542)].length) * 8 ≤ room) then
 some (Sum.inl ((w64 (y522 + (1 : Int))), r543, r544, (y525 ++ [(i64u r542)])))
 else none
 else
 some (Sum.inr (y523, y524, y525))) ((0 : Int), r477, r478, ([] : List Int)))
 (fun e => some e))
 fun (y511, y512, y513) =>
 Option.bind (ref01_In_Flag p0 y511 y512) fun (r548, r549, r550) =>
 Option.bind (ref01_In_Flag p0 r549 r550) fun (r552, r553, r554) =>
 Option.bind (ref01_In_Num (2 : Int) p0 r553 r554) fun (r556, r557, r558) =>
 some (r376, y429, y513, r548, r552, (i64u r556))
theorem ref18_readIndex_ok (p0 : List UInt8) (r : (List UInt8) × (List ApiPart) × (List Int) × Bool × Bool × Int) (h0 : ref18_readIndex p0 = some r) : CallAt Tryz.prog 61 [.d (eS p0)] [] (.agg [.d (eS r.1), .slc 1 2 0 r.2.1.length none, .slc 2 1 0 r.2.2.1.length none, .d (eB r.2.2.2.1), .d (eB r.2.2.2.2.1), .d (eI r.2.2.2.2.2)]) [.box (.agg [.d (eS r.1), .slc 1 2 0 r.2.1.length none, .slc 2 1 0 r.2.2.1.length none, .d (eB r.2.2.2.1), .d (eB r.2.2.2.2.1), .d (eI r.2.2.2.2.2)]), .row 2 (List.map eApiPart r.2.1) true, .row 1 (List.map eI r.2.2.1) true] := by
 unfold ref18_readIndex at h0
 refine fn0 [0] Tryz.func61 rfl rfl rfl rfl rfl ?_
 obtain ⟨⟨r376, r377, r378⟩, hq375, h0⟩ := ob h0; obtain ⟨⟨r380, r381, r382⟩, hq379, h0⟩ := ob h0
 refine sr (s1 (alo (k := 0) zo56 rfl) (sn (sr (sm rfl (s1 (cvs (s := p0) (k := 1) rfl un9 un57 un5 ts5 rfl) (s1 (bld (v := .agg [.slc 1 1 0 p0.length none, .d (eI (0 : Int)), .d (eB false)]) rfl (by rfl)) (s1 (bxo (k := 2) rfl rfl rfl) (sa rfl (sn ?_)))))))))
 refine sr (s1 (bld rfl (bd56_ )) (s1 (alo (k := 3) zo56 rfl) (s0 (sto rfl rfl (sB (d' := .d (.agg [(eS ([] : List UInt8)), .nils, .nils, (eB false), (eB false), (eI (0 : Int))])) ts56 rfl rfl rfl rfl rfl rfl rfl)) (sn (sr (sm rfl (cq [2, 1] [] (ref01_In_Text_ok p0 (0 : Int) false _ hq375) wf rfl rfl rfl cb92 rfl rfl rfl rfl rfl rfl rfl rfl (s1 (far (k := 0) rfl fo56_0 ts9 rfl) (s0 (sto rfl rfl (sB (d' := .d (.agg [(eS r376), .nils, .nils, (eB false), (eB false), (eI (0 : Int))])) ts9 rfl rfl rfl rfl rfl rfl rfl)) ?_)))))))))
 refine sn (sr (sm rfl (cq [2, 1] [] (ref01_In_Num_ok (1 : Int) p0 r377 r378 _ hq379) wf rfl rfl rfl cb59 rfl rfl rfl rfl rfl rfl rfl rfl (s1 (cvo rfl (cv_u64_i64 un41 un3 r380)) (sa rfl (sn (SC.seqP h0 (fun y => ⟨mk 79 [(2, .ref 0 0 0), (3, .ref 1 0 0), (4, .ref 2 0 0)], [.box (.d (.agg [(eS ([] : List UInt8)), .nils, .nils, (eB false), (eB false), (eI (0 : Int))])), .box (.agg [.slc 3 1 0 p0.length none, .d (eI y.1), .d (eB y.2.1)]), .box (.agg [.d (eS r376), .slc 4 2 0 y.2.2.length none, .d .nils, .d (eB false), .d (eB false), .d (eI (0 : Int))]), .row 1 (List.map eU8 p0) true, .row 2 (List.map eApiPart y.2.2) true]⟩) ?_ ?_)))))))
 ·intro u1_430 h1
  obtain ⟨u2_462, h2, h1⟩ := ob h1
  refine sr (sa rfl (sn (SC.blk (SC.loopB h2 (fun y => ⟨mk 79 [(2, .ref 0 0 0), (3, .ref 1 0 0), (4, .ref 2 0 0), (5, .d (eI (i64u r380))), (6, .d (eI y.1))], [.box (.d (.agg [(eS ([] : List UInt8)), .nils, .nils, (eB false), (eB false), (eI (0 : Int))])), .box (.agg [.slc 3 1 0 p0.length none, .d (eI y.2.1), .d (eB y.2.2.1)]), .box (.agg [.d (eS r376), .slc 4 2 0 y.2.2.2.length none, .d .nils, .d (eB false), .d (eB false), .d (eI (0 : Int))]), .row 1 (List.map eU8 p0) true, .row 2 (List.map eApiPart y.2.2.2) true]⟩) (Wk.trans (Wk.pushE (σ' := [.box (.d (.agg [(eS ([] : List UInt8)), .nils, .nils, (eB false), (eB false), (eI (0 : Int))])), .row 1 (List.map eU8 p0) true, .box (.agg [.slc 1 1 0 p0.length none, .d (eI r381), .d (eB r382)]), .box (.d (.agg [(eS r376), .nils, .nils, (eB false), (eB false), (eI (0 : Int))])), .row 2 (List.map eApiPart ([] : List ApiPart)) true]) (.row 2 [] true) (fun _ hh => by cases hh) rfl) (Wk.trans (Wk.boxE (id := 3) (y := .agg [.d (eS r376), .slc 4 2 0 (([] : List ApiPart).length) none, .d .nils, .d (eB false), .d (eB false), .d (eI (0 : Int))]) (σ' := [.box (.d (.agg [(eS ([] : List UInt8)), .nils, .nils, (eB false), (eB false), (eI (0 : Int))])), .row 1 (List.map eU8 p0) true, .box (.agg [.slc 1 1 0 p0.length none, .d (eI r381), .d (eB r382)]), .box (.agg [.d (eS r376), .slc 4 2 0 (([] : List ApiPart).length) none, .d .nils, .d (eB false), .d (eB false), .d (eI (0 : Int))]), .row 2 (List.map eApiPart ([] : List ApiPart)) true]) rfl (AWs.cons (AW.refl _) (AWs.cons (AW.slcn _ _ _) (AWs.cons (AW.refl _) (AWs.cons (AW.refl _) (AWs.cons (AW.refl _) (AWs.cons (AW.refl _) AWs.nil)))))) rfl) (wc [0, 2, 3, 1, 4] [0, 2, 3] (by kernel_rfl) rfl (by kernel_rfl)))) ?_))))
  intro n474
  rintro ⟨y442, y443, y444, y445⟩ w2_461 h3 hv3
  refine sq (SC.seqP h3 (fun y => ⟨mk 79 [(2, .ref 0 0 0), (3, .ref 1 0 0), (4, .ref 2 0 0), (5, .d (eI (i64u r380))), (6, .d (eI y442)), (29, .d (eB y))], [.box (.d (.agg [(eS ([] : List UInt8)), .nils, .nils, (eB false), (eB false), (eI (0 : Int))])), .box (.agg [.slc 3 1 0 p0.length none, .d (eI y443), .d (eB y444)]), .box (.agg [.d (eS r376), .slc 4 2 0 y445.length none, .d .nils, .d (eB false), .d (eB false), .d (eI (0 : Int))]), .row 1 (List.map eU8 p0) true, .row 2 (List.map eApiPart y445) true]⟩) ?_ ?_)
  ·intro u4_464 h4
   refine SC.region (sm rfl (sm rfl (s1 (bi rfl rfl q_i64_lss) (sm rfl (sp h4 (fun h4 => ?_) (fun h4 => ?_))))))
   ·have q := si h4; subst q
    exact gw rfl (mv rfl) (gw rfl (nkr rfl) (gw rfl (far (k := 2) rfl fo115_2 ts4 rfl) (gw rfl (lod rfl (ld_box ts4 ta4 rfl rfl)) (gw rfl (nt rfl) (s1 (pkt rfl rfl) (SO.nil ((wq rfl))))))))
   ·have q := si h4; subst q
    exact kw rfl (kw rfl (kw rfl (kw rfl (kw rfl (s1 (pkf rfl rfl) (SO.nil ((wq rfl))))))))
  ·rintro y463 h3
   refine cB h3 rfl (fun h3 => ?_) (fun h3 => ?_)
   ·obtain ⟨⟨r466, r467, r468⟩, hq465, h3⟩ := ob h3; obtain ⟨⟨r470, r471, r472⟩, hq469, h3⟩ := ob h3; obtain ⟨hg473, h3⟩ := gd h3
    refine sk (sq (SC.blk (sr (sm rfl (cq [1, 3] [] (ref01_In_Num_ok (1 : Int) p0 y443 y444 _ hq465) wf rfl rfl rfl cb59 rfl rfl rfl rfl rfl rfl rfl rfl (s1 (cvo rfl (cv_u64_i64 un41 un3 r466)) (s1 (bld rfl (bd78_0 (i64u r466))) (s1 (alo (k := 5) zo78 rfl) (s0 (sto rfl rfl (sB (d' := .d (eApiPart (ApiPart.mk (i64u r466) false))) ts78 rfl rfl rfl rfl rfl rfl rfl)) ?_)))))))))
    refine sn (sr (sm rfl (cq [1, 3] [] (ref01_In_Flag_ok p0 r467 r468 _ hq469) wf rfl rfl rfl cb93 rfl rfl rfl rfl rfl rfl rfl rfl (s1 (far (k := 1) rfl fo78_1 ts4 rfl) (s0 (sto rfl rfl (sB (d' := .d (eApiPart (ApiPart.mk (i64u r466) r470))) ts4 rfl rfl rfl rfl rfl rfl rfl)) (sn (SC.region (s1 (far (k := 1) rfl fo56_1 ts54 rfl) (s1 (lod rfl (ld_box ts54 ta54 rfl rfl)) ?_)))))))))
    refine s1 (lod (v := .d (eApiPart (ApiPart.mk (i64u r466) r470))) rfl (ld_box ts78 ta78 rfl rfl)) (s1 (bsn (k := 6) (ds := List.map eApiPart [(ApiPart.mk (i64u r466) r470)]) (off := 0) (l' := [(ApiPart.mk (i64u r466) r470)].length) rfl un54 ei78 rfl rfl (by rfl) rfl rfl rfl) (s1 (app rfl rfl rfl rfl bc54 (aF (f := eApiPart) (xs := y445) (k := 7) rfl un54 ei78 rfl (el_full (xs := [(ApiPart.mk (i64u r466) r470)]) rfl) hg473 rfl)) (s1 (far (k := 1) rfl fo56_1 ts54 rfl) (s0 (sto rfl rfl (sB (d' := .agg [.d (eS r376), .slc 7 2 0 ((y445 ++ [(ApiPart.mk (i64u r466) r470)]).length) none, .d .nils, .d (eB false), .d (eB false), .d (eI (0 : Int))]) ts54 rfl rfl rfl rfl rfl rfl rfl)) (SO.nil ?_)))))
    change SC _ _ _ _ _
    have q := si h3; subst q
    exact SC.region (sm rfl (s1 (bi rfl rfl q_i64_add) (sa rfl (SO.nil (lf (wc [0, 1, 2, 3, 7] [0, 1, 2] (by kernel_rfl) rfl (by kernel_rfl)))))))
   ·have q := si h3; subst q; have q : _ = _ := hv3; subst q; have q := si h1; subst q
    exact SC.exit ((wq rfl))
 ·rintro ⟨y427, y428, y429⟩ h0
  obtain ⟨⟨r476, r477, r478⟩, hq475, h0⟩ := ob h0
  refine sr (sm rfl (cq [1, 3] [] (ref01_In_Num_ok (1 : Int) p0 y427 y428 _ hq475) wf rfl rfl rfl cb59 rfl rfl rfl rfl rfl rfl rfl rfl (s1 (cvo rfl (cv_u64_i64 un41 un3 r476)) (sa rfl (sn (SC.seqP h0 (fun y => ⟨mk 79 [(2, .ref 0 0 0), (3, .ref 1 0 0), (4, .ref 2 0 0)], [.box (.d (.agg [(eS ([] : List UInt8)), .nils, .nils, (eB false), (eB false), (eI (0 : Int))])), .box (.agg [.slc 3 1 0 p0.length none, .d (eI y.1), .d (eB y.2.1)]), .box (.agg [.d (eS r376), .slc 4 2 0 y429.length none, .slc 5 1 0 y.2.2.length none, .d (eB false), .d (eB false), .d (eI (0 : Int))]), .row 1 (List.map eU8 p0) true, .row 2 (List.map eApiPart y429) true, .row 1 (List.map eI y.2.2) true]⟩) ?_ ?_))))))
  ·intro u1_514 h1
   obtain ⟨u2_538, h2, h1⟩ := ob h1
   refine sr (sa rfl (sn (SC.blk (SC.loopB h2 (fun y => ⟨mk 79 [(2, .ref 0 0 0), (3, .ref 1 0 0), (4, .ref 2 0 0), (5, .d (eI (i64u r476))), (8, .d (eI y.1))], [.box (.d (.agg [(eS ([] : List UInt8)), .nils, .nils, (eB false), (eB false), (eI (0 : Int))])), .box (.agg [.slc 3 1 0 p0.length none, .d (eI y.2.1), .d (eB y.2.2.1)]), .box (.agg [.d (eS r376), .slc 4 2 0 y429.length none, .slc 5 1 0 y.2.2.2.length none, .d (eB false), .d (eB false), .d (eI (0 : Int))]), .row 1 (List.map eU8 p0) true, .row 2 (List.map eApiPart y429) true, .row 1 (List.map eI y.2.2.2) true]⟩) (Wk.trans (Wk.pushE (σ' := [.box (.d (.agg [(eS ([] : List UInt8)), .nils, .nils, (eB false), (eB false), (eI (0 : Int))])), .box (.agg [.slc 3 1 0 p0.length none, .d (eI r477), .d (eB r478)]), .box (.agg [.d (eS r376), .slc 4 2 0 y429.length none, .d .nils, .d (eB false), .d (eB false), .d (eI (0 : Int))]), .row 1 (List.map eU8 p0) true, .row 2 (List.map eApiPart y429) true, .row 1 (List.map eI ([] : List Int)) true]) (.row 1 [] true) (fun _ hh => by cases hh) rfl) (Wk.trans (Wk.boxE (id := 2) (y := .agg [.d (eS r376), .slc 4 2 0 y429.length none, .slc 5 1 0 (([] : List Int).length) none, .d (eB false), .d (eB false), .d (eI (0 : Int))]) (σ' := [.box (.d (.agg [(eS ([] : List UInt8)), .nils, .nils, (eB false), (eB false), (eI (0 : Int))])), .box (.agg [.slc 3 1 0 p0.length none, .d (eI r477), .d (eB r478)]), .box (.agg [.d (eS r376), .slc 4 2 0 y429.length none, .slc 5 1 0 (([] : List Int).length) none, .d (eB false), .d (eB false), .d (eI (0 : Int))]), .row 1 (List.map eU8 p0) true, .row 2 (List.map eApiPart y429) true, .row 1 (List.map eI ([] : List Int)) true]) rfl (AWs.cons (AW.refl _) (AWs.cons (AW.refl _) (AWs.cons (AW.slcn _ _ _) (AWs.cons (AW.refl _) (AWs.cons (AW.refl _) (AWs.cons (AW.refl _) AWs.nil)))))) rfl) (wq rfl))) ?_))))
   intro n546
   rintro ⟨y522, y523, y524, y525⟩ w2_537 h3 hv3
   refine sq (SC.seqP h3 (fun y => ⟨mk 79 [(2, .ref 0 0 0), (3, .ref 1 0 0), (4, .ref 2 0 0), (5, .d (eI (i64u r476))), (8, .d (eI y522)), (57, .d (eB y))], [.box (.d (.agg [(eS ([] : List UInt8)), .nils, .nils, (eB false), (eB false), (eI (0 : Int))])), .box (.agg [.slc 3 1 0 p0.length none, .d (eI y523), .d (eB y524)]), .box (.agg [.d (eS r376), .slc 4 2 0 y429.length none, .slc 5 1 0 y525.length none, .d (eB false), .d (eB false), .d (eI (0 : Int))]), .row 1 (List.map eU8 p0) true, .row 2 (List.map eApiPart y429) true, .row 1 (List.map eI y525) true]⟩) ?_ ?_)
   ·intro u4_540 h4
    refine SC.region (sm rfl (sm rfl (s1 (bi rfl rfl q_i64_lss) (sm rfl (sp h4 (fun h4 => ?_) (fun h4 => ?_))))))
    ·have q := si h4; subst q
     exact gw rfl (mv rfl) (gw rfl (nkr rfl) (gw rfl (far (k := 2) rfl fo115_2 ts4 rfl) (gw rfl (lod rfl (ld_box ts4 ta4 rfl rfl)) (gw rfl (nt rfl) (s1 (pkt rfl rfl) (SO.nil ((wq rfl))))))))
    ·have q := si h4; subst q
     exact kw rfl (kw rfl (kw rfl (kw rfl (kw rfl (s1 (pkf rfl rfl) (SO.nil ((wq rfl))))))))
   ·rintro y539 h3
    refine cB h3 rfl (fun h3 => ?_) (fun h3 => ?_)
    ·obtain ⟨⟨r542, r543, r544⟩, hq541, h3⟩ := ob h3; obtain ⟨hg545, h3⟩ := gd h3
     refine sk (sq (SC.blk (SC.draws (by kernel_rfl) (t1 ([], false) (far (k := 2) rfl fo56_2 ts23 rfl) rfl (t1 ([2], false) (lod rfl (ld_box ts23 ta23 rfl rfl)) rfl (t1 ([], false) (mv rfl) rfl (tq [1, 3] [] ([1, 3], true) (ref01_In_Num_ok (1 : Int) p0 y523 y524 _ hq541) wf rfl rfl rfl cb59 rfl rfl rfl rfl rfl rfl rfl rfl rfl (t1 ([], false) (cvo rfl (cv_u64_i64 un41 un3 r542)) rfl (t1 ([6], true) (bsn (k := 6) (ds := List.map eI [(i64u r542)]) (off := 0) (l' := [(i64u r542)].length) rfl un23 ei3 rfl rfl (by rfl) rfl rfl rfl) rfl ?_)))))))))
     refine t1 ([5, 6, 7], true) (app rfl rfl rfl rfl bc23 (aF (f := eI) (xs := y525) (k := 7) rfl un23 ei3 rfl (el_full (xs := [(i64u r542)]) rfl) hg545 rfl)) rfl (t1 ([], false) (far (k := 2) rfl fo56_2 ts23 rfl) rfl (t0 ([2, 7], true) (sto rfl rfl (sB (d' := .agg [.d (eS r376), .slc 4 2 0 y429.length none, .slc 7 1 0 ((y525 ++ [(i64u r542)]).length) none, .d (eB false), .d (eB false), .d (eI (0 : Int))]) ts23 rfl rfl rfl rfl rfl rfl rfl)) rfl (ST.nil (And.intro (by decide +kernel) ?_))))
     change SC _ _ _ _ _
     have q := si h3; subst q
     exact SC.region (sm rfl (s1 (bi rfl rfl q_i64_add) (sa rfl (SO.nil (lf (wc [0, 1, 2, 3, 4, 7] [0, 1, 2] (by kernel_rfl) rfl (by kernel_rfl)))))))
    ·have q := si h3; subst q; have q : _ = _ := hv3; subst q; have q := si h1; subst q
     exact SC.exit ((wq rfl))
  ·rintro ⟨y511, y512, y513⟩ h0
   obtain ⟨⟨r548, r549, r550⟩, hq547, h0⟩ := ob h0; obtain ⟨⟨r552, r553, r554⟩, hq551, h0⟩ := ob h0; obtain ⟨⟨r556, r557, r558⟩, hq555, h0⟩ := ob h0; have q := si h0; subst q
   refine sr (sm rfl (cq [1, 3] [] (ref01_In_Flag_ok p0 y511 y512 _ hq547) wf rfl rfl rfl cb93 rfl rfl rfl rfl rfl rfl rfl rfl (s1 (far (k := 3) rfl fo56_3 ts4 rfl) (s0 (sto rfl rfl (sB (d' := .agg [.d (eS r376), .slc 4 2 0 y429.length none, .slc 5 1 0 y513.length none, .d (eB r548), .d (eB false), .d (eI (0 : Int))]) ts4 rfl rfl rfl rfl rfl rfl rfl)) (sn (sr (sm rfl (cq [1, 3] [] (ref01_In_Flag_ok p0 r549 r550 _ hq551) wf rfl rfl rfl cb93 rfl rfl rfl rfl rfl rfl rfl rfl (s1 (far (k := 4) rfl fo56_4 ts4 rfl) ?_)))))))))
   refine s0 (sto rfl rfl (sB (d' := .agg [.d (eS r376), .slc 4 2 0 y429.length none, .slc 5 1 0 y513.length none, .d (eB r548), .d (eB r552), .d (eI (0 : Int))]) ts4 rfl rfl rfl rfl rfl rfl rfl)) (sn (sr (sm rfl (cq [1, 3] [] (ref01_In_Num_ok (2 : Int) p0 r553 r554 _ hq555) wf rfl rfl rfl cb59 rfl rfl rfl rfl rfl rfl rfl rfl (s1 (cvo rfl (cv_u64_i64 un41 un3 r556)) (s1 (far (k := 5) rfl fo56_5 ts3 rfl) (s0 (sto rfl rfl (sB (d' := .agg [.d (eS r376), .slc 4 2 0 y429.length none, .slc 5 1 0 y513.length none, .d (eB r548), .d (eB r552), .d (eI (i64u r556))]) ts3 rfl rfl rfl rfl rfl rfl rfl)) (sn (sr ?_)))))))))
   exact s1 (lod (v := .agg [.d (eS r376), .slc 4 2 0 y429.length none, .slc 5 1 0 y513.length none, .d (eB r548), .d (eB r552), .d (eI (i64u r556))]) rfl (ld_box ts56 ta56 rfl rfl)) (s0 (sto rfl rfl (sB (d' := .agg [.d (eS r376), .slc 4 2 0 y429.length none, .slc 5 1 0 y513.length none, .d (eB r548), .d (eB r552), .d (eI (i64u r556))]) ts56 rfl rfl rfl rfl rfl rfl rfl)) (sn (SC.ret (finR (wc (e' := [(2, .ref 0 0 0)]) [0, 4, 5] [0] (by kernel_rfl) rfl (by kernel_rfl)) (lresC rfl (ld_box ts56 ta56 rfl rfl) lresN) rfl))))
theorem ref18_readIndex_ok_f (p0 : List UInt8) (r : (List UInt8) × (List ApiPart) × (List Int) × Bool × Bool × Int) (h0 : ref18_readIndex p0 = some r) : CallAt Tryz.prog 61 [.d (eS p0)] [] (.d (eApiIndex (ApiIndex.mk r.1 r.2.1 r.2.2.1 r.2.2.2.1 r.2.2.2.2.1 r.2.2.2.2.2))) [.box (.agg [.d (eS r.1), .slc 1 2 0 r.2.1.length none, .slc 2 1 0 r.2.2.1.length none, .d (eB r.2.2.2.1), .d (eB r.2.2.2.2.1), .d (eI r.2.2.2.2.2)]), .row 2 (List.map eApiPart r.2.1) false, .row 1 (List.map eI r.2.2.1) false] :=
 CallAt.frzA (ref18_readIndex_ok p0 r h0) (frzs_d rfl (frzs_slc (frz_full rfl rfl) (frzs_slc (frz_full rfl rfl) (frzs_d rfl (frzs_d rfl (frzs_d rfl frzs_nil))))))
noncomputable def ref18_readTable (p0 : List ApiPair) : Option (Int × (List UInt8) × (List ApiColumn) × (List Int) × (List ApiIndex) × Int) :=
 Option.bind (α := (List UInt8))
 (Option.bind (getI p0 (0 : Int)) fun v486 =>
 bif (decide ((v486.Key.length : Int) > (0 : Int))) then
 Option.bind (getI p0 (0 : Int)) fun v487 =>
 bif decide (0 ≤ (1 : Int) ∧ (1 : Int) ≤ (v487.Key.length : Int)) then
 some (List.drop (1 : Int).toNat v487.Key)
 else none
 else
 some ([] : List UInt8))
 fun y484 =>
 Option.bind (getI p0 (0 : Int)) fun v489 =>
 Option.bind (ref01_In_Num (2 : Int) v489.Val (0 : Int) false) fun (r491, r492, r493) =>
 Option.bind (ref01_In_Num (1 : Int) v489.Val r492 r493) fun (r495, r496, r497) =>
 Option.bind (ref01_In_Num (1 : Int) v489.Val r496 r497) fun (r499, r500, r501) =>
 Option.bind (α := (List Int) × Int × Bool)
 (Option.bind (α := (List Int) × Int × Bool)
 (loop (Y := Int × (List Int) × Int × Bool) (W := (List Int) × Int × Bool) (fun (y545, y546, y547, y548) =>
 Option.bind (α := Bool)
 (bif (decide (y545 < (i64u r499))) then
 some (!y548)
 else
 some false)
 fun y562 =>
 bif y562 then
 Option.bind (ref01_In_Num (1 : Int) v489.Val y547 y548) fun (r565, r566, r567) =>
 bif decide ((y546.length + [(i64u r565)].length) * 8 ≤ room) then
 some (Sum.inl ((w64 (y545 + (1 : Int))), (y546 ++ [(i64u r565)]), r566, r567))
 else none
 else
 some (Sum.inr (y546, y547, y548))) ((0 : Int), ([] : List Int), r500, r501))
 (fun e => some e))
 fun (y534, y535, y536) =>
 Option.bind (ref01_In_Num (1 : Int) v489.Val y535 y536) fun (r571, r572, r573) =>
 Option.bind (α := Int × (List ApiColumn))
 (Option.bind (α := Int × (List ApiColumn))
 (loop (Y := Int × Int × (List ApiColumn)) (W := Int × (List ApiColumn)) (fun (y610, y611, y612) =>
 Option.bind (α := Bool)
 (bif (decide (y611 < (i64u r495))) then
 some (decide (y610 < (p0.length : Int)))
 else
 some false)
 fun y624 =>
 bif y624 then
 Option.bind (getI p0 y610) fun v626 =>
 Option.bind (ref18_readColumn v626.Val) fun r628 =>
 bif decide ((y612.length + [r628].length) * 72 ≤ room) then
 some (Sum.inl ((w64 (y610 + (1 : Int))), (w64 (y611 + (1 : Int))), (y612 ++ [r628])))
 else none
 else
 some (Sum.inr (y610, y612))) ((1 : Int), (0 : Int), ([] : List ApiColumn)))
 (fun e => some e))
 fun (y601, y602) =>
 Option.bind (α := Int × (List ApiIndex))
 (Option.bind (α := Int × (List ApiIndex))
 (loop (Y := Int × Int × (List ApiIndex)) (W := Int × (List ApiIndex)) (fun (y687, y688, y689) =>
 Option.bind (α := Bool)
 (bif (decide (y688 < (i64u r571))) then
 some (decide (y687 < (p0.length : Int)))
 else
 some false)
 fun y706 =>
 bif y706 then
 Option.bind (getI p0 y687) fun v708 =>
 Option.bind (ref18_readIndex v708.Val) fun (r710, r711, r712, r713, r714, r715) =>
 bif decide ((y689.length + [(ApiIndex.mk r710 r711 r712 r713 r714 r715)].length) * 80 ≤ room) then
 some (Sum.inl ((w64 (y687 + (1 : Int))), (w64 (y688 + (1 : Int))), (y689 ++ [(ApiIndex.mk r710 r711 r712 r713 r714 r715)])))
 else none
 else
 some (Sum.inr (y687, y689))) (y601, (0 : Int), ([] : List ApiIndex)))
 (fun e => some e))
 fun (y673, y674) =>
 some (y673, y484, y602, y534, y674, (i64u r491))
theorem ref18_readTable_ok (p0 : List ApiPair) (r : Int × (List UInt8) × (List ApiColumn) × (List Int) × (List ApiIndex) × Int) (h0 : ref18_readTable p0 = some r) : CallAt Tryz.prog 31 [.d ((eL 2 eApiPair) p0)] [] (.tuple [.agg [.d (eS r.2.1), .slc 1 7 0 r.2.2.1.length none, .slc 2 1 0 r.2.2.2.1.length none, .slc 3 6 0 r.2.2.2.2.1.length none, .d (eI r.2.2.2.2.2)], .d (eI r.1)]) [.box (.agg [.d (eS r.2.1), .slc 1 7 0 r.2.2.1.length none, .slc 2 1 0 r.2.2.2.1.length none, .slc 3 6 0 r.2.2.2.2.1.length none, .d (eI r.2.2.2.2.2)]), .row 7 (List.map eApiColumn r.2.2.1) true, .row 1 (List.map eI r.2.2.2.1) true, .row 6 (List.map eApiIndex r.2.2.2.2.1) true] := by
 unfold ref18_readTable at h0
 refine fn0 [0] Tryz.func31 rfl rfl rfl rfl rfl ?_
 refine sr (s1 (alo (k := 0) zo26 rfl) (sa rfl (sn (sr (s1 (bld rfl (bd26_ )) (s1 (alo (k := 1) zo26 rfl) (s0 (sto rfl rfl (sB (d' := .d (.agg [(eS ([] : List UInt8)), .nils, .nils, .nils, (eI (0 : Int))])) ts26 rfl rfl rfl rfl rfl rfl rfl)) (sn (SC.seqP h0 (fun y => ⟨mk 116 [(0, .d ((eL 2 eApiPair) p0)), (2, .ref 0 0 0), (4, .ref 1 0 0)], [.box (.d (.agg [(eS ([] : List UInt8)), .nils, .nils, .nils, (eI (0 : Int))])), .box (.d (.agg [(eS y), .nils, .nils, .nils, (eI (0 : Int))]))]⟩) ?_ ?_)))))))))
 ·intro u1_485 h1
  obtain ⟨v486, hv486, h1⟩ := ob h1
  refine sr (sm rfl (s1 (ial rfl rfl un29 ts49 (getI_some hv486).1 (map_get (getI_some hv486).2) rfl) (s1 (fap rfl fo49_0 ts9 rfl) (s1 (lod rfl (ld_rop ts9 ta9 rfl)) (s1 (len rfl rfl rfl (len_str un9)) (s1 (bi rfl rfl q_i64_gtr) (sn (cB h1 rfl (fun h1 => ?_) (fun h1 => ?_)))))))))
  ·obtain ⟨v487, hv487, h1⟩ := ob h1; obtain ⟨hg488, h1⟩ := gd h1; have q := si h1; subst q
   exact SC.region (sm rfl (s1 (ial rfl rfl un29 ts49 (getI_some hv487).1 (map_get (getI_some hv487).2) rfl) (s1 (fap rfl fo49_0 ts9 rfl) (s1 (lod rfl (ld_rop ts9 ta9 rfl)) (s1 (slo rfl rfl rfl rfl (sl_str_lo un9 hg488)) (s1 (far (k := 0) rfl fo26_0 ts9 rfl) (s0 (sto rfl rfl (sB (d' := .d (.agg [(eS (List.drop (1 : Int).toNat v487.Key)), .nils, .nils, .nils, (eI (0 : Int))])) ts9 rfl rfl rfl rfl rfl rfl rfl)) (SO.nil ((wq rfl))))))))))
  ·have q := si h1; subst q
   exact SC.skip ((wq rfl))
 ·rintro y484 h0
  obtain ⟨v489, hv489, h0⟩ := ob h0; obtain ⟨⟨r491, r492, r493⟩, hq490, h0⟩ := ob h0; obtain ⟨⟨r495, r496, r497⟩, hq494, h0⟩ := ob h0; obtain ⟨⟨r499, r500, r501⟩, hq498, h0⟩ := ob h0
  refine sr (sm rfl (s1 (ial rfl rfl un29 ts49 (getI_some hv489).1 (map_get (getI_some hv489).2) rfl) (s1 (fap rfl fo49_1 ts9 rfl) (s1 (lod rfl (ld_rop ts9 ta9 rfl)) (s1 (cvs (s := v489.Val) (k := 2) rfl un9 un57 un5 ts5 rfl) (s1 (bld (v := .agg [.slc 2 1 0 v489.Val.length none, .d (eI (0 : Int)), .d (eB false)]) rfl (by rfl)) (s1 (bxo (k := 3) rfl rfl rfl) (sa rfl (sn ?_)))))))))
  refine sr (sm rfl (cq [3, 2] [] (ref01_In_Num_ok (2 : Int) v489.Val (0 : Int) false _ hq490) wf rfl rfl rfl cb59 rfl rfl rfl rfl rfl rfl rfl rfl (s1 (cvo rfl (cv_u64_i64 un41 un3 r491)) (s1 (far (k := 4) rfl fo26_4 ts3 rfl) (s0 (sto rfl rfl (sB (d' := .d (.agg [(eS y484), .nils, .nils, .nils, (eI (i64u r491))])) ts3 rfl rfl rfl rfl rfl rfl rfl)) (sn (sr (sm rfl (cq [3, 2] [] (ref01_In_Num_ok (1 : Int) v489.Val r492 r493 _ hq494) wf rfl rfl rfl cb59 rfl rfl rfl rfl rfl rfl rfl rfl ?_)))))))))
  refine s1 (cvo rfl (cv_u64_i64 un41 un3 r495)) (sa rfl (sn (sr (sm rfl (cq [3, 2] [] (ref01_In_Num_ok (1 : Int) v489.Val r496 r497 _ hq498) wf rfl rfl rfl cb59 rfl rfl rfl rfl rfl rfl rfl rfl (s1 (cvo rfl (cv_u64_i64 un41 un3 r499)) (sa rfl (sn (SC.seqP h0 (fun y => ⟨mk 116 [(0, .d ((eL 2 eApiPair) p0)), (2, .ref 0 0 0), (4, .ref 1 0 0), (5, .ref 2 0 0), (6, .d (eI (i64u r495)))], [.box (.d (.agg [(eS ([] : List UInt8)), .nils, .nils, .nils, (eI (0 : Int))])), .box (.agg [.d (eS y484), .d .nils, .slc 3 1 0 y.1.length none, .d .nils, .d (eI (i64u r491))]), .box (.agg [.slc 4 1 0 v489.Val.length none, .d (eI y.2.1), .d (eB y.2.2)]), .row 1 (List.map eI y.1) true, .row 1 (List.map eU8 v489.Val) true]⟩) ?_ ?_)))))))))
  ·intro u1_537 h1
   obtain ⟨u2_561, h2, h1⟩ := ob h1
   refine sr (sa rfl (sn (SC.blk (SC.loopB h2 (fun y => ⟨mk 116 [(0, .d ((eL 2 eApiPair) p0)), (2, .ref 0 0 0), (4, .ref 1 0 0), (5, .ref 2 0 0), (6, .d (eI (i64u r495))), (7, .d (eI (i64u r499))), (8, .d (eI y.1))], [.box (.d (.agg [(eS ([] : List UInt8)), .nils, .nils, .nils, (eI (0 : Int))])), .box (.agg [.d (eS y484), .d .nils, .slc 3 1 0 y.2.1.length none, .d .nils, .d (eI (i64u r491))]), .box (.agg [.slc 4 1 0 v489.Val.length none, .d (eI y.2.2.1), .d (eB y.2.2.2)]), .row 1 (List.map eI y.2.1) true, .row 1 (List.map eU8 v489.Val) true]⟩) (Wk.trans (Wk.pushE (σ' := [.box (.d (.agg [(eS ([] : List UInt8)), .nils, .nils, .nils, (eI (0 : Int))])), .box (.d (.agg [(eS y484), .nils, .nils, .nils, (eI (i64u r491))])), .row 1 (List.map eU8 v489.Val) true, .box (.agg [.slc 2 1 0 v489.Val.length none, .d (eI r500), .d (eB r501)]), .row 1 (List.map eI ([] : List Int)) true]) (.row 1 [] true) (fun _ hh => by cases hh) rfl) (Wk.trans (Wk.boxE (id := 1) (y := .agg [.d (eS y484), .d .nils, .slc 4 1 0 (([] : List Int).length) none, .d .nils, .d (eI (i64u r491))]) (σ' := [.box (.d (.agg [(eS ([] : List UInt8)), .nils, .nils, .nils, (eI (0 : Int))])), .box (.agg [.d (eS y484), .d .nils, .slc 4 1 0 (([] : List Int).length) none, .d .nils, .d (eI (i64u r491))]), .row 1 (List.map eU8 v489.Val) true, .box (.agg [.slc 2 1 0 v489.Val.length none, .d (eI r500), .d (eB r501)]), .row 1 (List.map eI ([] : List Int)) true]) rfl (AWs.cons (AW.refl _) (AWs.cons (AW.refl _) (AWs.cons (AW.slcn _ _ _) (AWs.cons (AW.refl _) (AWs.cons (AW.refl _) AWs.nil))))) rfl) (wc [0, 1, 3, 4, 2] [0, 1, 3] (by kernel_rfl) rfl (by kernel_rfl)))) ?_))))
   intro n569
   rintro ⟨y545, y546, y547, y548⟩ w2_560 h3 hv3
   refine sq (SC.seqP h3 (fun y => ⟨mk 116 [(0, .d ((eL 2 eApiPair) p0)), (2, .ref 0 0 0), (4, .ref 1 0 0), (5, .ref 2 0 0), (6, .d (eI (i64u r495))), (7, .d (eI (i64u r499))), (8, .d (eI y545)), (52, .d (eB y))], [.box (.d (.agg [(eS ([] : List UInt8)), .nils, .nils, .nils, (eI (0 : Int))])), .box (.agg [.d (eS y484), .d .nils, .slc 3 1 0 y546.length none, .d .nils, .d (eI (i64u r491))]), .box (.agg [.slc 4 1 0 v489.Val.length none, .d (eI y547), .d (eB y548)]), .row 1 (List.map eI y546) true, .row 1 (List.map eU8 v489.Val) true]⟩) ?_ ?_)
   ·intro u4_563 h4
    refine SC.region (sm rfl (sm rfl (s1 (bi rfl rfl q_i64_lss) (sm rfl (sp h4 (fun h4 => ?_) (fun h4 => ?_))))))
    ·have q := si h4; subst q
     exact gw rfl (mv rfl) (gw rfl (nkr rfl) (gw rfl (far (k := 2) rfl fo115_2 ts4 rfl) (gw rfl (lod rfl (ld_box ts4 ta4 rfl rfl)) (gw rfl (nt rfl) (s1 (pkt rfl rfl) (SO.nil ((wq rfl))))))))
    ·have q := si h4; subst q
     exact kw rfl (kw rfl (kw rfl (kw rfl (kw rfl (s1 (pkf rfl rfl) (SO.nil ((wq rfl))))))))
   ·rintro y562 h3
    refine cB h3 rfl (fun h3 => ?_) (fun h3 => ?_)
    ·obtain ⟨⟨r565, r566, r567⟩, hq564, h3⟩ := ob h3; obtain ⟨hg568, h3⟩ := gd h3
     refine sk (sq (SC.blk (SC.draws (by kernel_rfl) (t1 ([], false) (far (k := 2) rfl fo26_2 ts23 rfl) rfl (t1 ([1], false) (lod rfl (ld_box ts23 ta23 rfl rfl)) rfl (t1 ([], false) (mv rfl) rfl (tq [2, 4] [] ([2, 4], true) (ref01_In_Num_ok (1 : Int) v489.Val y547 y548 _ hq564) wf rfl rfl rfl cb59 rfl rfl rfl rfl rfl rfl rfl rfl rfl (t1 ([], false) (cvo rfl (cv_u64_i64 un41 un3 r565)) rfl (t1 ([5], true) (bsn (k := 5) (ds := List.map eI [(i64u r565)]) (off := 0) (l' := [(i64u r565)].length) rfl un23 ei3 rfl rfl (by rfl) rfl rfl rfl) rfl ?_)))))))))
     refine t1 ([3, 5, 6], true) (app rfl rfl rfl rfl bc23 (aF (f := eI) (xs := y546) (k := 6) rfl un23 ei3 rfl (el_full (xs := [(i64u r565)]) rfl) hg568 rfl)) rfl (t1 ([], false) (far (k := 2) rfl fo26_2 ts23 rfl) rfl (t0 ([1, 6], true) (sto rfl rfl (sB (d' := .agg [.d (eS y484), .d .nils, .slc 6 1 0 ((y546 ++ [(i64u r565)]).length) none, .d .nils, .d (eI (i64u r491))]) ts23 rfl rfl rfl rfl rfl rfl rfl)) rfl (ST.nil (And.intro (by decide +kernel) ?_))))
     change SC _ _ _ _ _
     have q := si h3; subst q
     exact SC.region (sm rfl (s1 (bi rfl rfl q_i64_add) (sa rfl (SO.nil (lf (wc [0, 1, 2, 6, 4] [0, 1, 2] (by kernel_rfl) rfl (by kernel_rfl)))))))
    ·have q := si h3; subst q; have q : _ = _ := hv3; subst q; have q := si h1; subst q
     exact SC.exit ((wq rfl))
  ·rintro ⟨y534, y535, y536⟩ h0
   obtain ⟨⟨r571, r572, r573⟩, hq570, h0⟩ := ob h0
   refine sr (sm rfl (cq [2, 4] [] (ref01_In_Num_ok (1 : Int) v489.Val y535 y536 _ hq570) wf rfl rfl rfl cb59 rfl rfl rfl rfl rfl rfl rfl rfl (s1 (cvo rfl (cv_u64_i64 un41 un3 r571)) (sa rfl (sn (sr (sa rfl (sn (SC.seqP h0 (fun y => ⟨mk 116 [(0, .d ((eL 2 eApiPair) p0)), (2, .ref 0 0 0), (4, .ref 1 0 0), (9, .d (eI (i64u r571))), (10, .d (eI y.1))], [.box (.d (.agg [(eS ([] : List UInt8)), .nils, .nils, .nils, (eI (0 : Int))])), .box (.agg [.d (eS y484), .slc 2 7 0 y.2.length none, .slc 3 1 0 y534.length none, .d .nils, .d (eI (i64u r491))]), .row 7 (List.map eApiColumn y.2) true, .row 1 (List.map eI y534) true]⟩) ?_ ?_)))))))))
   ·intro u1_603 h1
    obtain ⟨u2_623, h2, h1⟩ := ob h1
    refine sr (sa rfl (sn (SC.blk (SC.loopB h2 (fun y => ⟨mk 116 [(0, .d ((eL 2 eApiPair) p0)), (2, .ref 0 0 0), (4, .ref 1 0 0), (6, .d (eI (i64u r495))), (9, .d (eI (i64u r571))), (10, .d (eI y.1)), (11, .d (eI y.2.1))], [.box (.d (.agg [(eS ([] : List UInt8)), .nils, .nils, .nils, (eI (0 : Int))])), .box (.agg [.d (eS y484), .slc 2 7 0 y.2.2.length none, .slc 3 1 0 y534.length none, .d .nils, .d (eI (i64u r491))]), .row 7 (List.map eApiColumn y.2.2) true, .row 1 (List.map eI y534) true]⟩) (Wk.trans (Wk.pushE (σ' := [.box (.d (.agg [(eS ([] : List UInt8)), .nils, .nils, .nils, (eI (0 : Int))])), .box (.agg [.d (eS y484), .d .nils, .slc 3 1 0 y534.length none, .d .nils, .d (eI (i64u r491))]), .box (.agg [.slc 4 1 0 v489.Val.length none, .d (eI r572), .d (eB r573)]), .row 1 (List.map eI y534) true, .row 1 (List.map eU8 v489.Val) true, .row 7 (List.map eApiColumn ([] : List ApiColumn)) true]) (.row 7 [] true) (fun _ hh => by cases hh) rfl) (Wk.trans (Wk.boxE (id := 1) (y := .agg [.d (eS y484), .slc 5 7 0 (([] : List ApiColumn).length) none, .slc 3 1 0 y534.length none, .d .nils, .d (eI (i64u r491))]) (σ' := [.box (.d (.agg [(eS ([] : List UInt8)), .nils, .nils, .nils, (eI (0 : Int))])), .box (.agg [.d (eS y484), .slc 5 7 0 (([] : List ApiColumn).length) none, .slc 3 1 0 y534.length none, .d .nils, .d (eI (i64u r491))]), .box (.agg [.slc 4 1 0 v489.Val.length none, .d (eI r572), .d (eB r573)]), .row 1 (List.map eI y534) true, .row 1 (List.map eU8 v489.Val) true, .row 7 (List.map eApiColumn ([] : List ApiColumn)) true]) rfl (AWs.cons (AW.refl _) (AWs.cons (AW.slcn _ _ _) (AWs.cons (AW.refl _) (AWs.cons (AW.refl _) (AWs.cons (AW.refl _) AWs.nil))))) rfl) (wc [0, 1, 5, 3] [0, 1] (by kernel_rfl) rfl (by kernel_rfl)))) ?_))))
    intro n630
    rintro ⟨y610, y611, y612⟩ w2_622 h3 hv3
    refine sq (SC.seqP h3 (fun y => ⟨mk 116 [(0, .d ((eL 2 eApiPair) p0)), (2, .ref 0 0 0), (4, .ref 1 0 0), (6, .d (eI (i64u r495))), (9, .d (eI (i64u r571))), (10, .d (eI y610)), (11, .d (eI y611)), (74, .d (eB y))], [.box (.d (.agg [(eS ([] : List UInt8)), .nils, .nils, .nils, (eI (0 : Int))])), .box (.agg [.d (eS y484), .slc 2 7 0 y612.length none, .slc 3 1 0 y534.length none, .d .nils, .d (eI (i64u r491))]), .row 7 (List.map eApiColumn y612) true, .row 1 (List.map eI y534) true]⟩) ?_ ?_)
    ·intro u4_625 h4
     refine SC.region (sm rfl (sm rfl (s1 (bi rfl rfl q_i64_lss) (sm rfl (sp h4 (fun h4 => ?_) (fun h4 => ?_))))))
     ·have q := si h4; subst q
      exact gw rfl (mv rfl) (gw rfl (mv rfl) (gw rfl (len rfl rfl rfl (len_lst un29)) (gw rfl (bi rfl rfl q_i64_lss) (s1 (pkt rfl rfl) (SO.nil ((wq rfl)))))))
     ·have q := si h4; subst q
      exact kw rfl (kw rfl (kw rfl (kw rfl (s1 (pkf rfl rfl) (SO.nil ((wq rfl)))))))
    ·rintro y624 h3
     refine cB h3 rfl (fun h3 => ?_) (fun h3 => ?_)
     ·obtain ⟨v626, hv626, h3⟩ := ob h3; obtain ⟨r628, hq627, h3⟩ := ob h3; obtain ⟨hg629, h3⟩ := gd h3
      refine sk (sq (SC.blk (sd (by kernel_rfl) (t1 ([], false) (far (k := 1) rfl fo26_1 ts22 rfl) rfl (t1 ([1], false) (lod rfl (ld_box ts22 ta22 rfl rfl)) rfl (t1 ([], false) (mv rfl) rfl (t1 ([], false) (mv rfl) rfl (t1 ([], false) (ial rfl rfl un29 ts49 (getI_some hv626).1 (map_get (getI_some hv626).2) rfl) rfl (t1 ([], false) (fap rfl fo49_1 ts9 rfl) rfl ?_)))))))))
      refine t1 ([], false) (lod rfl (ld_rop ts9 ta9 rfl)) rfl (tq [] [4] ([4], true) (ref18_readColumn_ok v626.Val _ hq627) wf rfl rfl rfl cb60 rfl rfl rfl rfl rfl rfl rfl rfl rfl (t1 ([5], true) (bsn (k := 5) (ds := List.map eApiColumn [r628]) (off := 0) (l' := [r628].length) rfl un22 ei45 rfl rfl (by rfl) rfl rfl rfl) rfl (t1 ([2, 5, 6], true) (app rfl rfl rfl rfl bc22 (aF (f := eApiColumn) (xs := y612) (k := 6) rfl un22 ei45 rfl (el_full (xs := [r628]) rfl) hg629 rfl)) rfl (t1 ([], false) (far (k := 1) rfl fo26_1 ts22 rfl) rfl (t0 ([1, 6], true) (sto rfl rfl (sB (d' := .agg [.d (eS y484), .slc 6 7 0 ((y612 ++ [r628]).length) none, .slc 3 1 0 y534.length none, .d .nils, .d (eI (i64u r491))]) ts22 rfl rfl rfl rfl rfl rfl rfl)) rfl (tn (by decide +kernel) (SC.region (sm rfl (s1 (bi rfl rfl q_i64_add) ?_)))))))))
      refine sa rfl (SO.nil ?_)
      change SC _ _ _ _ _
      have q := si h3; subst q
      exact SC.region (sm rfl (s1 (bi rfl rfl q_i64_add) (sa rfl (SO.nil (lf (wc [0, 1, 6, 3] [0, 1] (by kernel_rfl) rfl (by kernel_rfl)))))))
     ·have q := si h3; subst q; have q : _ = _ := hv3; subst q; have q := si h1; subst q
      exact SC.exit ((wq rfl))
   ·rintro ⟨y601, y602⟩ h0
    refine SC.seqP h0 (fun y => ⟨mk 116 [(2, .ref 0 0 0), (4, .ref 1 0 0), (10, .d (eI y.1))], [.box (.d (.agg [(eS ([] : List UInt8)), .nils, .nils, .nils, (eI (0 : Int))])), .box (.agg [.d (eS y484), .slc 2 7 0 y602.length none, .slc 3 1 0 y534.length none, .slc 4 6 0 y.2.length none, .d (eI (i64u r491))]), .row 7 (List.map eApiColumn y602) true, .row 1 (List.map eI y534) true, .row 6 (List.map eApiIndex y.2) true]⟩) ?_ ?_
    ·intro u1_675 h1
     obtain ⟨u2_705, h2, h1⟩ := ob h1
     refine sr (sa rfl (sn (SC.blk (SC.loopB h2 (fun y => ⟨mk 116 [(0, .d ((eL 2 eApiPair) p0)), (2, .ref 0 0 0), (4, .ref 1 0 0), (9, .d (eI (i64u r571))), (10, .d (eI y.1)), (12, .d (eI y.2.1))], [.box (.d (.agg [(eS ([] : List UInt8)), .nils, .nils, .nils, (eI (0 : Int))])), .box (.agg [.d (eS y484), .slc 2 7 0 y602.length none, .slc 3 1 0 y534.length none, .slc 4 6 0 y.2.2.length none, .d (eI (i64u r491))]), .row 7 (List.map eApiColumn y602) true, .row 1 (List.map eI y534) true, .row 6 (List.map eApiIndex y.2.2) true]⟩) (Wk.trans (Wk.pushE (σ' := [.box (.d (.agg [(eS ([] : List UInt8)), .nils, .nils, .nils, (eI (0 : Int))])), .box (.agg [.d (eS y484), .slc 2 7 0 y602.length none, .slc 3 1 0 y534.length none, .d .nils, .d (eI (i64u r491))]), .row 7 (List.map eApiColumn y602) true, .row 1 (List.map eI y534) true, .row 6 (List.map eApiIndex ([] : List ApiIndex)) true]) (.row 6 [] true) (fun _ hh => by cases hh) rfl) (Wk.trans (Wk.boxE (id := 1) (y := .agg [.d (eS y484), .slc 2 7 0 y602.length none, .slc 3 1 0 y534.length none, .slc 4 6 0 (([] : List ApiIndex).length) none, .d (eI (i64u r491))]) (σ' := [.box (.d (.agg [(eS ([] : List UInt8)), .nils, .nils, .nils, (eI (0 : Int))])), .box (.agg [.d (eS y484), .slc 2 7 0 y602.length none, .slc 3 1 0 y534.length none, .slc 4 6 0 (([] : List ApiIndex).length) none, .d (eI (i64u r491))]), .row 7 (List.map eApiColumn y602) true, .row 1 (List.map eI y534) true, .row 6 (List.map eApiIndex ([] : List ApiIndex)) true]) rfl (AWs.cons (AW.refl _) (AWs.cons (AW.refl _) (AWs.cons (AW.refl _) (AWs.cons (AW.slcn _ _ _) (AWs.cons (AW.refl _) AWs.nil))))) rfl) (wq rfl))) ?_))))
     intro n717
     rintro ⟨y687, y688, y689⟩ w2_704 h3 hv3
     refine sq (SC.seqP h3 (fun y => ⟨mk 116 [(0, .d ((eL 2 eApiPair) p0)), (2, .ref 0 0 0), (4, .ref 1 0 0), (9, .d (eI (i64u r571))), (10, .d (eI y687)), (12, .d (eI y688)), (98, .d (eB y))], [.box (.d (.agg [(eS ([] : List UInt8)), .nils, .nils, .nils, (eI (0 : Int))])), .box (.agg [.d (eS y484), .slc 2 7 0 y602.length none, .slc 3 1 0 y534.length none, .slc 4 6 0 y689.length none, .d (eI (i64u r491))]), .row 7 (List.map eApiColumn y602) true, .row 1 (List.map eI y534) true, .row 6 (List.map eApiIndex y689) true]⟩) ?_ ?_)
     ·intro u4_707 h4
      refine SC.region (sm rfl (sm rfl (s1 (bi rfl rfl q_i64_lss) (sm rfl (sp h4 (fun h4 => ?_) (fun h4 => ?_))))))
      ·have q := si h4; subst q
       exact gw rfl (mv rfl) (gw rfl (mv rfl) (gw rfl (len rfl rfl rfl (len_lst un29)) (gw rfl (bi rfl rfl q_i64_lss) (s1 (pkt rfl rfl) (SO.nil ((wq rfl)))))))
      ·have q := si h4; subst q
       exact kw rfl (kw rfl (kw rfl (kw rfl (s1 (pkf rfl rfl) (SO.nil ((wq rfl)))))))
     ·rintro y706 h3
      refine cB h3 rfl (fun h3 => ?_) (fun h3 => ?_)
      ·obtain ⟨v708, hv708, h3⟩ := ob h3; obtain ⟨⟨r710, r711, r712, r713, r714, r715⟩, hq709, h3⟩ := ob h3; obtain ⟨hg716, h3⟩ := gd h3
       refine sk (sq (SC.blk (sd (by kernel_rfl) (t1 ([], false) (far (k := 3) rfl fo26_3 ts24 rfl) rfl (t1 ([1], false) (lod rfl (ld_box ts24 ta24 rfl rfl)) rfl (t1 ([], false) (mv rfl) rfl (t1 ([], false) (mv rfl) rfl (t1 ([], false) (ial rfl rfl un29 ts49 (getI_some hv708).1 (map_get (getI_some hv708).2) rfl) rfl (t1 ([], false) (fap rfl fo49_1 ts9 rfl) rfl ?_)))))))))
       refine t1 ([], false) (lod rfl (ld_rop ts9 ta9 rfl)) rfl (tq [] [5, 6, 7] ([5, 6, 7], true) (ref18_readIndex_ok_f v708.Val _ hq709) wf rfl rfl rfl cb61 rfl rfl rfl rfl rfl rfl rfl rfl rfl (t1 ([8], true) (bsn (k := 8) (ds := List.map eApiIndex [(ApiIndex.mk r710 r711 r712 r713 r714 r715)]) (off := 0) (l' := [(ApiIndex.mk r710 r711 r712 r713 r714 r715)].length) rfl un24 ei56 rfl rfl (by rfl) rfl rfl rfl) rfl (t1 ([4, 8, 9], true) (app rfl rfl rfl rfl bc24 (aF (f := eApiIndex) (xs := y689) (k := 9) rfl un24 ei56 rfl (el_full (xs := [(ApiIndex.mk r710 r711 r712 r713 r714 r715)]) rfl) hg716 rfl)) rfl (t1 ([], false) (far (k := 3) rfl fo26_3 ts24 rfl) rfl (t0 ([1, 9], true) (sto rfl rfl (sB (d' := .agg [.d (eS y484), .slc 2 7 0 y602.length none, .slc 3 1 0 y534.length none, .slc 9 6 0 ((y689 ++ [(ApiIndex.mk r710 r711 r712 r713 r714 r715)]).length) none, .d (eI (i64u r491))]) ts24 rfl rfl rfl rfl rfl rfl rfl)) rfl (tn (by decide +kernel) (SC.region (sm rfl (s1 (bi rfl rfl q_i64_add) ?_)))))))))
       refine sa rfl (SO.nil ?_)
       change SC _ _ _ _ _
       have q := si h3; subst q
       exact SC.region (sm rfl (s1 (bi rfl rfl q_i64_add) (sa rfl (SO.nil (lf (wc [0, 1, 2, 3, 9] [0, 1] (by kernel_rfl) rfl (by kernel_rfl)))))))
      ·have q := si h3; subst q; have q : _ = _ := hv3; subst q; have q := si h1; subst q
       exact SC.exit ((wq rfl))
    ·rintro ⟨y673, y674⟩ h0
     have q := si h0; subst q
     exact sr (s1 (lod (v := .agg [.d (eS y484), .slc 2 7 0 y602.length none, .slc 3 1 0 y534.length none, .slc 4 6 0 y674.length none, .d (eI (i64u r491))]) rfl (ld_box ts26 ta26 rfl rfl)) (sm rfl (s0 (sto rfl rfl (sB (d' := .agg [.d (eS y484), .slc 2 7 0 y602.length none, .slc 3 1 0 y534.length none, .slc 4 6 0 y674.length none, .d (eI (i64u r491))]) ts26 rfl rfl rfl rfl rfl rfl rfl)) (sa rfl (sn (SC.ret (finR (wc (e' := [(2, .ref 0 0 0), (3, .d (eI y673))]) [0, 2, 3, 4] [0] (by kernel_rfl) rfl (by kernel_rfl)) (lresC rfl (ld_box ts26 ta26 rfl rfl) (lresT rfl lresN)) rfl)))))))
noncomputable def ref06_Name (p0 : List UInt8) : Option Bool :=
 Option.bind (α := Bool)
 (bif (decide ((p0.length : Int) < (1 : Int))) then
 some true
 else
 bif (decide ((p0.length : Int) > (16 : Int))) then
 some true
 else
 Option.bind (getI p0 (0 : Int)) fun v304 =>
 bif (decide (v304 < (97 : UInt8))) then
 some true
 else
 Option.bind (getI p0 (0 : Int)) fun v305 =>
 some (decide ((122 : UInt8) < v305)))
 fun y302 =>
 bif y302 then
 some false
 else
 bindE (Y := Unit) (E := Bool)
 (Option.bind (α := Unit ⊕ Bool)
 (loop (Y := Int) (W := Unit ⊕ Bool) (fun y400 =>
 bif (decide (y400 < (p0.length : Int))) then
 Option.bind (α := Bool)
 (Option.bind (getI p0 y400) fun v438 =>
 bif (decide (v438 < (97 : UInt8))) then
 Option.bind (getI p0 y400) fun v439 =>
 bif (decide (v439 < (48 : UInt8))) then
 Option.bind (getI p0 y400) fun v440 =>
 some (v440 != (95 : UInt8))
 else
 Option.bind (getI p0 y400) fun v441 =>
 bif (decide ((57 : UInt8) < v441)) then
 Option.bind (getI p0 y400) fun v442 =>
 some (v442 != (95 : UInt8))
 else
 some false
 else
 Option.bind (getI p0 y400) fun v443 =>
 bif (decide ((122 : UInt8) < v443)) then
 Option.bind (getI p0 y400) fun v444 =>
 bif (decide (v444 < (48 : UInt8))) then
 Option.bind (getI p0 y400) fun v445 =>
 some (v445 != (95 : UInt8))
 else
 Option.bind (getI p0 y400) fun v446 =>
 bif (decide ((57 : UInt8) < v446)) then
 Option.bind (getI p0 y400) fun v447 =>
 some (v447 != (95 : UInt8))
 else
 some false
 else
 some false)
 fun y436 =>
 bif y436 then
 some (Sum.inr (Sum.inr false))
 else
 some (Sum.inl (w64 (y400 + (1 : Int))))
 else
 some (Sum.inr (Sum.inl ()))) (1 : Int))
 (Sum.elim (fun e => some (Sum.inl e)) (fun e => some (Sum.inr e))))
 (fun _ =>
 some true)
 (fun e => some e)
theorem ref06_Name_ok (p0 : List UInt8) (r : Bool) (h0 : ref06_Name p0 = some r) : CallAt Tryz.prog 42 [.d (eS p0)] [] (.d (eB r)) [] := by
 unfold ref06_Name at h0
 refine fn0 [0] Tryz.func42 rfl rfl rfl rfl rfl ?_
 refine sr (sa rfl (sn (sq (SC.seqP h0 (fun y => ⟨mk 56 [(0, .d (eS p0)), (21, .d (eB y))], []⟩) ?_ ?_))))
 ·intro u1_303 h1
  refine SC.region (sm rfl (s1 (len rfl rfl rfl (len_str un9)) (s1 (bi rfl rfl q_i64_lss) (sm rfl (sp h1 (fun h1 => ?_) (fun h1 => ?_))))))
  ·have q := si h1; subst q
   refine kw rfl (kw rfl (kw rfl (s1 (pkt rfl rfl) (sm rfl (kw rfl (kw rfl (kw rfl (s1 (pkt rfl rfl) (sm rfl ?_)))))))))
   exact kw rfl (kw rfl (kw rfl (s1 (pkt rfl rfl) (SO.nil ((wq rfl))))))
  ·refine gw rfl (mv rfl) (gw rfl (len rfl rfl rfl (len_str un9)) (gw rfl (bi rfl rfl q_i64_gtr) (s1 (pkf rfl rfl) (sm rfl (sp h1 (fun h1 => ?_) (fun h1 => ?_))))))
   ·have q := si h1; subst q
    refine kw rfl (kw rfl (kw rfl (s1 (pkt rfl rfl) (sm rfl (kw rfl (kw rfl (kw rfl (s1 (pkt rfl rfl) (SO.nil ?_)))))))))
    exact (wq rfl)
   ·obtain ⟨v304, hv304, h1⟩ := ob h1
    refine gw rfl (mv rfl) (gw rfl (ixs rfl rfl rfl rfl (ix_str un9 (getI_some hv304).1 (getI_some hv304).2)) (gw rfl (bi rfl rfl (q_u8_lss (b := (97 : UInt8)))) (s1 (pkf rfl rfl) (sm rfl (sp h1 (fun h1 => ?_) (fun h1 => ?_))))))
    ·have q := si h1; subst q
     exact kw rfl (kw rfl (kw rfl (s1 (pkt rfl rfl) (SO.nil ((wq rfl))))))
    ·obtain ⟨v305, hv305, h1⟩ := ob h1; have q := si h1; subst q
     exact gw rfl (mv rfl) (gw rfl (ixs rfl rfl rfl rfl (ix_str un9 (getI_some hv305).1 (getI_some hv305).2)) (gw rfl (bi rfl rfl (q_u8_gtr (b := (122 : UInt8)))) (s1 (pkf rfl rfl) (SO.nil ((wq rfl))))))
 ·rintro y302 h0
  refine cB h0 rfl (fun h0 => ?_) (fun h0 => ?_)
  ·have q := si h0; subst q
   exact sr (sa rfl (sn (SC.ret (finR (Wk.refl _) (lresT rfl lresN) rfl))))
  ·refine sk (SC.seqB h0 (fun y => ⟨mk 56 [], []⟩) ?_ ?_)
   ·intro u1_377 h1 h0
    obtain ⟨u2_425, h2, h1⟩ := ob h1
    refine sr (sa rfl (sn (SC.blk (SC.loopB h2 (fun y => ⟨mk 56 [(0, .d (eS p0)), (3, .d (eI y))], []⟩) (wq rfl) ?_))))
    intro n448
    rintro y400 w2_424 h3 hv3
    refine sq (sr (sm rfl (sm rfl (s1 (len rfl rfl rfl (len_str un9)) (s1 (bi rfl rfl q_i64_lss) (sn (cB h3 rfl (fun h3 => ?_) (fun h3 => ?_))))))))
    ·refine sk (sq (SC.blk (SC.seqP h3 (fun y => ⟨mk 56 [(0, .d (eS p0)), (3, .d (eI y400)), (55, .d (eB y))], []⟩) ?_ ?_)))
     ·intro u4_437 h4
      obtain ⟨v438, hv438, h4⟩ := ob h4
      refine SC.region (sm rfl (sm rfl (s1 (ixs rfl rfl rfl rfl (ix_str un9 (getI_some hv438).1 (getI_some hv438).2)) (s1 (bi rfl rfl (q_u8_lss (b := (97 : UInt8)))) (sm rfl (sp h4 (fun h4 => ?_) (fun h4 => ?_)))))))
      ·obtain ⟨v439, hv439, h4⟩ := ob h4
       refine kw rfl (kw rfl (kw rfl (kw rfl (s1 (pkt rfl rfl) (sm rfl (gw rfl (mv rfl) (gw rfl (mv rfl) (gw rfl (ixs rfl rfl rfl rfl (ix_str un9 (getI_some hv439).1 (getI_some hv439).2)) (gw rfl (bi rfl rfl (q_u8_lss (b := (48 : UInt8)))) ?_)))))))))
       refine gw rfl (mv rfl) (sp h4 (fun h4 => ?_) (fun h4 => ?_))
       ·obtain ⟨v440, hv440, h4⟩ := ob h4; have q := si h4; subst q
        refine kw rfl (kw rfl (kw rfl (kw rfl (gw rfl (pkt rfl rfl) (s1 (pkt rfl rfl) (sm rfl (gw rfl (mv rfl) (gw rfl (mv rfl) (gw rfl (ixs rfl rfl rfl rfl (ix_str un9 (getI_some hv440).1 (getI_some hv440).2)) ?_)))))))))
        exact gw rfl (bi rfl rfl (q_u8_neq (b := (95 : UInt8)))) (s1 (pkt rfl rfl) (SO.nil ((wq rfl))))
       ·obtain ⟨v441, hv441, h4⟩ := ob h4
        refine gw rfl (mv rfl) (gw rfl (mv rfl) (gw rfl (ixs rfl rfl rfl rfl (ix_str un9 (getI_some hv441).1 (getI_some hv441).2)) (gw rfl (bi rfl rfl (q_u8_gtr (b := (57 : UInt8)))) (gw rfl (pkf rfl rfl) (s1 (pkt rfl rfl) (sm rfl (sp h4 (fun h4 => ?_) (fun h4 => ?_))))))))
        ·obtain ⟨v442, hv442, h4⟩ := ob h4; have q := si h4; subst q
         exact gw rfl (mv rfl) (gw rfl (mv rfl) (gw rfl (ixs rfl rfl rfl rfl (ix_str un9 (getI_some hv442).1 (getI_some hv442).2)) (gw rfl (bi rfl rfl (q_u8_neq (b := (95 : UInt8)))) (s1 (pkt rfl rfl) (SO.nil ((wq rfl)))))))
        ·have q := si h4; subst q
         exact kw rfl (kw rfl (kw rfl (kw rfl (s1 (pkf rfl rfl) (SO.nil ((wq rfl)))))))
      ·obtain ⟨v443, hv443, h4⟩ := ob h4
       refine gw rfl (mv rfl) (gw rfl (mv rfl) (gw rfl (ixs rfl rfl rfl rfl (ix_str un9 (getI_some hv443).1 (getI_some hv443).2)) (gw rfl (bi rfl rfl (q_u8_gtr (b := (122 : UInt8)))) (s1 (pkf rfl rfl) (sm rfl (sp h4 (fun h4 => ?_) (fun h4 => ?_)))))))
       ·obtain ⟨v444, hv444, h4⟩ := ob h4
        refine gw rfl (mv rfl) (gw rfl (mv rfl) (gw rfl (ixs rfl rfl rfl rfl (ix_str un9 (getI_some hv444).1 (getI_some hv444).2)) (gw rfl (bi rfl rfl (q_u8_lss (b := (48 : UInt8)))) (gw rfl (mv rfl) (sp h4 (fun h4 => ?_) (fun h4 => ?_))))))
        ·obtain ⟨v445, hv445, h4⟩ := ob h4; have q := si h4; subst q
         refine kw rfl (kw rfl (kw rfl (kw rfl (gw rfl (pkt rfl rfl) (s1 (pkt rfl rfl) (sm rfl (gw rfl (mv rfl) (gw rfl (mv rfl) (gw rfl (ixs rfl rfl rfl rfl (ix_str un9 (getI_some hv445).1 (getI_some hv445).2)) ?_)))))))))
         exact gw rfl (bi rfl rfl (q_u8_neq (b := (95 : UInt8)))) (s1 (pkt rfl rfl) (SO.nil ((wq rfl))))
        ·obtain ⟨v446, hv446, h4⟩ := ob h4
         refine gw rfl (mv rfl) (gw rfl (mv rfl) (gw rfl (ixs rfl rfl rfl rfl (ix_str un9 (getI_some hv446).1 (getI_some hv446).2)) (gw rfl (bi rfl rfl (q_u8_gtr (b := (57 : UInt8)))) (gw rfl (pkf rfl rfl) (s1 (pkt rfl rfl) (sm rfl (sp h4 (fun h4 => ?_) (fun h4 => ?_))))))))
         ·obtain ⟨v447, hv447, h4⟩ := ob h4; have q := si h4; subst q
          exact gw rfl (mv rfl) (gw rfl (mv rfl) (gw rfl (ixs rfl rfl rfl rfl (ix_str un9 (getI_some hv447).1 (getI_some hv447).2)) (gw rfl (bi rfl rfl (q_u8_neq (b := (95 : UInt8)))) (s1 (pkt rfl rfl) (SO.nil ((wq rfl)))))))
         ·have q := si h4; subst q
          exact kw rfl (kw rfl (kw rfl (kw rfl (s1 (pkf rfl rfl) (SO.nil ((wq rfl)))))))
       ·have q := si h4; subst q
        refine kw rfl (kw rfl (kw rfl (kw rfl (kw rfl (kw rfl (kw rfl (kw rfl (kw rfl (kw rfl ?_)))))))))
        exact s1 (pkf rfl rfl) (sm rfl (kw rfl (kw rfl (kw rfl (kw rfl (s1 (pkf rfl rfl) (SO.nil ((wq rfl)))))))))
     ·rintro y436 h3
      refine cB h3 rfl (fun h3 => ?_) (fun h3 => ?_)
      ·have q := si h3; subst q; have q : _ = _ := hv3; subst q; have q := si h1; subst q; have q := si h0; subst q
       exact sr (sa rfl (sn (SC.ret (finR (Wk.refl _) (lresT rfl lresN) rfl))))
      ·refine SC.skip ?_
       change SC _ _ _ _ _
       have q := si h3; subst q
       exact SC.region (sm rfl (s1 (bi rfl rfl q_i64_add) (sa rfl (SO.nil (lf (wq rfl))))))
    ·have q := si h3; subst q; have q : _ = _ := hv3; subst q; have q := si h1; subst q
     exact SC.exit (lf (wq rfl))
   ·intro _ h0
    have q := si h0; subst q
    exact sr (sa rfl (sn (SC.ret (finR (Wk.refl _) (lresT rfl lresN) rfl))))
end Lv
