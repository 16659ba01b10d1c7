/- Part of the proof of a law: functions and their walks. -/
import Derived.Test.YtmkgfooomdagmaaDoorXFn1
namespace Lv
open Go Go.Proofs
set_option linter.unusedVariables false
set_option linter.unusedSimpArgs false
set_option linter.unusedSectionVars false
set_option maxRecDepth 100000
variable [BaseTab] [TabOk]
noncomputable def catalog_Ops (p0 : Int) (p1 : List ApiPair) (p2 : List ApiPair) : Option ((List ForestOp)) :=
 Option.bind (α := (List (List UInt8)) × (List ((List UInt8) × (List UInt8))))
 (Option.bind (α := (List (List UInt8)) × (List ((List UInt8) × (List UInt8))))
 (loop (Y := (List (List UInt8)) × Int × (List ((List UInt8) × (List UInt8)))) (W := (List (List UInt8)) × (List ((List UInt8) × (List UInt8)))) (fun (y414, y415, y416) =>
 bif (decide (y415 < (p1.length : Int))) then
 Option.bind (getI p1 y415) fun v424 =>
 bif decide ((y414.length + [v424.Key].length) * 16 ≤ room) then
 some (Sum.inl ((y414 ++ [v424.Key]), (w64 (y415 + (1 : Int))), (mset y416 v424.Key v424.Val)))
 else none
 else
 some (Sum.inr (y414, y416))) (([] : List (List UInt8)), (0 : Int), ([] : List ((List UInt8) × (List UInt8)))))
 (fun e => some e))
 fun (y409, y410) =>
 Option.bind (α := (List (List UInt8)) × (List ((List UInt8) × (List UInt8))))
 (Option.bind (α := (List (List UInt8)) × (List ((List UInt8) × (List UInt8))))
 (loop (Y := (List (List UInt8)) × Int × (List ((List UInt8) × (List UInt8)))) (W := (List (List UInt8)) × (List ((List UInt8) × (List UInt8)))) (fun (y447, y448, y449) =>
 bif (decide (y448 < (p2.length : Int))) then
 Option.bind (getI p2 y448) fun v457 =>
 bif decide ((y447.length + [v457.Key].length) * 16 ≤ room) then
 some (Sum.inl ((y447 ++ [v457.Key]), (w64 (y448 + (1 : Int))), (mset y449 v457.Key v457.Val)))
 else none
 else
 some (Sum.inr (y447, y449))) (y409, (0 : Int), ([] : List ((List UInt8) × (List UInt8)))))
 (fun e => some e))
 fun (y442, y443) =>
 Option.bind (sortF y442) fun r461 =>
 Option.bind (α := (List ForestOp))
 (Option.bind (compactF r461 0 y442.length) fun r528 =>
 Option.bind (α := (List ForestOp))
 (loop (Y := (List ForestOp) × Int) (W := (List ForestOp)) (fun (y547, y548) =>
 bif (decide (y548 < (r528.length : Int))) then
 Option.bind (α := (List ForestOp))
 (Option.bind (getI r528 y548) fun v581 =>
 bindE (Y := ApiMsg) (E := (List ForestOp))
 (Option.bind (α := Bool)
 (bif (Option.isSome (mget y410 v581)) then
 bif (Option.isSome (mget y443 v581)) then
 some ((Option.getD (mget y410 v581) ([] : List UInt8)) == (Option.getD (mget y443 v581) ([] : List UInt8)))
 else
 some false
 else
 some false)
 fun y586 =>
 bif y586 then
 some (Sum.inr y547)
 else
 bif (!(Option.isSome (mget y443 v581))) then
 some (Sum.inl (ApiMsg.mk (0 : UInt64) (2 : Int) v581 (0 : UInt64) (Option.getD (mget y443 v581) ([] : List UInt8)) (0 : Int) (0 : UInt64)))
 else
 some (Sum.inl (ApiMsg.mk (0 : UInt64) (1 : Int) v581 (0 : UInt64) (Option.getD (mget y443 v581) ([] : List UInt8)) (0 : Int) (0 : UInt64))))
 (fun y584 =>
 bif decide ((y547.length + [(ForestOp.mk (1 : Int) p0 y584)].length) * 88 ≤ room) then
 some (y547 ++ [(ForestOp.mk (1 : Int) p0 y584)])
 else none)
 (fun e => some e))
 fun y579 =>
 some (Sum.inl (y579, (w64 (y548 + (1 : Int)))))
 else
 some (Sum.inr y547)) (([] : List ForestOp), (0 : Int)))
 (fun e => some e))
 fun y525 =>
 some y525
theorem catalog_Ops_ok (p0 : Int) (p1 : List ApiPair) (p2 : List ApiPair) (r : (List ForestOp)) (h0 : catalog_Ops p0 p1 p2 = some r) : CallAt Tryd.prog 7 [.d (eI p0), .d ((eL 2 eApiPair) p1), .d ((eL 2 eApiPair) p2)] [] (.d ((eL 9 eForestOp) r)) [] := by
 unfold catalog_Ops at h0
 refine fn0 [0, 1, 2] Tryd.func7 rfl rfl rfl rfl rfl ?_
 refine sr (s1 (asg (v := .d .nils) rfl) (sn (sr (s1 (mkm (f := eS) (g := eS) (i := 0) un64 rfl) (s1 (mkm (f := eS) (g := eS) (i := 1) un64 rfl) (sa rfl (sa rfl (sn (sr ?_)))))))))
 refine s1 (asg (v := .d .nils) rfl) (sn (SC.seqP h0 (fun y => ⟨mk 104 [(0, .d (eI p0)), (2, .d ((eL 2 eApiPair) p2)), (7, .mapr 0), (8, .mapr 1), (9, .slc 2 1 0 y.1.length none)], [.map (List.map (eM eS eS) y.2), .map (List.map (eM eS eS) ([] : List ((List UInt8) × (List UInt8)))), .row 1 (List.map eS y.1) true]⟩) ?_ ?_))
 ·intro u1_411 h1
  obtain ⟨u2_423, h2, h1⟩ := ob h1
  refine sr (sm rfl (s1 (len rfl rfl rfl (len_lst un22)) (sm rfl (sn (SC.blk (SC.loopB h2 (fun y => ⟨mk 104 [(0, .d (eI p0)), (2, .d ((eL 2 eApiPair) p2)), (7, .mapr 0), (8, .mapr 1), (9, .slc 2 1 0 y.1.length none), (24, .d ((eL 2 eApiPair) p1)), (25, .d (eI (p1.length : Int))), (26, .d (eI y.2.1))], [.map (List.map (eM eS eS) y.2.2), .map (List.map (eM eS eS) ([] : List ((List UInt8) × (List UInt8)))), .row 1 (List.map eS y.1) true]⟩) (Wk.trans (Wk.pushE (σ' := [.map (List.map (eM eS eS) ([] : List ((List UInt8) × (List UInt8)))), .map (List.map (eM eS eS) ([] : List ((List UInt8) × (List UInt8)))), .row 1 (List.map eS ([] : List (List UInt8))) true]) (.row 1 [] true) (fun _ hh => by cases hh) rfl) (Wk.trans (Wk.env (e' := [(0, .d (eI p0)), (2, .d ((eL 2 eApiPair) p2)), (7, .mapr 0), (8, .mapr 1), (9, .slc 2 1 0 (([] : List (List UInt8)).length) none), (24, .d ((eL 2 eApiPair) p1)), (25, .d (eI (p1.length : Int))), (26, .d (eI (0 : Int)))]) (EW.cons (AW.refl _) (EW.cons (AW.refl _) (EW.cons (AW.refl _) (EW.cons (AW.refl _) (EW.cons (AW.slcn _ _ _) (EW.cons (AW.refl _) (EW.cons (AW.refl _) (EW.cons (AW.refl _) EW.nil))))))))) (wq rfl))) ?_))))))
  intro n426
  rintro ⟨y414, y415, y416⟩ w2_422 h3 hv3
  refine sr (s1 (bi rfl rfl q_i64_lss) (sn (sq (cB h3 rfl (fun h3 => ?_) (fun h3 => ?_)))))
  ·obtain ⟨v424, hv424, h3⟩ := ob h3; obtain ⟨hg425, h3⟩ := gd h3
   refine sk (sq (SC.blk (sr (s1 (ial rfl rfl un22 ts25 (getI_some hv424).1 (map_get (getI_some hv424).2) rfl) (s1 (lod (v := .d (eApiPair v424)) rfl (ld_rop ts25 ta25 rfl)) (s1 (alo (k := 3) zo25 rfl) (s0 (sto rfl rfl (sB (d' := .d (eApiPair v424)) ts25 rfl rfl rfl rfl rfl rfl rfl)) (sn (sr ?_)))))))))
   refine sm rfl (s1 (far (k := 0) rfl fo25_0 ts9 rfl) (s1 (lod rfl (ld_box ts9 ta9 rfl rfl)) (s1 (far (k := 1) rfl fo25_1 ts9 rfl) (s1 (lod rfl (ld_box ts9 ta9 rfl rfl)) (s0 (mpu (f := eS) (g := eS) (k := v424.Key) (v := v424.Val) kq_str rfl rfl rfl rfl un64 un9 rfl rfl rfl) (sn (SC.region (sm rfl (s1 (far (k := 0) rfl fo25_0 ts9 rfl) ?_)))))))))
   refine s1 (lod rfl (ld_box ts9 ta9 rfl rfl)) (s1 (bsn (k := 4) (ds := List.map eS [v424.Key]) (off := 0) (l' := [v424.Key].length) rfl un65 ei9 rfl rfl (by rfl) rfl rfl rfl) (s1 (app rfl rfl rfl rfl bc65 (aF (f := eS) (xs := y414) (k := 5) rfl un65 ei9 rfl (el_full (xs := [v424.Key]) rfl) hg425 rfl)) (sa rfl (SO.nil ?_))))
   change SC _ _ _ _ _
   have q := si h3; subst q
   exact SC.region (s1 (bi rfl rfl q_i64_add) (sm rfl (SO.nil (lf (wc [0, 1, 5] [0, 1, 5] (by kernel_rfl) rfl (by kernel_rfl))))))
  ·have q := si h3; subst q; have q : _ = _ := hv3; subst q; have q := si h1; subst q
   exact SC.exit ((wq rfl))
 ·rintro ⟨y409, y410⟩ h0
  refine SC.seqP h0 (fun y => ⟨mk 104 [(0, .d (eI p0)), (7, .mapr 0), (8, .mapr 1), (9, .slc 2 1 0 y.1.length none)], [.map (List.map (eM eS eS) y410), .map (List.map (eM eS eS) y.2), .row 1 (List.map eS y.1) true]⟩) ?_ ?_
  ·intro u1_444 h1
   obtain ⟨u2_456, h2, h1⟩ := ob h1
   refine sr (sm rfl (s1 (len rfl rfl rfl (len_lst un22)) (sm rfl (sn (SC.blk (SC.loopB h2 (fun y => ⟨mk 104 [(0, .d (eI p0)), (7, .mapr 0), (8, .mapr 1), (9, .slc 2 1 0 y.1.length none), (41, .d ((eL 2 eApiPair) p2)), (42, .d (eI (p2.length : Int))), (43, .d (eI y.2.1))], [.map (List.map (eM eS eS) y410), .map (List.map (eM eS eS) y.2.2), .row 1 (List.map eS y.1) true]⟩) (wq rfl) ?_))))))
   intro n459
   rintro ⟨y447, y448, y449⟩ w2_455 h3 hv3
   refine sr (s1 (bi rfl rfl q_i64_lss) (sn (sq (cB h3 rfl (fun h3 => ?_) (fun h3 => ?_)))))
   ·obtain ⟨v457, hv457, h3⟩ := ob h3; obtain ⟨hg458, h3⟩ := gd h3
    refine sk (sq (SC.blk (sr (s1 (ial rfl rfl un22 ts25 (getI_some hv457).1 (map_get (getI_some hv457).2) rfl) (s1 (lod (v := .d (eApiPair v457)) rfl (ld_rop ts25 ta25 rfl)) (s1 (alo (k := 3) zo25 rfl) (s0 (sto rfl rfl (sB (d' := .d (eApiPair v457)) ts25 rfl rfl rfl rfl rfl rfl rfl)) (sn (sr ?_)))))))))
    refine sm rfl (s1 (far (k := 0) rfl fo25_0 ts9 rfl) (s1 (lod rfl (ld_box ts9 ta9 rfl rfl)) (s1 (far (k := 1) rfl fo25_1 ts9 rfl) (s1 (lod rfl (ld_box ts9 ta9 rfl rfl)) (s0 (mpu (f := eS) (g := eS) (k := v457.Key) (v := v457.Val) kq_str rfl rfl rfl rfl un64 un9 rfl rfl rfl) (sn (SC.region (sm rfl (s1 (far (k := 0) rfl fo25_0 ts9 rfl) ?_)))))))))
    refine s1 (lod rfl (ld_box ts9 ta9 rfl rfl)) (s1 (bsn (k := 4) (ds := List.map eS [v457.Key]) (off := 0) (l' := [v457.Key].length) rfl un65 ei9 rfl rfl (by rfl) rfl rfl rfl) (s1 (app rfl rfl rfl rfl bc65 (aF (f := eS) (xs := y447) (k := 5) rfl un65 ei9 rfl (el_full (xs := [v457.Key]) rfl) hg458 rfl)) (sa rfl (SO.nil ?_))))
    change SC _ _ _ _ _
    have q := si h3; subst q
    exact SC.region (s1 (bi rfl rfl q_i64_add) (sm rfl (SO.nil (lf (wc [0, 1, 5] [0, 1, 5] (by kernel_rfl) rfl (by kernel_rfl))))))
   ·have q := si h3; subst q; have q : _ = _ := hv3; subst q; have q := si h1; subst q
    exact SC.exit ((wq rfl))
  ·rintro ⟨y442, y443⟩ h0
   obtain ⟨r461, hq460, h0⟩ := ob h0
   refine sr (sm rfl (cq [2] [] (sort_ok y442 _ hq460) wf rfl rfl rfl cb16 rfl rfl rfl rfl rfl rfl rfl rfl (sn (sr (s1 (asg (v := .d .nils) rfl) (sn (SC.seqP h0 (fun y => ⟨mk 104 [(14, .slc 0 9 0 y.length none)], [.row 9 (List.map eForestOp y) true]⟩) ?_ ?_)))))))
   ·intro u1_526 h1
    obtain ⟨r528, hq527, h1⟩ := ob h1; obtain ⟨u2_570, h2, h1⟩ := ob h1
    refine sr (sm rfl (cq [2] [] (compact_ok r461 0 y442.length _ hq527) wf rfl rfl rfl cb17 rfl rfl rfl rfl rfl rfl rfl rfl (s1 (len rfl rfl rfl (len_lst un65)) (sm rfl (sn (SC.blk (SC.loopB h2 (fun y => ⟨mk 104 [(0, .d (eI p0)), (7, .mapr 0), (8, .mapr 1), (14, .slc 2 9 0 y.1.length none), (61, .d ((eL 1 eS) r528)), (62, .d (eI (r528.length : Int))), (63, .d (eI y.2))], [.map (List.map (eM eS eS) y410), .map (List.map (eM eS eS) y443), .row 9 (List.map eForestOp y.1) true]⟩) (Wk.trans (Wk.pushE (σ' := [.map (List.map (eM eS eS) y410), .map (List.map (eM eS eS) y443), .row 1 (List.map eS (r528 ++ List.replicate (r461.length - r528.length) [])) false, .row 9 (List.map eForestOp ([] : List ForestOp)) true]) (.row 9 [] true) (fun _ hh => by cases hh) rfl) (Wk.trans (Wk.env (e' := [(0, .d (eI p0)), (7, .mapr 0), (8, .mapr 1), (14, .slc 3 9 0 (([] : List ForestOp).length) none), (61, .d ((eL 1 eS) r528)), (62, .d (eI (r528.length : Int))), (63, .d (eI (0 : Int)))]) (EW.cons (AW.refl _) (EW.cons (AW.refl _) (EW.cons (AW.refl _) (EW.cons (AW.slcn _ _ _) (EW.cons (AW.refl _) (EW.cons (AW.refl _) (EW.cons (AW.refl _) EW.nil)))))))) (wc [0, 1, 3] [0, 1, 3] (by kernel_rfl) rfl (by kernel_rfl)))) ?_)))))))
    intro n589
    rintro ⟨y547, y548⟩ w2_569 h3 hv3
    refine sr (s1 (bi rfl rfl q_i64_lss) (sn (sq (cB h3 rfl (fun h3 => ?_) (fun h3 => ?_)))))
    ·refine sk (SC.seqP h3 (fun y => ⟨mk 104 [(0, .d (eI p0)), (7, .mapr 0), (8, .mapr 1), (14, .slc 2 9 0 y.length none), (61, .d ((eL 1 eS) r528)), (62, .d (eI (r528.length : Int))), (63, .d (eI y548))], [.map (List.map (eM eS eS) y410), .map (List.map (eM eS eS) y443), .row 9 (List.map eForestOp y) true]⟩) ?_ ?_)
     ·intro u4_580 h4
      obtain ⟨v581, hv581, h4⟩ := ob h4
      refine SC.blk (sr (s1 (ial rfl rfl un65 ts9 (getI_some hv581).1 (map_get (getI_some hv581).2) rfl) (s1 (lod rfl (ld_rop ts9 ta9 rfl)) (sa rfl (sn (sr (sm rfl (sm rfl (s1 (mlo (f := eS) (g := eS) (k := v581) (v := ([] : List UInt8)) kq_str rfl rfl un64 un9 rfl zo9 rfl) ?_)))))))))
      refine sm rfl (s1 (ext rfl rfl) (s1 (ext rfl rfl) (sa rfl (sa rfl (sn (sr (sm rfl (sm rfl (s1 (mlo (f := eS) (g := eS) (k := v581) (v := ([] : List UInt8)) kq_str rfl rfl un64 un9 rfl zo9 rfl) ?_)))))))))
      refine sm rfl (s1 (ext rfl rfl) (s1 (ext rfl rfl) (sa rfl (sa rfl (sn (sr (sm rfl (sm rfl (s1 (bld rfl (bd37_1_2_4 (1 : Int) v581 (Option.getD (mget y443 v581) ([] : List UInt8)))) ?_)))))))))
      refine s1 (alo (k := 3) zo37 rfl) (s0 (sto rfl rfl (sB (d' := .d (eApiMsg (ApiMsg.mk (0 : UInt64) (1 : Int) v581 (0 : UInt64) (Option.getD (mget y443 v581) ([] : List UInt8)) (0 : Int) (0 : UInt64)))) ts37 rfl rfl rfl rfl rfl rfl rfl)) (sn (SC.seqB h4 (fun y => ⟨mk 104 [(0, .d (eI p0)), (7, .mapr 0), (8, .mapr 1), (14, .slc 2 9 0 y547.length none), (21, .ref 3 0 0), (61, .d ((eL 1 eS) r528)), (62, .d (eI (r528.length : Int))), (63, .d (eI y548))], [.map (List.map (eM eS eS) y410), .map (List.map (eM eS eS) y443), .row 9 (List.map eForestOp y547) true, .box (.d (eApiMsg y))]⟩) ?_ ?_)))
      ·intro u5_585 h5 h4
       refine SC.blk (SC.seqP h5 (fun y => ⟨mk 104 [(0, .d (eI p0)), (7, .mapr 0), (8, .mapr 1), (14, .slc 2 9 0 y547.length none), (20, .d (eB (Option.isSome (mget y443 v581)))), (21, .ref 3 0 0), (61, .d ((eL 1 eS) r528)), (62, .d (eI (r528.length : Int))), (63, .d (eI y548)), (82, .d (eB y))], [.map (List.map (eM eS eS) y410), .map (List.map (eM eS eS) y443), .row 9 (List.map eForestOp y547) true, .box (.d (eApiMsg (ApiMsg.mk (0 : UInt64) (1 : Int) v581 (0 : UInt64) (Option.getD (mget y443 v581) ([] : List UInt8)) (0 : Int) (0 : UInt64))))]⟩) ?_ ?_)
       ·intro u6_587 h6
        refine SC.region (sm rfl (sm rfl (sp h6 (fun h6 => ?_) (fun h6 => ?_))))
        ·refine gw rfl (mv rfl) (s1 (pkt rfl rfl) (sm rfl (sp h6 (fun h6 => ?_) (fun h6 => ?_))))
         ·have q := si h6; subst q
          exact gw rfl (mv rfl) (gw rfl (mv rfl) (gw rfl (bi rfl rfl q_str_eql) (s1 (pkt rfl rfl) (sa rfl (SO.nil ((wq rfl)))))))
         ·have q := si h6; subst q
          exact kw rfl (kw rfl (kw rfl (s1 (pkf rfl rfl) (sa rfl (SO.nil ((wq rfl)))))))
        ·have q := si h6; subst q
         exact kw rfl (s1 (pkf rfl rfl) (sm rfl (kw rfl (kw rfl (kw rfl (s1 (pkf rfl rfl) (sa rfl (SO.nil ((wq rfl))))))))))
       ·rintro y586 h5
        refine cB h5 rfl (fun h5 => ?_) (fun h5 => ?_)
        ·have q := si h5; subst q; have q := si h4; subst q
         exact SC.exit ((wc [0, 1, 2] [0, 1, 2] (by kernel_rfl) rfl (by kernel_rfl)))
        ·refine sr (sm rfl (s1 (nt rfl) (sa rfl (sn (cB h5 rfl (fun h5 => ?_) (fun h5 => ?_))))))
         ·have q := si h5; subst q
          exact SC.region (s1 (far (k := 1) rfl fo37_1 ts3 rfl) (s0 (sto (b := .d (eI (2 : Int))) rfl rfl (sB (d' := .d (eApiMsg (ApiMsg.mk (0 : UInt64) (2 : Int) v581 (0 : UInt64) (Option.getD (mget y443 v581) ([] : List UInt8)) (0 : Int) (0 : UInt64)))) ts3 rfl rfl rfl rfl rfl rfl rfl)) (SO.nil (lf (wq rfl)))))
         ·have q := si h5; subst q
          exact SC.skip (lf (wq rfl))
      ·rintro y584 h4
       obtain ⟨hg588, h4⟩ := gd h4; have q := si h4; subst q
       exact SC.region (sm rfl (sm rfl (s1 (lod (v := .d (eApiMsg y584)) rfl (ld_box ts37 ta37 rfl rfl)) (s1 (bld rfl (bd39_0_1_2 (1 : Int) p0 y584)) (s1 (bsn (k := 4) (ds := List.map eForestOp [(ForestOp.mk (1 : Int) p0 y584)]) (off := 0) (l' := [(ForestOp.mk (1 : Int) p0 y584)].length) rfl un26 ei39 rfl rfl (by rfl) rfl rfl rfl) (s1 (app rfl rfl rfl rfl bc26 (aF (f := eForestOp) (xs := y547) (k := 5) rfl un26 ei39 rfl (el_full (xs := [(ForestOp.mk (1 : Int) p0 y584)]) rfl) hg588 rfl)) (sa rfl (SO.nil ((wc [0, 1, 5] [0, 1, 5] (by kernel_rfl) rfl (by kernel_rfl)))))))))))
     ·rintro y579 h3
      have q := si h3; subst q
      exact SC.region (s1 (bi rfl rfl q_i64_add) (sm rfl (SO.nil (lf (wq rfl)))))
    ·have q := si h3; subst q; have q : _ = _ := hv3; subst q; have q := si h1; subst q
     exact SC.exit ((wc [2] [2] (by kernel_rfl) rfl (by kernel_rfl)))
   ·rintro y525 h0
    have q := si h0; subst q
    exact sr (sm rfl (sa rfl (sn (SC.ret (finR (Wk.trans (Wk.frz (i := 6) (x := .slc 0 9 0 y525.length none) rfl rfl (fF rfl rfl rfl)) (wc (e' := [(6, .d ((eL 9 eForestOp) y525))]) [] [] (by kernel_rfl) rfl (by kernel_rfl))) (lresT rfl lresN) rfl)))))
noncomputable def raw_Ints (p0 : List Int) (p1 : List Int) : Option Bool :=
 bif ((p0.length : Int) != (p1.length : Int)) then
 some false
 else
 bindE (Y := Unit) (E := Bool)
 (Option.bind (α := Unit ⊕ Bool)
 (loop (Y := Int) (W := Unit ⊕ Bool) (fun y62 =>
 bif (decide (y62 < (p0.length : Int))) then
 Option.bind (getI p0 y62) fun v68 =>
 Option.bind (getI p1 y62) fun v69 =>
 bif (v68 != v69) then
 some (Sum.inr (Sum.inr false))
 else
 some (Sum.inl (w64 (y62 + (1 : Int))))
 else
 some (Sum.inr (Sum.inl ()))) (0 : Int))
 (Sum.elim (fun e => some (Sum.inl e)) (fun e => some (Sum.inr e))))
 (fun _ =>
 some true)
 (fun e => some e)
theorem raw_Ints_ok (p0 : List Int) (p1 : List Int) (r : Bool) (h0 : raw_Ints p0 p1 = some r) : CallAt Tryd.prog 29 [.d ((eL 1 eI) p0), .d ((eL 1 eI) p1)] [] (.d (eB r)) [] := by
 unfold raw_Ints at h0
 refine fn0 [0, 1] Tryd.func29 rfl rfl rfl rfl rfl ?_
 refine sr (sa rfl (sn (sq (sr (sm rfl (s1 (len rfl rfl rfl (len_lst un50)) (sm rfl (s1 (len rfl rfl rfl (len_lst un50)) (s1 (bi rfl rfl q_i64_neq) ?_)))))))))
 refine sn (cB h0 rfl (fun h0 => ?_) (fun h0 => ?_))
 ·have q := si h0; subst q
  exact sr (sa rfl (sn (SC.ret (finR (Wk.refl _) (lresT rfl lresN) rfl))))
 ·refine sk (SC.seqB h0 (fun y => ⟨mk 26 [], []⟩) ?_ ?_)
  ·intro u1_59 h1 h0
   obtain ⟨u2_67, h2, h1⟩ := ob h1
   refine sr (sa rfl (sn (SC.blk (SC.loopB h2 (fun y => ⟨mk 26 [(0, .d ((eL 1 eI) p0)), (1, .d ((eL 1 eI) p1)), (5, .d (eI y))], []⟩) (wq rfl) ?_))))
   intro n70
   rintro y62 w2_66 h3 hv3
   refine sq (sr (sm rfl (sm rfl (s1 (len rfl rfl rfl (len_lst un50)) (s1 (bi rfl rfl q_i64_lss) (sn (cB h3 rfl (fun h3 => ?_) (fun h3 => ?_))))))))
   ·obtain ⟨v68, hv68, h3⟩ := ob h3; obtain ⟨v69, hv69, h3⟩ := ob h3
    refine sk (sq (SC.blk (sd (by kernel_rfl) (t1 ([], false) (mv rfl) rfl (t1 ([], false) (mv rfl) rfl (t1 ([], false) (ial rfl rfl un50 ts3 (getI_some hv68).1 (map_get (getI_some hv68).2) rfl) rfl (t1 ([], false) (lod rfl (ld_rop ts3 ta3 rfl)) rfl (t1 ([], false) (mv rfl) rfl (t1 ([], false) (mv rfl) rfl ?_)))))))))
    refine t1 ([], false) (ial rfl rfl un50 ts3 (getI_some hv69).1 (map_get (getI_some hv69).2) rfl) rfl (t1 ([], false) (lod rfl (ld_rop ts3 ta3 rfl)) rfl (t1 ([], false) (bi rfl rfl q_i64_neq) rfl (tn (by decide +kernel) (cB h3 rfl (fun h3 => ?_) (fun h3 => ?_)))))
    ·have q := si h3; subst q; have q : _ = _ := hv3; subst q; have q := si h1; subst q; have q := si h0; subst q
     exact sr (sa rfl (sn (SC.ret (finR (Wk.refl _) (lresT rfl lresN) rfl))))
    ·refine SC.skip ?_
     change SC _ _ _ _ _
     have q := si h3; subst q
     exact SC.region (sm rfl (s1 (bi rfl rfl q_i64_add) (sa rfl (SO.nil (lf (wq rfl))))))
   ·have q := si h3; subst q; have q : _ = _ := hv3; subst q; have q := si h1; subst q
    exact SC.exit (lf (wq rfl))
  ·intro _ h0
   have q := si h0; subst q
   exact sr (sa rfl (sn (SC.ret (finR (Wk.refl _) (lresT rfl lresN) rfl))))
noncomputable def ref17_Same (p0 : ApiTable) (p1 : ApiTable) : Option Bool :=
 Option.bind (α := Bool)
 (bif (p0.Name != p1.Name) then
 some true
 else
 bif (p0.Tree != p1.Tree) then
 some true
 else
 bif ((p0.Cols.length : Int) != (p1.Cols.length : Int)) then
 some true
 else
 Option.bind (raw_Ints p0.Primary p1.Primary) fun r555 =>
 bif (!r555) then
 some true
 else
 some ((p0.Indexes.length : Int) != (p1.Indexes.length : Int)))
 fun y552 =>
 bif y552 then
 some false
 else
 bindE (Y := Unit) (E := Bool)
 (Option.bind (α := Unit ⊕ Bool)
 (loop (Y := Int) (W := Unit ⊕ Bool) (fun y570 =>
 bif (decide (y570 < (p0.Cols.length : Int))) then
 Option.bind (getI p0.Cols y570) fun v576 =>
 Option.bind (getI p1.Cols y570) fun v577 =>
 bif (!(eqApiColumn v576 v577)) then
 some (Sum.inr (Sum.inr false))
 else
 some (Sum.inl (w64 (y570 + (1 : Int))))
 else
 some (Sum.inr (Sum.inl ()))) (0 : Int))
 (Sum.elim (fun e => some (Sum.inl e)) (fun e => some (Sum.inr e))))
 (fun _ =>
 bindE (Y := Unit) (E := Bool)
 (Option.bind (α := Unit ⊕ Bool)
 (loop (Y := Int) (W := Unit ⊕ Bool) (fun y741 =>
 bif (decide (y741 < (p0.Indexes.length : Int))) then
 bindE (Y := Unit) (E := Bool)
 (Option.bind (getI p0.Indexes y741) fun v804 =>
 Option.bind (getI p1.Indexes y741) fun v805 =>
 Option.bind (α := Bool)
 (bif (v804.Name != v805.Name) then
 some true
 else
 bif (v804.Unique != v805.Unique) then
 some true
 else
 bif (v804.Ready != v805.Ready) then
 some true
 else
 bif (v804.Tree != v805.Tree) then
 some true
 else
 Option.bind (raw_Ints v804.Extra v805.Extra) fun r811 =>
 bif (!r811) then
 some true
 else
 some ((v804.Parts.length : Int) != (v805.Parts.length : Int)))
 fun y808 =>
 bif y808 then
 some (Sum.inr false)
 else
 Option.bind (α := Unit ⊕ Bool)
 (loop (Y := Int) (W := Unit ⊕ Bool) (fun y814 =>
 bif (decide (y814 < (v804.Parts.length : Int))) then
 Option.bind (getI v804.Parts y814) fun v820 =>
 Option.bind (getI v805.Parts y814) fun v821 =>
 bif (!(eqApiPart v820 v821)) then
 some (Sum.inr (Sum.inr false))
 else
 some (Sum.inl (w64 (y814 + (1 : Int))))
 else
 some (Sum.inr (Sum.inl ()))) (0 : Int))
 (Sum.elim (fun e => some (Sum.inl e)) (fun e => some (Sum.inr e))))
 (fun _ =>
 some (Sum.inl (w64 (y741 + (1 : Int)))))
 (fun e => some (Sum.inr (Sum.inr e)))
 else
 some (Sum.inr (Sum.inl ()))) (0 : Int))
 (Sum.elim (fun e => some (Sum.inl e)) (fun e => some (Sum.inr e))))
 (fun _ =>
 some true)
 (fun e => some e))
 (fun e => some e)
theorem ref17_Same_ok (p0 : ApiTable) (p1 : ApiTable) (r : Bool) (h0 : ref17_Same p0 p1 = some r) : CallAt Tryd.prog 15 [.d (eApiTable p0), .d (eApiTable p1)] [] (.d (eB r)) [] := by
 unfold ref17_Same at h0
 refine fn0 [0, 1] Tryd.func15 rfl rfl rfl rfl rfl ?_
 refine sr (s1 (bxo (k := 0) rfl rfl rfl) (s1 (bxo (k := 1) rfl rfl rfl) (sa rfl (sn (sq (SC.seqP h0 (fun y => ⟨mk 144 [(2, .ref 0 0 0), (3, .ref 1 0 0), (47, .d (eB y))], [.box (.d (eApiTable p0)), .box (.d (eApiTable p1))]⟩) ?_ ?_))))))
 ·intro u1_553 h1
  refine SC.region (s1 (far (k := 0) rfl fo53_0 ts9 rfl) (s1 (lod rfl (ld_box ts9 ta9 rfl rfl)) (s1 (far (k := 0) rfl fo53_0 ts9 rfl) (s1 (lod rfl (ld_box ts9 ta9 rfl rfl)) (s1 (bi rfl rfl q_str_neq) (sm rfl (sp h1 (fun h1 => ?_) (fun h1 => ?_))))))))
  ·have q := si h1; subst q
   refine kw rfl (kw rfl (kw rfl (kw rfl (kw rfl (s1 (pkt rfl rfl) (sm rfl (kw rfl (kw rfl (kw rfl ?_)))))))))
   refine kw rfl (kw rfl (kw rfl (kw rfl (s1 (pkt rfl rfl) (sm rfl (kw rfl (kw rfl (kw rfl (kw rfl ?_)))))))))
   refine kw rfl (kw rfl (s1 (pkt rfl rfl) (sm rfl (kw rfl (kw rfl (kw rfl (kw rfl (kw rfl (kw rfl ?_)))))))))
   exact kw rfl (s1 (pkt rfl rfl) (SO.nil ((wq rfl))))
  ·refine gw rfl (far (k := 4) rfl fo53_4 ts3 rfl) (gw rfl (lod rfl (ld_box ts3 ta3 rfl rfl)) (gw rfl (far (k := 4) rfl fo53_4 ts3 rfl) (gw rfl (lod rfl (ld_box ts3 ta3 rfl rfl)) (gw rfl (bi rfl rfl q_i64_neq) (s1 (pkf rfl rfl) (sm rfl (sp h1 (fun h1 => ?_) (fun h1 => ?_))))))))
   ·have q := si h1; subst q
    refine kw rfl (kw rfl (kw rfl (kw rfl (kw rfl (kw rfl (kw rfl (s1 (pkt rfl rfl) (sm rfl (kw rfl ?_)))))))))
    refine kw rfl (kw rfl (kw rfl (kw rfl (kw rfl (s1 (pkt rfl rfl) (sm rfl (kw rfl (kw rfl (kw rfl ?_)))))))))
    exact kw rfl (kw rfl (kw rfl (kw rfl (s1 (pkt rfl rfl) (SO.nil ((wq rfl)))))))
   ·refine gw rfl (far (k := 1) rfl fo53_1 ts49 rfl) (gw rfl (lod rfl (ld_box ts49 ta49 rfl rfl)) (gw rfl (len rfl rfl rfl (len_lst un49)) (gw rfl (far (k := 1) rfl fo53_1 ts49 rfl) (gw rfl (lod rfl (ld_box ts49 ta49 rfl rfl)) (gw rfl (len rfl rfl rfl (len_lst un49)) (gw rfl (bi rfl rfl q_i64_neq) (s1 (pkf rfl rfl) (sm rfl (sp h1 (fun h1 => ?_) (fun h1 => ?_))))))))))
    ·have q := si h1; subst q
     refine kw rfl (kw rfl (kw rfl (kw rfl (kw rfl (kw rfl (s1 (pkt rfl rfl) (sm rfl (kw rfl (kw rfl ?_)))))))))
     exact kw rfl (kw rfl (kw rfl (kw rfl (kw rfl (s1 (pkt rfl rfl) (SO.nil ((wq rfl))))))))
    ·obtain ⟨r555, hq554, h1⟩ := ob h1
     refine gw rfl (far (k := 2) rfl fo53_2 ts50 rfl) (gw rfl (lod rfl (ld_box ts50 ta50 rfl rfl)) (gw rfl (far (k := 2) rfl fo53_2 ts50 rfl) (gw rfl (lod rfl (ld_box ts50 ta50 rfl rfl)) (c0 (raw_Ints_ok p0.Primary p1.Primary _ hq554) (ww rfl) rfl rfl rfl cb29 rfl (fun _ => rfl) (fun _ => rfl) (gw rfl (nt rfl) (s1 (pkf rfl rfl) (sm rfl (sp h1 (fun h1 => ?_) (fun h1 => ?_)))))))))
     ·have q := si h1; subst q
      exact kw rfl (kw rfl (kw rfl (kw rfl (kw rfl (kw rfl (kw rfl (s1 (pkt rfl rfl) (SO.nil ((wq rfl))))))))))
     ·have q := si h1; subst q
      exact gw rfl (far (k := 3) rfl fo53_3 ts51 rfl) (gw rfl (lod rfl (ld_box ts51 ta51 rfl rfl)) (gw rfl (len rfl rfl rfl (len_lst un51)) (gw rfl (far (k := 3) rfl fo53_3 ts51 rfl) (gw rfl (lod rfl (ld_box ts51 ta51 rfl rfl)) (gw rfl (len rfl rfl rfl (len_lst un51)) (gw rfl (bi rfl rfl q_i64_neq) (s1 (pkf rfl rfl) (SO.nil ((wq rfl))))))))))
 ·rintro y552 h0
  refine cB h0 rfl (fun h0 => ?_) (fun h0 => ?_)
  ·have q := si h0; subst q
   exact sr (sa rfl (sn (SC.ret (finR (wc (e' := [(4, .d (eB false))]) [] [] (by kernel_rfl) rfl (by kernel_rfl)) (lresT rfl lresN) rfl))))
  ·refine sk (SC.seqB h0 (fun y => ⟨mk 144 [(2, .ref 0 0 0), (3, .ref 1 0 0)], [.box (.d (eApiTable p0)), .box (.d (eApiTable p1))]⟩) ?_ ?_)
   ·intro u1_567 h1 h0
    obtain ⟨u2_575, h2, h1⟩ := ob h1
    refine sr (sa rfl (sn (SC.blk (SC.loopB h2 (fun y => ⟨mk 144 [(2, .ref 0 0 0), (3, .ref 1 0 0), (5, .d (eI y))], [.box (.d (eApiTable p0)), .box (.d (eApiTable p1))]⟩) (wq rfl) ?_))))
    intro n578
    rintro y570 w2_574 h3 hv3
    refine sq (sr (sm rfl (s1 (far (k := 1) rfl fo53_1 ts49 rfl) (s1 (lod rfl (ld_box ts49 ta49 rfl rfl)) (s1 (len rfl rfl rfl (len_lst un49)) (s1 (bi rfl rfl q_i64_lss) (sn (cB h3 rfl (fun h3 => ?_) (fun h3 => ?_)))))))))
    ·obtain ⟨v576, hv576, h3⟩ := ob h3; obtain ⟨v577, hv577, h3⟩ := ob h3
     refine sk (sq (SC.blk (sd (by kernel_rfl) (t1 ([], false) (far (k := 1) rfl fo53_1 ts49 rfl) rfl (t1 ([0], false) (lod rfl (ld_box ts49 ta49 rfl rfl)) rfl (t1 ([], false) (mv rfl) rfl (t1 ([], false) (ial rfl rfl un49 ts62 (getI_some hv576).1 (map_get (getI_some hv576).2) rfl) rfl (t1 ([], false) (lod (v := .d (eApiColumn v576)) rfl (ld_rop ts62 ta62 rfl)) rfl (t1 ([], false) (far (k := 1) rfl fo53_1 ts49 rfl) rfl ?_)))))))))
     refine t1 ([1], false) (lod rfl (ld_box ts49 ta49 rfl rfl)) rfl (t1 ([], false) (mv rfl) rfl (t1 ([], false) (ial rfl rfl un49 ts62 (getI_some hv577).1 (map_get (getI_some hv577).2) rfl) rfl (t1 ([], false) (lod (v := .d (eApiColumn v577)) rfl (ld_rop ts62 ta62 rfl)) rfl (t1 ([], false) (bi (v := .d (eB (!(eqApiColumn v576 v577)))) rfl rfl (fun X Y => eqApiColumn_neq_62 X Y v576 v577)) rfl (tn (by decide +kernel) (cB h3 rfl (fun h3 => ?_) (fun h3 => ?_)))))))
     ·have q := si h3; subst q; have q : _ = _ := hv3; subst q; have q := si h1; subst q; have q := si h0; subst q
      exact sr (sa rfl (sn (SC.ret (finR (wc (e' := [(4, .d (eB false))]) [] [] (by kernel_rfl) rfl (by kernel_rfl)) (lresT rfl lresN) rfl))))
     ·refine SC.skip ?_
      change SC _ _ _ _ _
      have q := si h3; subst q
      exact SC.region (sm rfl (s1 (bi rfl rfl q_i64_add) (sa rfl (SO.nil (lf (wq rfl))))))
    ·have q := si h3; subst q; have q : _ = _ := hv3; subst q; have q := si h1; subst q
     exact SC.exit (lf (wq rfl))
   ·intro _ h0
    refine SC.seqB h0 (fun y => ⟨mk 144 [], []⟩) ?_ ?_
    ·intro u1_701 h1 h0
     obtain ⟨u2_783, h2, h1⟩ := ob h1
     refine sr (sa rfl (sn (SC.blk (SC.loopB h2 (fun y => ⟨mk 144 [(2, .ref 0 0 0), (3, .ref 1 0 0), (6, .d (eI y))], [.box (.d (eApiTable p0)), .box (.d (eApiTable p1))]⟩) (wq rfl) ?_))))
     intro n823
     rintro y741 w2_782 h3 hv3
     refine sq (sr (sm rfl (s1 (far (k := 3) rfl fo53_3 ts51 rfl) (s1 (lod rfl (ld_box ts51 ta51 rfl rfl)) (s1 (len rfl rfl rfl (len_lst un51)) (s1 (bi rfl rfl q_i64_lss) (sn (cB h3 rfl (fun h3 => ?_) (fun h3 => ?_)))))))))
     ·refine sk (SC.seqB h3 (fun y => ⟨mk 144 [(2, .ref 0 0 0), (3, .ref 1 0 0), (6, .d (eI y741))], [.box (.d (eApiTable p0)), .box (.d (eApiTable p1))]⟩) ?_ ?_)
      ·intro u4_803 h4 h3
       obtain ⟨v804, hv804, h4⟩ := ob h4; obtain ⟨v805, hv805, h4⟩ := ob h4
       refine SC.blk (sr (s1 (far (k := 3) rfl fo53_3 ts51 rfl) (s1 (lod rfl (ld_box ts51 ta51 rfl rfl)) (sm rfl (s1 (ial rfl rfl un51 ts85 (getI_some hv804).1 (map_get (getI_some hv804).2) rfl) (s1 (lod (v := .d (eApiIndex v804)) rfl (ld_rop ts85 ta85 rfl)) (s1 (alo (k := 2) zo85 rfl) (s0 (sto rfl rfl (sB (d' := .d (eApiIndex v804)) ts85 rfl rfl rfl rfl rfl rfl rfl)) (sn ?_)))))))))
       refine sr (s1 (far (k := 3) rfl fo53_3 ts51 rfl) (s1 (lod rfl (ld_box ts51 ta51 rfl rfl)) (sm rfl (s1 (ial rfl rfl un51 ts85 (getI_some hv805).1 (map_get (getI_some hv805).2) rfl) (s1 (lod (v := .d (eApiIndex v805)) rfl (ld_rop ts85 ta85 rfl)) (s1 (alo (k := 3) zo85 rfl) (s0 (sto rfl rfl (sB (d' := .d (eApiIndex v805)) ts85 rfl rfl rfl rfl rfl rfl rfl)) (sn (sq ?_)))))))))
       refine SC.seqP h4 (fun y => ⟨mk 144 [(2, .ref 0 0 0), (3, .ref 1 0 0), (6, .d (eI y741)), (7, .ref 2 0 0), (8, .ref 3 0 0), (125, .d (eB y))], [.box (.d (eApiTable p0)), .box (.d (eApiTable p1)), .box (.d (eApiIndex v804)), .box (.d (eApiIndex v805))]⟩) ?_ ?_
       ·intro u5_809 h5
        refine SC.region (s1 (far (k := 0) rfl fo85_0 ts9 rfl) (s1 (lod rfl (ld_box ts9 ta9 rfl rfl)) (s1 (far (k := 0) rfl fo85_0 ts9 rfl) (s1 (lod rfl (ld_box ts9 ta9 rfl rfl)) (s1 (bi rfl rfl q_str_neq) (sm rfl (sp h5 (fun h5 => ?_) (fun h5 => ?_))))))))
        ·have q := si h5; subst q
         refine kw rfl (kw rfl (kw rfl (kw rfl (kw rfl (s1 (pkt rfl rfl) (sm rfl (kw rfl (kw rfl (kw rfl ?_)))))))))
         refine kw rfl (kw rfl (s1 (pkt rfl rfl) (sm rfl (kw rfl (kw rfl (kw rfl (kw rfl (kw rfl (s1 (pkt rfl rfl) ?_)))))))))
         refine sm rfl (kw rfl (kw rfl (kw rfl (kw rfl (kw rfl (kw rfl (s1 (pkt rfl rfl) (sm rfl (kw rfl ?_)))))))))
         exact kw rfl (kw rfl (kw rfl (kw rfl (kw rfl (kw rfl (s1 (pkt rfl rfl) (SO.nil ((wq rfl)))))))))
        ·refine gw rfl (far (k := 3) rfl fo85_3 ts4 rfl) (gw rfl (lod rfl (ld_box ts4 ta4 rfl rfl)) (gw rfl (far (k := 3) rfl fo85_3 ts4 rfl) (gw rfl (lod rfl (ld_box ts4 ta4 rfl rfl)) (gw rfl (bi (v := .d (eB (v804.Unique != v805.Unique))) rfl rfl (fun X Y => b_bool_neq un4 X Y v804.Unique v805.Unique)) (s1 (pkf rfl rfl) (sm rfl (sp h5 (fun h5 => ?_) (fun h5 => ?_))))))))
         ·have q := si h5; subst q
          refine kw rfl (kw rfl (kw rfl (kw rfl (kw rfl (s1 (pkt rfl rfl) (sm rfl (kw rfl (kw rfl (kw rfl ?_)))))))))
          refine kw rfl (kw rfl (s1 (pkt rfl rfl) (sm rfl (kw rfl (kw rfl (kw rfl (kw rfl (kw rfl (kw rfl ?_)))))))))
          refine s1 (pkt rfl rfl) (sm rfl (kw rfl (kw rfl (kw rfl (kw rfl (kw rfl (kw rfl (kw rfl (s1 (pkt rfl rfl) ?_)))))))))
          exact SO.nil ((wq rfl))
         ·refine gw rfl (far (k := 4) rfl fo85_4 ts4 rfl) (gw rfl (lod rfl (ld_box ts4 ta4 rfl rfl)) (gw rfl (far (k := 4) rfl fo85_4 ts4 rfl) (gw rfl (lod rfl (ld_box ts4 ta4 rfl rfl)) (gw rfl (bi (v := .d (eB (v804.Ready != v805.Ready))) rfl rfl (fun X Y => b_bool_neq un4 X Y v804.Ready v805.Ready)) (s1 (pkf rfl rfl) (sm rfl (sp h5 (fun h5 => ?_) (fun h5 => ?_))))))))
          ·have q := si h5; subst q
           refine kw rfl (kw rfl (kw rfl (kw rfl (kw rfl (s1 (pkt rfl rfl) (sm rfl (kw rfl (kw rfl (kw rfl ?_)))))))))
           refine kw rfl (kw rfl (kw rfl (s1 (pkt rfl rfl) (sm rfl (kw rfl (kw rfl (kw rfl (kw rfl (kw rfl ?_)))))))))
           exact kw rfl (kw rfl (s1 (pkt rfl rfl) (SO.nil ((wq rfl)))))
          ·refine gw rfl (far (k := 5) rfl fo85_5 ts3 rfl) (gw rfl (lod rfl (ld_box ts3 ta3 rfl rfl)) (gw rfl (far (k := 5) rfl fo85_5 ts3 rfl) (gw rfl (lod rfl (ld_box ts3 ta3 rfl rfl)) (gw rfl (bi rfl rfl q_i64_neq) (s1 (pkf rfl rfl) (sm rfl (sp h5 (fun h5 => ?_) (fun h5 => ?_))))))))
           ·have q := si h5; subst q
            refine kw rfl (kw rfl (kw rfl (kw rfl (kw rfl (kw rfl (s1 (pkt rfl rfl) (sm rfl (kw rfl (kw rfl ?_)))))))))
            exact kw rfl (kw rfl (kw rfl (kw rfl (kw rfl (s1 (pkt rfl rfl) (SO.nil ((wq rfl))))))))
           ·obtain ⟨r811, hq810, h5⟩ := ob h5
            refine gw rfl (far (k := 2) rfl fo85_2 ts50 rfl) (gw rfl (lod rfl (ld_box ts50 ta50 rfl rfl)) (gw rfl (far (k := 2) rfl fo85_2 ts50 rfl) (gw rfl (lod rfl (ld_box ts50 ta50 rfl rfl)) (c0 (raw_Ints_ok v804.Extra v805.Extra _ hq810) (ww rfl) rfl rfl rfl cb29 rfl (fun _ => rfl) (fun _ => rfl) (gw rfl (nt rfl) (s1 (pkf rfl rfl) (sm rfl (sp h5 (fun h5 => ?_) (fun h5 => ?_)))))))))
            ·have q := si h5; subst q
             exact kw rfl (kw rfl (kw rfl (kw rfl (kw rfl (kw rfl (kw rfl (s1 (pkt rfl rfl) (SO.nil ((wq rfl))))))))))
            ·have q := si h5; subst q
             exact gw rfl (far (k := 1) rfl fo85_1 ts83 rfl) (gw rfl (lod rfl (ld_box ts83 ta83 rfl rfl)) (gw rfl (len rfl rfl rfl (len_lst un83)) (gw rfl (far (k := 1) rfl fo85_1 ts83 rfl) (gw rfl (lod rfl (ld_box ts83 ta83 rfl rfl)) (gw rfl (len rfl rfl rfl (len_lst un83)) (gw rfl (bi rfl rfl q_i64_neq) (s1 (pkf rfl rfl) (SO.nil ((wq rfl))))))))))
       ·rintro y808 h4
        refine cB h4 rfl (fun h4 => ?_) (fun h4 => ?_)
        ·have q := si h4; subst q; have q := si h3; subst q; have q : _ = _ := hv3; subst q; have q := si h1; subst q; have q := si h0; subst q
         exact sr (sa rfl (sn (SC.ret (finR (wc (e' := [(4, .d (eB false))]) [] [] (by kernel_rfl) rfl (by kernel_rfl)) (lresT rfl lresN) rfl))))
        ·obtain ⟨u5_819, h5, h4⟩ := ob h4
         refine sk (sr (sa rfl (sn (SC.blk (SC.loopB h5 (fun y => ⟨mk 144 [(2, .ref 0 0 0), (3, .ref 1 0 0), (6, .d (eI y741)), (7, .ref 2 0 0), (8, .ref 3 0 0), (9, .d (eI y))], [.box (.d (eApiTable p0)), .box (.d (eApiTable p1)), .box (.d (eApiIndex v804)), .box (.d (eApiIndex v805))]⟩) (wq rfl) ?_)))))
         intro n822
         rintro y814 w5_818 h6 hv6
         refine sq (sr (sm rfl (s1 (far (k := 1) rfl fo85_1 ts83 rfl) (s1 (lod rfl (ld_box ts83 ta83 rfl rfl)) (s1 (len rfl rfl rfl (len_lst un83)) (s1 (bi rfl rfl q_i64_lss) (sn (cB h6 rfl (fun h6 => ?_) (fun h6 => ?_)))))))))
         ·obtain ⟨v820, hv820, h6⟩ := ob h6; obtain ⟨v821, hv821, h6⟩ := ob h6
          refine sk (sq (SC.blk (sd (by kernel_rfl) (t1 ([], false) (far (k := 1) rfl fo85_1 ts83 rfl) rfl (t1 ([2], false) (lod rfl (ld_box ts83 ta83 rfl rfl)) rfl (t1 ([], false) (mv rfl) rfl (t1 ([], false) (ial rfl rfl un83 ts92 (getI_some hv820).1 (map_get (getI_some hv820).2) rfl) rfl (t1 ([], false) (lod (v := .d (eApiPart v820)) rfl (ld_rop ts92 ta92 rfl)) rfl (t1 ([], false) (far (k := 1) rfl fo85_1 ts83 rfl) rfl ?_)))))))))
          refine t1 ([3], false) (lod rfl (ld_box ts83 ta83 rfl rfl)) rfl (t1 ([], false) (mv rfl) rfl (t1 ([], false) (ial rfl rfl un83 ts92 (getI_some hv821).1 (map_get (getI_some hv821).2) rfl) rfl (t1 ([], false) (lod (v := .d (eApiPart v821)) rfl (ld_rop ts92 ta92 rfl)) rfl (t1 ([], false) (bi (v := .d (eB (!(eqApiPart v820 v821)))) rfl rfl (fun X Y => eqApiPart_neq_92 X Y v820 v821)) rfl (tn (by decide +kernel) (cB h6 rfl (fun h6 => ?_) (fun h6 => ?_)))))))
          ·have q := si h6; subst q; have q : _ = _ := hv6; subst q; have q := si h4; subst q; have q := si h3; subst q; have q : _ = _ := hv3; subst q; have q := si h1; subst q; have q := si h0; subst q
           exact sr (sa rfl (sn (SC.ret (finR (wc (e' := [(4, .d (eB false))]) [] [] (by kernel_rfl) rfl (by kernel_rfl)) (lresT rfl lresN) rfl))))
          ·refine SC.skip ?_
           change SC _ _ _ _ _
           have q := si h6; subst q
           exact SC.region (sm rfl (s1 (bi rfl rfl q_i64_add) (sa rfl (SO.nil (lf (wq rfl))))))
         ·have q := si h6; subst q; have q : _ = _ := hv6; subst q; have q := si h4; subst q
          exact SC.exit (lf (wc [0, 1] [0, 1] (by kernel_rfl) rfl (by kernel_rfl)))
      ·intro _ h3
       have q := si h3; subst q
       exact SC.region (sm rfl (s1 (bi rfl rfl q_i64_add) (sa rfl (SO.nil (lf (wq rfl))))))
     ·have q := si h3; subst q; have q : _ = _ := hv3; subst q; have q := si h1; subst q
      exact SC.exit (lf (wc [] [] (by kernel_rfl) rfl (by kernel_rfl)))
    ·intro _ h0
     have q := si h0; subst q
     exact sr (sa rfl (sn (SC.ret (finR (Wk.refl _) (lresT rfl lresN) rfl))))
noncomputable def law18_awake : Option Bool :=
 Option.bind (catalog_Pairs (ApiTable.mk ([97] : List UInt8) [(ApiColumn.mk ([105, 100] : List UInt8) (1 : Int) (0 : Int) false (ApiValue.mk (1 : Int) (0 : UInt64) ([] : List UInt8)))] [(0 : Int)] ([] : List ApiIndex) (2 : Int))) fun (r47, r48) =>
 Option.bind (catalog_Read r47) fun (r50, r51) =>
 Option.bind (catalog_Ops (1 : Int) [(ApiPair.mk ([97] : List UInt8) ([] : List UInt8))] [(ApiPair.mk ([98] : List UInt8) ([] : List UInt8))]) fun r53 =>
 Option.bind (α := Bool)
 (bif (r48 == (0 : Int)) then
 bif ((r47.length : Int) == (2 : Int)) then
 Option.bind (getI r47 (0 : Int)) fun v62 =>
 bif (v62.Key == ([116, 97] : List UInt8)) then
 Option.bind (getI r47 (0 : Int)) fun v63 =>
 bif (v63.Val == ([0, 2, 1, 1, 0, 0] : List UInt8)) then
 bif (r51 == (0 : Int)) then
 bif ((r50.length : Int) == (1 : Int)) then
 Option.bind (getI r50 (0 : Int)) fun v64 =>
 Option.bind (ref17_Same v64 (ApiTable.mk ([97] : List UInt8) [(ApiColumn.mk ([105, 100] : List UInt8) (1 : Int) (0 : Int) false (ApiValue.mk (1 : Int) (0 : UInt64) ([] : List UInt8)))] [(0 : Int)] ([] : List ApiIndex) (2 : Int))) fun r66 =>
 bif r66 then
 bif ((r53.length : Int) == (2 : Int)) then
 Option.bind (getI r53 (1 : Int)) fun v67 =>
 some (v67.Msg.Key == ([98] : List UInt8))
 else
 some false
 else
 some false
 else
 some false
 else
 some false
 else
 some false
 else
 some false
 else
 some false
 else
 some false)
 fun y60 =>
 some y60
theorem law18_awake_ok (r : Bool) (h0 : law18_awake = some r) : CallAt Tryd.prog 6 [] [] (.d (eB r)) [] := by
 unfold law18_awake at h0
 refine fn0 [] Tryd.func6 rfl rfl rfl rfl rfl ?_
 obtain ⟨⟨r47, r48⟩, hq46, h0⟩ := ob h0; obtain ⟨⟨r50, r51⟩, hq49, h0⟩ := ob h0; obtain ⟨r53, hq52, h0⟩ := ob h0
 refine sr (sa rfl (sn (sr (s1 (bld rfl (bd60_0 (1 : Int))) (s1 (bld rfl (bd62_0_1_4 ([105, 100] : List UInt8) (1 : Int) (ApiValue.mk (1 : Int) (0 : UInt64) ([] : List UInt8)))) (s1 (bsn (k := 0) (ds := List.map eApiColumn [(ApiColumn.mk ([105, 100] : List UInt8) (1 : Int) (0 : Int) false (ApiValue.mk (1 : Int) (0 : UInt64) ([] : List UInt8)))]) (off := 0) (l' := [(ApiColumn.mk ([105, 100] : List UInt8) (1 : Int) (0 : Int) false (ApiValue.mk (1 : Int) (0 : UInt64) ([] : List UInt8)))].length) rfl un49 ei62 rfl rfl (by rfl) rfl rfl rfl) (s1 (bsn (k := 1) (ds := List.map eI [(0 : Int)]) (off := 0) (l' := [(0 : Int)].length) rfl un50 ei3 rfl rfl (by rfl) rfl rfl rfl) (s1 (bld rfl (bd53_0_1_2_4 ([97] : List UInt8) (2 : Int))) (s1 (alo (k := 2) zo53 rfl) ?_)))))))))
 refine s0 (sto rfl rfl (sB (d' := .agg [.d (eS ([97] : List UInt8)), .slc 0 7 0 ([(ApiColumn.mk ([105, 100] : List UInt8) (1 : Int) (0 : Int) false (ApiValue.mk (1 : Int) (0 : UInt64) ([] : List UInt8)))].length) none, .slc 1 1 0 ([(0 : Int)].length) none, .d .nils, .d (eI (2 : Int))]) ts53 rfl rfl rfl rfl rfl rfl rfl)) (sn (sr (s1 (lod (v := .agg [.d (eS ([97] : List UInt8)), .slc 0 7 0 ([(ApiColumn.mk ([105, 100] : List UInt8) (1 : Int) (0 : Int) false (ApiValue.mk (1 : Int) (0 : UInt64) ([] : List UInt8)))].length) none, .slc 1 1 0 ([(0 : Int)].length) none, .d .nils, .d (eI (2 : Int))]) rfl (ld_box ts53 ta53 rfl rfl)) (cq (args' := [.agg [.d (eS ([97] : List UInt8)), .slc 0 7 0 ([(ApiColumn.mk ([105, 100] : List UInt8) (1 : Int) (0 : Int) false (ApiValue.mk (1 : Int) (0 : UInt64) ([] : List UInt8)))].length) none, .slc 1 1 0 ([(0 : Int)].length) none, .d .nils, .d (eI (2 : Int))]]) (σc := [.row 7 (List.map eApiColumn [(ApiColumn.mk ([105, 100] : List UInt8) (1 : Int) (0 : Int) false (ApiValue.mk (1 : Int) (0 : UInt64) ([] : List UInt8)))]) true, .row 1 (List.map eI [(0 : Int)]) true]) [0, 1] [] (CallAt.frz (ArgF.frzw (y := .d (eApiTable (ApiTable.mk ([97] : List UInt8) [(ApiColumn.mk ([105, 100] : List UInt8) (1 : Int) (0 : Int) false (ApiValue.mk (1 : Int) (0 : UInt64) ([] : List UInt8)))] [(0 : Int)] ([] : List ApiIndex) (2 : Int)))) rfl (frzs_d rfl (frzs_slc (fF rfl rfl rfl) (frzs_slc (fF rfl rfl rfl) (frzs_d rfl (frzs_d rfl frzs_nil))))) (AW.aggd rfl (AWs.cons (AW.refl _) (AWs.cons (AW.refl _) (AWs.cons (AW.refl _) (AWs.cons (AW.nl _) (AWs.cons (AW.refl _) AWs.nil)))))) (ArgF.nil _)) (fq [] [] (catalog_Pairs_ok (ApiTable.mk ([97] : List UInt8) [(ApiColumn.mk ([105, 100] : List UInt8) (1 : Int) (0 : Int) false (ApiValue.mk (1 : Int) (0 : UInt64) ([] : List UInt8)))] [(0 : Int)] ([] : List ApiIndex) (2 : Int)) _ hq46) rfl rfl rfl rfl rfl rfl rfl rfl)) wf rfl rfl rfl cb11 rfl rfl rfl rfl rfl rfl rfl rfl ?_))))
 refine sm rfl (s1 (ext rfl rfl) (s1 (ext rfl rfl) (sa rfl (sa rfl (sn (sr (sm rfl (c0 (catalog_Read_ok r47 _ hq49) wf rfl rfl rfl cb12 rfl (fun _ => rfl) (fun _ => rfl) (sm rfl ?_)))))))))
 refine s1 (ext rfl rfl) (s1 (ext rfl rfl) (sa rfl (sa rfl (sn (sr (s1 (bld rfl (bd25_0 ([97] : List UInt8))) (s1 (bsn (k := 3) (ds := List.map eApiPair [(ApiPair.mk ([97] : List UInt8) ([] : List UInt8))]) (off := 0) (l' := [(ApiPair.mk ([97] : List UInt8) ([] : List UInt8))].length) rfl un22 ei25 rfl rfl (by rfl) rfl rfl rfl) (s1 (bld rfl (bd25_0 ([98] : List UInt8))) (s1 (bsn (k := 4) (ds := List.map eApiPair [(ApiPair.mk ([98] : List UInt8) ([] : List UInt8))]) (off := 0) (l' := [(ApiPair.mk ([98] : List UInt8) ([] : List UInt8))].length) rfl un22 ei25 rfl rfl (by rfl) rfl rfl rfl) ?_)))))))))
 refine cq (args' := [.d (eI (1 : Int)), .slc 0 2 0 ([(ApiPair.mk ([97] : List UInt8) ([] : List UInt8))].length) none, .slc 1 2 0 ([(ApiPair.mk ([98] : List UInt8) ([] : List UInt8))].length) none]) (σc := [.row 2 (List.map eApiPair [(ApiPair.mk ([97] : List UInt8) ([] : List UInt8))]) true, .row 2 (List.map eApiPair [(ApiPair.mk ([98] : List UInt8) ([] : List UInt8))]) true]) [3, 4] [] (CallAt.frz (ArgF.keep (ArgF.frz (fF rfl rfl rfl) (ArgF.frz (fF rfl rfl rfl) (ArgF.nil _)))) (fq [] [] (catalog_Ops_ok (1 : Int) [(ApiPair.mk ([97] : List UInt8) ([] : List UInt8))] [(ApiPair.mk ([98] : List UInt8) ([] : List UInt8))] _ hq52) rfl rfl rfl rfl rfl rfl rfl rfl)) wf rfl rfl rfl cb7 rfl rfl rfl rfl rfl rfl rfl rfl (sa rfl (sn (SC.seqP h0 (fun y => ⟨mk 77 [(0, .d (eB y))], []⟩) ?_ ?_)))
 ·intro u1_61 h1
  refine SC.draws (by kernel_rfl) (t1 ([], false) (mv rfl) rfl (t1 ([], false) (bi rfl rfl q_i64_eql) rfl (t1 ([], false) (mv rfl) rfl (tp h1 (fun h1 => ?_) (fun h1 => ?_)))))
  ·refine u1 ([], false) (ww rfl) (mv rfl) rfl (u1 ([], false) (ww rfl) (len rfl rfl rfl (len_lst un22)) rfl (u1 ([], false) (ww rfl) (bi rfl rfl q_i64_eql) rfl (t1 ([], false) (pkt rfl rfl) rfl (t1 ([], false) (mv rfl) rfl (tp h1 (fun h1 => ?_) (fun h1 => ?_))))))
   ·obtain ⟨v62, hv62, h1⟩ := ob h1
    refine u1 ([], false) (ww rfl) (mv rfl) rfl (u1 ([], false) (ww rfl) (ial rfl rfl un22 ts25 (getI_some hv62).1 (map_get (getI_some hv62).2) rfl) rfl (u1 ([], false) (ww rfl) (fap rfl fo25_0 ts9 rfl) rfl (u1 ([], false) (ww rfl) (lod rfl (ld_rop ts9 ta9 rfl)) rfl (u1 ([], false) (ww rfl) (bi rfl rfl (q_str_eql (b := ([116, 97] : List UInt8)))) rfl (t1 ([], false) (pkt rfl rfl) rfl (t1 ([], false) (mv rfl) rfl (tp h1 (fun h1 => ?_) (fun h1 => ?_))))))))
    ·obtain ⟨v63, hv63, h1⟩ := ob h1
     refine u1 ([], false) (ww rfl) (mv rfl) rfl (u1 ([], false) (ww rfl) (ial rfl rfl un22 ts25 (getI_some hv63).1 (map_get (getI_some hv63).2) rfl) rfl (u1 ([], false) (ww rfl) (fap rfl fo25_1 ts9 rfl) rfl (u1 ([], false) (ww rfl) (lod rfl (ld_rop ts9 ta9 rfl)) rfl (u1 ([], false) (ww rfl) (bi rfl rfl (q_str_eql (b := ([0, 2, 1, 1, 0, 0] : List UInt8)))) rfl (t1 ([], false) (pkt rfl rfl) rfl (t1 ([], false) (mv rfl) rfl (tp h1 (fun h1 => ?_) (fun h1 => ?_))))))))
     ·refine u1 ([], false) (ww rfl) (mv rfl) rfl (u1 ([], false) (ww rfl) (bi rfl rfl q_i64_eql) rfl (t1 ([], false) (pkt rfl rfl) rfl (t1 ([], false) (mv rfl) rfl (tp h1 (fun h1 => ?_) (fun h1 => ?_)))))
      ·refine u1 ([], false) (ww rfl) (mv rfl) rfl (u1 ([], false) (ww rfl) (len rfl rfl rfl (len_lst un45)) rfl (u1 ([], false) (ww rfl) (bi rfl rfl q_i64_eql) rfl (t1 ([], false) (pkt rfl rfl) rfl (t1 ([], false) (mv rfl) rfl (tp h1 (fun h1 => ?_) (fun h1 => ?_))))))
       ·obtain ⟨v64, hv64, h1⟩ := ob h1; obtain ⟨r66, hq65, h1⟩ := ob h1
        refine u1 ([], false) (ww rfl) (mv rfl) rfl (u1 ([], false) (ww rfl) (ial rfl rfl un45 ts53 (getI_some hv64).1 (map_get (getI_some hv64).2) rfl) rfl (u1 ([], false) (ww rfl) (lod (v := .d (eApiTable v64)) rfl (ld_rop ts53 ta53 rfl)) rfl (u1 ([2], false) (ww rfl) (lod (v := .agg [.d (eS ([97] : List UInt8)), .slc 0 7 0 ([(ApiColumn.mk ([105, 100] : List UInt8) (1 : Int) (0 : Int) false (ApiValue.mk (1 : Int) (0 : UInt64) ([] : List UInt8)))].length) none, .slc 1 1 0 ([(0 : Int)].length) none, .d .nils, .d (eI (2 : Int))]) rfl (ld_box ts53 ta53 rfl rfl)) rfl (tqr (args' := [.d (eApiTable v64), .agg [.d (eS ([97] : List UInt8)), .slc 0 7 0 ([(ApiColumn.mk ([105, 100] : List UInt8) (1 : Int) (0 : Int) false (ApiValue.mk (1 : Int) (0 : UInt64) ([] : List UInt8)))].length) none, .slc 1 1 0 ([(0 : Int)].length) none, .d .nils, .d (eI (2 : Int))]]) (σc := [.row 7 (List.map eApiColumn [(ApiColumn.mk ([105, 100] : List UInt8) (1 : Int) (0 : Int) false (ApiValue.mk (1 : Int) (0 : UInt64) ([] : List UInt8)))]) false, .row 1 (List.map eI [(0 : Int)]) false]) [0, 1] [0, 1] (CallAt.frz (ArgF.keep (ArgF.frzw (y := .d (eApiTable (ApiTable.mk ([97] : List UInt8) [(ApiColumn.mk ([105, 100] : List UInt8) (1 : Int) (0 : Int) false (ApiValue.mk (1 : Int) (0 : UInt64) ([] : List UInt8)))] [(0 : Int)] ([] : List ApiIndex) (2 : Int)))) rfl (frzs_d rfl (frzs_slc (fF rfl rfl rfl) (frzs_slc (fF rfl rfl rfl) (frzs_d rfl (frzs_d rfl frzs_nil))))) (AW.aggd rfl (AWs.cons (AW.refl _) (AWs.cons (AW.refl _) (AWs.cons (AW.refl _) (AWs.cons (AW.nl _) (AWs.cons (AW.refl _) AWs.nil)))))) (ArgF.nil _))) (fq [] [] (ref17_Same_ok v64 (ApiTable.mk ([97] : List UInt8) [(ApiColumn.mk ([105, 100] : List UInt8) (1 : Int) (0 : Int) false (ApiValue.mk (1 : Int) (0 : UInt64) ([] : List UInt8)))] [(0 : Int)] ([] : List ApiIndex) (2 : Int)) _ hq65) rfl rfl rfl rfl rfl rfl rfl rfl)) (ww rfl) rfl rfl rfl cb15 rfl rfl rfl rfl rfl rfl rfl rfl ?_))))
        refine t1 ([], false) (pkt rfl rfl) rfl (t1 ([], false) (mv rfl) rfl (tp h1 (fun h1 => ?_) (fun h1 => ?_)))
        ·refine u1 ([], false) (ww rfl) (mv rfl) rfl (u1 ([], false) (ww rfl) (len rfl rfl rfl (len_lst un26)) rfl (u1 ([], false) (ww rfl) (bi rfl rfl q_i64_eql) rfl (t1 ([], false) (pkt rfl rfl) rfl (t1 ([], false) (mv rfl) rfl (tp h1 (fun h1 => ?_) (fun h1 => ?_))))))
         ·obtain ⟨v67, hv67, h1⟩ := ob h1; have q := si h1; subst q
          refine u1 ([], false) (ww rfl) (mv rfl) rfl (u1 ([], false) (ww rfl) (ial rfl rfl un26 ts39 (getI_some hv67).1 (map_get (getI_some hv67).2) rfl) rfl (u1 ([], false) (ww rfl) (fap rfl fo39_2 ts37 rfl) rfl (u1 ([], false) (ww rfl) (fap rfl fo37_2 ts9 rfl) rfl (u1 ([], false) (ww rfl) (lod rfl (ld_rop ts9 ta9 rfl)) rfl (u1 ([], false) (ww rfl) (bi rfl rfl (q_str_eql (b := ([98] : List UInt8)))) rfl (t1 ([], false) (pkt rfl rfl) rfl (t1 ([], false) (asg rfl) rfl (ST.nil (And.intro (by decide +kernel) ?_)))))))))
          exact (wc [] [] (by kernel_rfl) rfl (by kernel_rfl))
         ·have q := si h1; subst q
          refine jw rfl (jw rfl (jw rfl (jw rfl (jw rfl (jw rfl (t1 ([], false) (pkf rfl rfl) rfl (t1 ([], false) (asg rfl) rfl (ST.nil (And.intro (by decide +kernel) ?_)))))))))
          exact (wc [] [] (by kernel_rfl) rfl (by kernel_rfl))
        ·have q := si h1; subst q
         refine jw rfl (jw rfl (jw rfl (t1 ([], false) (pkf rfl rfl) rfl (t1 ([], false) (mv rfl) rfl (jw rfl (jw rfl (jw rfl (jw rfl (jw rfl ?_)))))))))
         refine jw rfl (t1 ([], false) (pkf rfl rfl) rfl (t1 ([], false) (asg rfl) rfl (ST.nil (And.intro (by decide +kernel) ?_))))
         exact (wc [] [] (by kernel_rfl) rfl (by kernel_rfl))
       ·have q := si h1; subst q
        refine jw rfl (jw rfl (jw rfl (jw rfl (jw rfl (t1 ([], false) (pkf rfl rfl) rfl (t1 ([], false) (mv rfl) rfl (jw rfl (jw rfl (jw rfl ?_)))))))))
        refine t1 ([], false) (pkf rfl rfl) rfl (t1 ([], false) (mv rfl) rfl (jw rfl (jw rfl (jw rfl (jw rfl (jw rfl (jw rfl (t1 ([], false) (pkf rfl rfl) rfl (t1 ([], false) (asg rfl) rfl ?_)))))))))
        refine ST.nil (And.intro (by decide +kernel) ?_)
        exact (wc [] [] (by kernel_rfl) rfl (by kernel_rfl))
      ·have q := si h1; subst q
       refine jw rfl (jw rfl (jw rfl (t1 ([], false) (pkf rfl rfl) rfl (t1 ([], false) (mv rfl) rfl (jw rfl (jw rfl (jw rfl (jw rfl (jw rfl ?_)))))))))
       refine t1 ([], false) (pkf rfl rfl) rfl (t1 ([], false) (mv rfl) rfl (jw rfl (jw rfl (jw rfl (t1 ([], false) (pkf rfl rfl) rfl (t1 ([], false) (mv rfl) rfl (jw rfl (jw rfl (jw rfl ?_)))))))))
       refine jw rfl (jw rfl (jw rfl (t1 ([], false) (pkf rfl rfl) rfl (t1 ([], false) (asg rfl) rfl (ST.nil (And.intro (by decide +kernel) ?_))))))
       exact (wc [] [] (by kernel_rfl) rfl (by kernel_rfl))
     ·have q := si h1; subst q
      refine jw rfl (jw rfl (t1 ([], false) (pkf rfl rfl) rfl (t1 ([], false) (mv rfl) rfl (jw rfl (jw rfl (jw rfl (t1 ([], false) (pkf rfl rfl) rfl (t1 ([], false) (mv rfl) rfl (jw rfl ?_)))))))))
      refine jw rfl (jw rfl (jw rfl (jw rfl (t1 ([], false) (pkf rfl rfl) rfl (t1 ([], false) (mv rfl) rfl (jw rfl (jw rfl (jw rfl (t1 ([], false) (pkf rfl rfl) rfl ?_)))))))))
      refine t1 ([], false) (mv rfl) rfl (jw rfl (jw rfl (jw rfl (jw rfl (jw rfl (jw rfl (t1 ([], false) (pkf rfl rfl) rfl (t1 ([], false) (asg rfl) rfl (ST.nil (And.intro (by decide +kernel) ?_))))))))))
      exact (wc [] [] (by kernel_rfl) rfl (by kernel_rfl))
    ·have q := si h1; subst q
     refine jw rfl (jw rfl (jw rfl (jw rfl (jw rfl (t1 ([], false) (pkf rfl rfl) rfl (t1 ([], false) (mv rfl) rfl (jw rfl (jw rfl (t1 ([], false) (pkf rfl rfl) rfl ?_)))))))))
     refine t1 ([], false) (mv rfl) rfl (jw rfl (jw rfl (jw rfl (t1 ([], false) (pkf rfl rfl) rfl (t1 ([], false) (mv rfl) rfl (jw rfl (jw rfl (jw rfl (jw rfl ?_)))))))))
     refine jw rfl (t1 ([], false) (pkf rfl rfl) rfl (t1 ([], false) (mv rfl) rfl (jw rfl (jw rfl (jw rfl (t1 ([], false) (pkf rfl rfl) rfl (t1 ([], false) (mv rfl) rfl (jw rfl (jw rfl ?_)))))))))
     refine jw rfl (jw rfl (jw rfl (jw rfl (t1 ([], false) (pkf rfl rfl) rfl (t1 ([], false) (asg rfl) rfl (ST.nil (And.intro (by decide +kernel) ?_)))))))
     exact (wc [] [] (by kernel_rfl) rfl (by kernel_rfl))
   ·have q := si h1; subst q
    refine jw rfl (jw rfl (jw rfl (jw rfl (jw rfl (t1 ([], false) (pkf rfl rfl) rfl (t1 ([], false) (mv rfl) rfl (jw rfl (jw rfl (jw rfl ?_)))))))))
    refine jw rfl (jw rfl (t1 ([], false) (pkf rfl rfl) rfl (t1 ([], false) (mv rfl) rfl (jw rfl (jw rfl (t1 ([], false) (pkf rfl rfl) rfl (t1 ([], false) (mv rfl) rfl (jw rfl (jw rfl ?_)))))))))
    refine jw rfl (t1 ([], false) (pkf rfl rfl) rfl (t1 ([], false) (mv rfl) rfl (jw rfl (jw rfl (jw rfl (jw rfl (jw rfl (t1 ([], false) (pkf rfl rfl) rfl (t1 ([], false) (mv rfl) rfl ?_)))))))))
    refine jw rfl (jw rfl (jw rfl (t1 ([], false) (pkf rfl rfl) rfl (t1 ([], false) (mv rfl) rfl (jw rfl (jw rfl (jw rfl (jw rfl (jw rfl ?_)))))))))
    refine jw rfl (t1 ([], false) (pkf rfl rfl) rfl (t1 ([], false) (asg rfl) rfl (ST.nil (And.intro (by decide +kernel) ?_))))
    exact (wc [] [] (by kernel_rfl) rfl (by kernel_rfl))
  ·have q := si h1; subst q
   refine jw rfl (jw rfl (jw rfl (t1 ([], false) (pkf rfl rfl) rfl (t1 ([], false) (mv rfl) rfl (jw rfl (jw rfl (jw rfl (jw rfl (jw rfl ?_)))))))))
   refine t1 ([], false) (pkf rfl rfl) rfl (t1 ([], false) (mv rfl) rfl (jw rfl (jw rfl (jw rfl (jw rfl (jw rfl (t1 ([], false) (pkf rfl rfl) rfl (t1 ([], false) (mv rfl) rfl (jw rfl ?_)))))))))
   refine jw rfl (t1 ([], false) (pkf rfl rfl) rfl (t1 ([], false) (mv rfl) rfl (jw rfl (jw rfl (jw rfl (t1 ([], false) (pkf rfl rfl) rfl (t1 ([], false) (mv rfl) rfl (jw rfl (jw rfl ?_)))))))))
   refine jw rfl (jw rfl (jw rfl (t1 ([], false) (pkf rfl rfl) rfl (t1 ([], false) (mv rfl) rfl (jw rfl (jw rfl (jw rfl (t1 ([], false) (pkf rfl rfl) rfl (t1 ([], false) (mv rfl) rfl ?_)))))))))
   refine jw rfl (jw rfl (jw rfl (jw rfl (jw rfl (jw rfl (t1 ([], false) (pkf rfl rfl) rfl (t1 ([], false) (asg rfl) rfl (ST.nil (And.intro (by decide +kernel) ?_)))))))))
   exact (wc [] [] (by kernel_rfl) rfl (by kernel_rfl))
 ·rintro y60 h0
  have q := si h0; subst q
  exact SC.ret (finR (Wk.refl _) (lresT rfl lresN) rfl)
noncomputable def law18_same (p0 : List ApiTable) (p1 : List ApiTable) : Option Bool :=
 bif ((p0.length : Int) != (p1.length : Int)) then
 some false
 else
 bindE (Y := Unit) (E := Bool)
 (Option.bind (α := Unit ⊕ Bool)
 (loop (Y := Int) (W := Unit ⊕ Bool) (fun y94 =>
 bif (decide (y94 < (p0.length : Int))) then
 Option.bind (getI p0 y94) fun v102 =>
 Option.bind (getI p1 y94) fun v103 =>
 Option.bind (ref17_Same v102 v103) fun r105 =>
 bif (!r105) then
 some (Sum.inr (Sum.inr false))
 else
 some (Sum.inl (w64 (y94 + (1 : Int))))
 else
 some (Sum.inr (Sum.inl ()))) (0 : Int))
 (Sum.elim (fun e => some (Sum.inl e)) (fun e => some (Sum.inr e))))
 (fun _ =>
 some true)
 (fun e => some e)
theorem law18_same_ok (p0 : List ApiTable) (p1 : List ApiTable) (r : Bool) (h0 : law18_same p0 p1 = some r) : CallAt Tryd.prog 13 [.d ((eL 5 eApiTable) p0), .d ((eL 5 eApiTable) p1)] [] (.d (eB r)) [] := by
 unfold law18_same at h0
 refine fn0 [0, 1] Tryd.func13 rfl rfl rfl rfl rfl ?_
 refine sr (sa rfl (sn (sq (sr (sm rfl (s1 (len rfl rfl rfl (len_lst un45)) (sm rfl (s1 (len rfl rfl rfl (len_lst un45)) (s1 (bi rfl rfl q_i64_neq) ?_)))))))))
 refine sn (cB h0 rfl (fun h0 => ?_) (fun h0 => ?_))
 ·have q := si h0; subst q
  exact sr (sa rfl (sn (SC.ret (finR (Wk.refl _) (lresT rfl lresN) rfl))))
 ·refine sk (SC.seqB h0 (fun y => ⟨mk 27 [], []⟩) ?_ ?_)
  ·intro u1_89 h1 h0
   obtain ⟨u2_101, h2, h1⟩ := ob h1
   refine sr (sa rfl (sn (SC.blk (SC.loopB h2 (fun y => ⟨mk 27 [(0, .d ((eL 5 eApiTable) p0)), (1, .d ((eL 5 eApiTable) p1)), (5, .d (eI y))], []⟩) (wq rfl) ?_))))
   intro n106
   rintro y94 w2_100 h3 hv3
   refine sq (sr (sm rfl (sm rfl (s1 (len rfl rfl rfl (len_lst un45)) (s1 (bi rfl rfl q_i64_lss) (sn (cB h3 rfl (fun h3 => ?_) (fun h3 => ?_))))))))
   ·obtain ⟨v102, hv102, h3⟩ := ob h3; obtain ⟨v103, hv103, h3⟩ := ob h3; obtain ⟨r105, hq104, h3⟩ := ob h3
    refine sk (sq (SC.blk (sd (by kernel_rfl) (t1 ([], false) (mv rfl) rfl (t1 ([], false) (mv rfl) rfl (t1 ([], false) (ial rfl rfl un45 ts53 (getI_some hv102).1 (map_get (getI_some hv102).2) rfl) rfl (t1 ([], false) (lod (v := .d (eApiTable v102)) rfl (ld_rop ts53 ta53 rfl)) rfl (t1 ([], false) (mv rfl) rfl (t1 ([], false) (mv rfl) rfl ?_)))))))))
    refine t1 ([], false) (ial rfl rfl un45 ts53 (getI_some hv103).1 (map_get (getI_some hv103).2) rfl) rfl (t1 ([], false) (lod (v := .d (eApiTable v103)) rfl (ld_rop ts53 ta53 rfl)) rfl (tc0 (ref17_Same_ok v102 v103 _ hq104) wf rfl rfl rfl cb15 rfl (fun _ => rfl) (fun _ => rfl) (t1 ([], false) (nt rfl) rfl (tn (by decide +kernel) (cB h3 rfl (fun h3 => ?_) (fun h3 => ?_))))))
    ·have q := si h3; subst q; have q : _ = _ := hv3; subst q; have q := si h1; subst q; have q := si h0; subst q
     exact sr (sa rfl (sn (SC.ret (finR (Wk.refl _) (lresT rfl lresN) rfl))))
    ·refine SC.skip ?_
     change SC _ _ _ _ _
     have q := si h3; subst q
     exact SC.region (sm rfl (s1 (bi rfl rfl q_i64_add) (sa rfl (SO.nil (lf (wq rfl))))))
   ·have q := si h3; subst q; have q : _ = _ := hv3; subst q; have q := si h1; subst q
    exact SC.exit (lf (wq rfl))
  ·intro _ h0
   have q := si h0; subst q
   exact sr (sa rfl (sn (SC.ret (finR (Wk.refl _) (lresT rfl lresN) rfl))))
noncomputable def law18_CatalogLists (p0 : List ApiTable) : Option Bool :=
 Option.bind law18_awake fun r483 =>
 bif (!r483) then
 some false
 else
 Option.bind (α := (List ApiPair) × (List ApiTable))
 (Option.bind (α := (List ApiPair) × (List ApiTable))
 (loop (Y := (List ApiPair) × (List ApiTable) × Int) (W := (List ApiPair) × (List ApiTable)) (fun (y604, y605, y606) =>
 Option.bind (α := Bool)
 (bif (decide (y606 < (p0.length : Int))) then
 some (decide ((y605.length : Int) < (8 : Int)))
 else
 some false)
 fun y643 =>
 bif y643 then
 Option.bind (α := (List ApiPair) × (List ApiTable))
 (Option.bind (getI p0 y606) fun v661 =>
 Option.bind (catalog_Pairs v661) fun (r663, r664) =>
 Option.bind (α := Bool)
 (bif (r664 == (0 : Int)) then
 bif ((y605.length : Int) == (0 : Int)) then
 some true
 else
 Option.bind (getI y605 (w64 ((y605.length : Int) - (1 : Int)))) fun v669 =>
 Option.bind (getI p0 y606) fun v670 =>
 some (ltS v669.Name v670.Name)
 else
 some false)
 fun y667 =>
 bif y667 then
 bif decide ((y604.length + r663.length) * 32 ≤ room) then
 Option.bind (getI p0 y606) fun v672 =>
 bif decide ((y605.length + [v672].length) * 96 ≤ room) then
 some ((y604 ++ r663), (y605 ++ [v672]))
 else none
 else none
 else
 some (y604, y605))
 fun (y658, y659) =>
 some (Sum.inl (y658, y659, (w64 (y606 + (1 : Int)))))
 else
 some (Sum.inr (y604, y605))) (([] : List ApiPair), ([] : List ApiTable), (0 : Int)))
 (fun e => some e))
 fun (y578, y579) =>
 bindE (Y := Unit) (E := Bool)
 (Option.bind (α := Unit ⊕ Bool)
 (loop (Y := Int) (W := Unit ⊕ Bool) (fun y689 =>
 bif (decide (y689 < (y578.length : Int))) then
 Option.bind (getI y578 (w64 (y689 - (1 : Int)))) fun v695 =>
 Option.bind (getI y578 y689) fun v696 =>
 bif (!(ltS v695.Key v696.Key)) then
 some (Sum.inr (Sum.inr false))
 else
 some (Sum.inl (w64 (y689 + (1 : Int))))
 else
 some (Sum.inr (Sum.inl ()))) (1 : Int))
 (Sum.elim (fun e => some (Sum.inl e)) (fun e => some (Sum.inr e))))
 (fun _ =>
 bif decide ((([] : List ApiPair).length + y578.length) * 32 ≤ room) then
 Option.bind (catalog_Read (([] : List ApiPair) ++ y578)) fun (r700, r701) =>
 Option.bind (α := Bool)
 (bif (r701 != (0 : Int)) then
 some true
 else
 Option.bind (law18_same r700 y579) fun r707 =>
 some (!r707))
 fun y704 =>
 bif y704 then
 some false
 else
 bif ((y578.length : Int) == (0 : Int)) then
 some true
 else
 bif decide (0 ≤ (1 : Int) ∧ (1 : Int) ≤ (y578.length : Int)) then
 bif decide ((0 + (1 : Int).toNat) + (y578.length - (1 : Int).toNat) ≤ y578.length) then
 bif decide ((([] : List ApiPair).length + (List.take (y578.length - (1 : Int).toNat) (List.drop (0 + (1 : Int).toNat) y578)).length) * 32 ≤ room) then
 Option.bind (catalog_Read (([] : List ApiPair) ++ (List.take (y578.length - (1 : Int).toNat) (List.drop (0 + (1 : Int).toNat) y578)))) fun (r712, r713) =>
 bif decide (0 ≤ (w64 ((y578.length : Int) - (1 : Int))) ∧ (w64 ((y578.length : Int) - (1 : Int))) ≤ (y578.length : Int)) then
 bif decide (0 + ((w64 ((y578.length : Int) - (1 : Int))).toNat) ≤ y578.length) then
 bif decide ((([] : List ApiPair).length + (List.take ((w64 ((y578.length : Int) - (1 : Int))).toNat) (List.drop 0 y578)).length) * 32 ≤ room) then
 Option.bind (catalog_Read (([] : List ApiPair) ++ (List.take ((w64 ((y578.length : Int) - (1 : Int))).toNat) (List.drop 0 y578)))) fun (r718, r719) =>
 Option.bind (α := Bool)
 (bif (r713 == (2 : Int)) then
 some (r719 == (2 : Int))
 else
 some false)
 fun y720 =>
 some y720
 else none
 else none
 else none
 else none
 else none
 else none
 else none)
 (fun e => some e)
theorem law18_CatalogLists_ok (p0 : List ApiTable) (r : Bool) (h0 : law18_CatalogLists p0 = some r) : CallAt Tryd.prog 4 [.d ((eL 5 eApiTable) p0)] [] (.d (eB r)) [] := by
 unfold law18_CatalogLists at h0
 refine fn0 [0] Tryd.func4 rfl rfl rfl rfl rfl ?_
 obtain ⟨r483, hq482, h0⟩ := ob h0
 refine sr (sa rfl (sn (sq (sr (c0 (law18_awake_ok _ hq482) wf rfl rfl rfl cb6 rfl (fun _ => rfl) (fun _ => rfl) (s1 (nt rfl) (sn (cB h0 rfl (fun h0 => ?_) (fun h0 => ?_)))))))))
 ·have q := si h0; subst q
  exact sr (sa rfl (sn (SC.ret (finR (Wk.refl _) (lresT rfl lresN) rfl))))
 ·refine sk (sr (s1 (asg (v := .d .nils) rfl) (sn (sr (s1 (asg (v := .d .nils) rfl) (sn (SC.seqP h0 (fun y => ⟨mk 129 [(3, .slc 0 2 0 y.1.length none), (4, .slc 1 5 0 y.2.length none)], [.row 2 (List.map eApiPair y.1) true, .row 5 (List.map eApiTable y.2) true]⟩) ?_ ?_)))))))
  ·intro u1_580 h1
   obtain ⟨u2_642, h2, h1⟩ := ob h1
   refine sr (sa rfl (sn (SC.blk (SC.loopB h2 (fun y => ⟨mk 129 [(0, .d ((eL 5 eApiTable) p0)), (3, .slc 0 2 0 y.1.length none), (4, .slc 1 5 0 y.2.1.length none), (5, .d (eI y.2.2))], [.row 2 (List.map eApiPair y.1) true, .row 5 (List.map eApiTable y.2.1) true]⟩) (Wk.trans (Wk.pushE (σ' := [.row 2 (List.map eApiPair ([] : List ApiPair)) true]) (.row 2 [] true) (fun _ hh => by cases hh) rfl) (Wk.trans (Wk.env (e' := [(0, .d ((eL 5 eApiTable) p0)), (3, .slc 0 2 0 (([] : List ApiPair).length) none), (4, .d .nils), (5, .d (eI (0 : Int)))]) (EW.cons (AW.refl _) (EW.cons (AW.slcn _ _ _) (EW.cons (AW.refl _) (EW.cons (AW.refl _) EW.nil))))) (Wk.trans (Wk.pushE (σ' := [.row 2 (List.map eApiPair ([] : List ApiPair)) true, .row 5 (List.map eApiTable ([] : List ApiTable)) true]) (.row 5 [] true) (fun _ hh => by cases hh) rfl) (Wk.trans (Wk.env (e' := [(0, .d ((eL 5 eApiTable) p0)), (3, .slc 0 2 0 (([] : List ApiPair).length) none), (4, .slc 1 5 0 (([] : List ApiTable).length) none), (5, .d (eI (0 : Int)))]) (EW.cons (AW.refl _) (EW.cons (AW.refl _) (EW.cons (AW.slcn _ _ _) (EW.cons (AW.refl _) EW.nil))))) (wq rfl))))) ?_))))
   intro n674
   rintro ⟨y604, y605, y606⟩ w2_641 h3 hv3
   refine sq (SC.seqP h3 (fun y => ⟨mk 129 [(0, .d ((eL 5 eApiTable) p0)), (3, .slc 0 2 0 y604.length none), (4, .slc 1 5 0 y605.length none), (5, .d (eI y606)), (25, .d (eB y))], [.row 2 (List.map eApiPair y604) true, .row 5 (List.map eApiTable y605) true]⟩) ?_ ?_)
   ·intro u4_644 h4
    refine SC.region (sm rfl (sm rfl (s1 (len rfl rfl rfl (len_lst un45)) (s1 (bi rfl rfl q_i64_lss) (sm rfl (sp h4 (fun h4 => ?_) (fun h4 => ?_)))))))
    ·have q := si h4; subst q
     exact gw rfl (mv rfl) (gw rfl (len rfl rfl rfl (len_slc un45)) (gw rfl (bi rfl rfl q_i64_lss) (s1 (pkt rfl rfl) (SO.nil ((wq rfl))))))
    ·have q := si h4; subst q
     exact kw rfl (kw rfl (kw rfl (s1 (pkf rfl rfl) (SO.nil ((wq rfl))))))
   ·rintro y643 h3
    refine cB h3 rfl (fun h3 => ?_) (fun h3 => ?_)
    ·refine sk (SC.seqP h3 (fun y => ⟨mk 129 [(0, .d ((eL 5 eApiTable) p0)), (3, .slc 0 2 0 y.1.length none), (4, .slc 1 5 0 y.2.length none), (5, .d (eI y606))], [.row 2 (List.map eApiPair y.1) true, .row 5 (List.map eApiTable y.2) true]⟩) ?_ ?_)
     ·intro u4_660 h4
      obtain ⟨v661, hv661, h4⟩ := ob h4; obtain ⟨⟨r663, r664⟩, hq662, h4⟩ := ob h4
      refine SC.blk (sr (sm rfl (sm rfl (s1 (ial rfl rfl un45 ts53 (getI_some hv661).1 (map_get (getI_some hv661).2) rfl) (s1 (lod (v := .d (eApiTable v661)) rfl (ld_rop ts53 ta53 rfl)) (c0 (catalog_Pairs_ok v661 _ hq662) wf rfl rfl rfl cb11 rfl (fun _ => rfl) (fun _ => rfl) (sm rfl (s1 (ext rfl rfl) (s1 (ext rfl rfl) ?_)))))))))
      refine sa rfl (sa rfl (sn (SC.seqP h4 (fun y => ⟨mk 129 [(0, .d ((eL 5 eApiTable) p0)), (3, .slc 0 2 0 y604.length none), (4, .slc 1 5 0 y605.length none), (5, .d (eI y606)), (6, .d ((eL 2 eApiPair) r663)), (57, .d (eB y))], [.row 2 (List.map eApiPair y604) true, .row 5 (List.map eApiTable y605) true]⟩) ?_ ?_)))
      ·intro u5_668 h5
       refine SC.draws (by kernel_rfl) (t1 ([], false) (mv rfl) rfl (t1 ([], false) (bi rfl rfl q_i64_eql) rfl (t1 ([], false) (mv rfl) rfl (tp h5 (fun h5 => ?_) (fun h5 => ?_)))))
       ·refine u1 ([], false) (ww rfl) (mv rfl) rfl (u1 ([], false) (ww rfl) (len rfl rfl rfl (len_slc un45)) rfl (u1 ([], false) (ww rfl) (bi rfl rfl q_i64_eql) rfl (u1 ([], false) (ww rfl) (mv rfl) rfl (tp h5 (fun h5 => ?_) (fun h5 => ?_)))))
        ·have q := si h5; subst q
         refine jw rfl (jw rfl (jw rfl (jw rfl (jw rfl (jw rfl (jw rfl (jw rfl (jw rfl (jw rfl ?_)))))))))
         refine jw rfl (jw rfl (jw rfl (u1 ([], false) (ww rfl) (pkt rfl rfl) rfl (t1 ([], false) (pkt rfl rfl) rfl (ST.nil (And.intro (by decide +kernel) ?_))))))
         exact (wq rfl)
        ·obtain ⟨v669, hv669, h5⟩ := ob h5; obtain ⟨v670, hv670, h5⟩ := ob h5; have q := si h5; subst q
         refine u1 ([], false) (ww rfl) (mv rfl) rfl (u1 ([], false) (ww rfl) (mv rfl) rfl (u1 ([], false) (ww rfl) (len rfl rfl rfl (len_slc un45)) rfl (u1 ([], false) (ww rfl) (bi rfl rfl q_i64_sub) rfl (u1 ([], false) (ww rfl) (iaz rfl rfl un45 ts53 (getI_lt hv669)) rfl (u1 ([], false) (ww rfl) (far (k := 0) rfl fo53_0 ts9 rfl) rfl (u1 ([1], false) (ww rfl) (lod rfl (ld_row ts9 ta9 rfl (map_get (getI_some hv669).2) rfl)) rfl (u1 ([], false) (ww rfl) (mv rfl) rfl (u1 ([], false) (ww rfl) (mv rfl) rfl (u1 ([], false) (ww rfl) (ial rfl rfl un45 ts53 (getI_some hv670).1 (map_get (getI_some hv670).2) rfl) rfl ?_)))))))))
         refine u1 ([], false) (ww rfl) (fap rfl fo53_0 ts9 rfl) rfl (u1 ([], false) (ww rfl) (lod rfl (ld_rop ts9 ta9 rfl)) rfl (u1 ([], false) (ww rfl) (bi rfl rfl q_str_lss) rfl (u1 ([], false) (ww rfl) (pkf rfl rfl) rfl (t1 ([], false) (pkt rfl rfl) rfl (ST.nil (And.intro (by decide +kernel) ?_))))))
         exact (wq rfl)
       ·have q := si h5; subst q
        refine jw rfl (jw rfl (jw rfl (jw rfl (jw rfl (jw rfl (jw rfl (jw rfl (jw rfl (jw rfl ?_)))))))))
        refine jw rfl (jw rfl (jw rfl (jw rfl (jw rfl (jw rfl (jw rfl (jw rfl (t1 ([], false) (pkf rfl rfl) rfl (ST.nil (And.intro (by decide +kernel) ?_))))))))))
        exact (wq rfl)
      ·rintro y667 h4
       refine cB h4 rfl (fun h4 => ?_) (fun h4 => ?_)
       ·obtain ⟨hg671, h4⟩ := gd h4; obtain ⟨v672, hv672, h4⟩ := ob h4; obtain ⟨hg673, h4⟩ := gd h4; have q := si h4; subst q
        refine sr (sm rfl (sm rfl (s1 (app rfl rfl rfl rfl bc22 (aF (f := eApiPair) (xs := y604) (k := 2) rfl un22 ei25 rfl el_lst hg671 rfl)) (sa rfl (sn (SC.region (sm rfl (sm rfl (sm rfl ?_)))))))))
        exact s1 (ial rfl rfl un45 ts53 (getI_some hv672).1 (map_get (getI_some hv672).2) rfl) (s1 (lod (v := .d (eApiTable v672)) rfl (ld_rop ts53 ta53 rfl)) (s1 (bsn (k := 3) (ds := List.map eApiTable [v672]) (off := 0) (l' := [v672].length) rfl un45 ei53 rfl rfl (by rfl) rfl rfl rfl) (s1 (app rfl rfl rfl rfl bc45 (aF (f := eApiTable) (xs := y605) (k := 4) rfl un45 ei53 rfl (el_full (xs := [v672]) rfl) hg673 rfl)) (sa rfl (SO.nil ((wc [2, 4] [2, 4] (by kernel_rfl) rfl (by kernel_rfl))))))))
       ·have q := si h4; subst q
        exact SC.skip ((wq rfl))
     ·rintro ⟨y658, y659⟩ h3
      have q := si h3; subst q
      exact SC.region (sm rfl (s1 (bi rfl rfl q_i64_add) (sa rfl (SO.nil (lf (wq rfl))))))
    ·have q := si h3; subst q; have q : _ = _ := hv3; subst q; have q := si h1; subst q
     exact SC.exit ((wq rfl))
  ·rintro ⟨y578, y579⟩ h0
   refine SC.seqB h0 (fun y => ⟨mk 129 [(3, .slc 0 2 0 y578.length none), (4, .slc 1 5 0 y579.length none)], [.row 2 (List.map eApiPair y578) true, .row 5 (List.map eApiTable y579) true]⟩) ?_ ?_
   ·intro u1_686 h1 h0
    obtain ⟨u2_694, h2, h1⟩ := ob h1
    refine sr (sa rfl (sn (SC.blk (SC.loopB h2 (fun y => ⟨mk 129 [(3, .slc 0 2 0 y578.length none), (4, .slc 1 5 0 y579.length none), (8, .d (eI y))], [.row 2 (List.map eApiPair y578) true, .row 5 (List.map eApiTable y579) true]⟩) (wq rfl) ?_))))
    intro n697
    rintro y689 w2_693 h3 hv3
    refine sq (sr (sm rfl (sm rfl (s1 (len rfl rfl rfl (len_slc un22)) (s1 (bi rfl rfl q_i64_lss) (sn (cB h3 rfl (fun h3 => ?_) (fun h3 => ?_))))))))
    ·obtain ⟨v695, hv695, h3⟩ := ob h3; obtain ⟨v696, hv696, h3⟩ := ob h3
     refine sk (sq (SC.blk (sd (by kernel_rfl) (t1 ([], false) (mv rfl) rfl (t1 ([], false) (mv rfl) rfl (t1 ([], false) (bi rfl rfl q_i64_sub) rfl (t1 ([], false) (iaz rfl rfl un22 ts25 (getI_lt hv695)) rfl (t1 ([], false) (far (k := 0) rfl fo25_0 ts9 rfl) rfl (t1 ([0], false) (lod rfl (ld_row ts9 ta9 rfl (map_get (getI_some hv695).2) rfl)) rfl ?_)))))))))
     refine t1 ([], false) (mv rfl) rfl (t1 ([], false) (mv rfl) rfl (t1 ([], false) (iaz rfl rfl un22 ts25 (getI_lt hv696)) rfl (t1 ([], false) (far (k := 0) rfl fo25_0 ts9 rfl) rfl (t1 ([0], false) (lod rfl (ld_row ts9 ta9 rfl (map_get (getI_some hv696).2) rfl)) rfl (t1 ([], false) (bi rfl rfl q_str_geq) rfl (tn (by decide +kernel) (cB h3 rfl (fun h3 => ?_) (fun h3 => ?_))))))))
     ·have q := si h3; subst q; have q : _ = _ := hv3; subst q; have q := si h1; subst q; have q := si h0; subst q
      exact sr (sa rfl (sn (SC.ret (finR (wc (e' := [(2, .d (eB false))]) [] [] (by kernel_rfl) rfl (by kernel_rfl)) (lresT rfl lresN) rfl))))
     ·refine SC.skip ?_
      change SC _ _ _ _ _
      have q := si h3; subst q
      exact SC.region (sm rfl (s1 (bi rfl rfl q_i64_add) (sa rfl (SO.nil (lf (wq rfl))))))
    ·have q := si h3; subst q; have q : _ = _ := hv3; subst q; have q := si h1; subst q
     exact SC.exit (lf (wq rfl))
   ·intro _ h0
    obtain ⟨hg698, h0⟩ := gd h0; obtain ⟨⟨r700, r701⟩, hq699, h0⟩ := ob h0
    refine sr (s1 (bsn (k := 2) (ds := List.map eApiPair ([] : List ApiPair)) (off := 0) (l' := ([] : List ApiPair).length) rfl un22 ei25 rfl rfl rfl rfl rfl rfl) (sm rfl (s1 (app rfl rfl rfl rfl bc22 (aF (f := eApiPair) (xs := ([] : List ApiPair)) (k := 3) rfl un22 ei25 rfl (el_full (xs := y578) rfl) hg698 rfl)) (cq (args' := [.slc 0 2 0 ((([] : List ApiPair) ++ y578).length) none]) (σc := [.row 2 (List.map eApiPair (([] : List ApiPair) ++ y578)) true]) [3] [] (CallAt.frz (ArgF.frz (fF rfl rfl rfl) (ArgF.nil _)) (fq [] [] (catalog_Read_ok (([] : List ApiPair) ++ y578) _ hq699) rfl rfl rfl rfl rfl rfl rfl rfl)) wf rfl rfl rfl cb12 rfl rfl rfl rfl rfl rfl rfl rfl (sm rfl (s1 (ext rfl rfl) (s1 (ext rfl rfl) (sa rfl (sa rfl ?_)))))))))
    refine sn (sq (SC.seqP h0 (fun y => ⟨mk 129 [(3, .slc 0 2 0 y578.length none), (100, .d (eB y))], [.row 2 (List.map eApiPair y578) true]⟩) ?_ ?_))
    ·intro u1_705 h1
     refine SC.region (sm rfl (s1 (bi rfl rfl q_i64_neq) (sm rfl (sp h1 (fun h1 => ?_) (fun h1 => ?_)))))
     ·have q := si h1; subst q
      exact kw rfl (kw rfl (kw rfl (kw rfl (s1 (pkt rfl rfl) (SO.nil ((wc [0] [0] (by kernel_rfl) rfl (by kernel_rfl))))))))
     ·obtain ⟨r707, hq706, h1⟩ := ob h1; have q := si h1; subst q
      exact gw rfl (mv rfl) (gw rfl (mv rfl) (cq (args' := [.d ((eL 5 eApiTable) r700), .slc 0 5 0 y579.length none]) (σc := [.row 5 (List.map eApiTable y579) true]) [1] [] (CallAt.frz (ArgF.keep (ArgF.frz (fF rfl rfl rfl) (ArgF.nil _))) (fq [] [] (law18_same_ok r700 y579 _ hq706) rfl rfl rfl rfl rfl rfl rfl rfl)) (ww rfl) rfl rfl rfl cb13 rfl rfl rfl rfl rfl rfl rfl rfl (gw rfl (nt rfl) (s1 (pkf rfl rfl) (SO.nil ((wc [0] [0] (by kernel_rfl) rfl (by kernel_rfl))))))))
    ·rintro y704 h0
     refine cB h0 rfl (fun h0 => ?_) (fun h0 => ?_)
     ·have q := si h0; subst q
      exact sr (sa rfl (sn (SC.ret (finR (wc (e' := [(2, .d (eB false))]) [] [] (by kernel_rfl) rfl (by kernel_rfl)) (lresT rfl lresN) rfl))))
     ·refine sk (sq (sr (sm rfl (s1 (len rfl rfl rfl (len_slc un22)) (s1 (bi rfl rfl q_i64_eql) (sn (cB h0 rfl (fun h0 => ?_) (fun h0 => ?_))))))))
      ·have q := si h0; subst q
       exact sr (sa rfl (sn (SC.ret (finR (wc (e' := [(2, .d (eB true))]) [] [] (by kernel_rfl) rfl (by kernel_rfl)) (lresT rfl lresN) rfl))))
      ·obtain ⟨hg708, h0⟩ := gd h0; obtain ⟨hg709, h0⟩ := gd h0; obtain ⟨hg710, h0⟩ := gd h0; obtain ⟨⟨r712, r713⟩, hq711, h0⟩ := ob h0; obtain ⟨hg714, h0⟩ := gd h0; obtain ⟨hg715, h0⟩ := gd h0; obtain ⟨hg716, h0⟩ := gd h0; obtain ⟨⟨r718, r719⟩, hq717, h0⟩ := ob h0
       refine sk (sr (s1 (bsn (k := 1) (ds := List.map eApiPair ([] : List ApiPair)) (off := 0) (l' := ([] : List ApiPair).length) rfl un22 ei25 rfl rfl rfl rfl rfl rfl) (sm rfl (s1 (slo rfl rfl rfl rfl (sl_slc_lo un22 ts25 hg708)) (s1 (app rfl rfl rfl rfl bc22 (aF (f := eApiPair) (xs := ([] : List ApiPair)) (k := 2) rfl un22 ei25 rfl (el_slc (xs := y578) rfl hg709) hg710 rfl)) (cq (args' := [.slc 0 2 0 ((([] : List ApiPair) ++ (List.take (y578.length - (1 : Int).toNat) (List.drop (0 + (1 : Int).toNat) y578))).length) none]) (σc := [.row 2 (List.map eApiPair (([] : List ApiPair) ++ (List.take (y578.length - (1 : Int).toNat) (List.drop (0 + (1 : Int).toNat) y578)))) true]) [2] [] (CallAt.frz (ArgF.frz (fF rfl rfl rfl) (ArgF.nil _)) (fq [] [] (catalog_Read_ok (([] : List ApiPair) ++ (List.take (y578.length - (1 : Int).toNat) (List.drop (0 + (1 : Int).toNat) y578))) _ hq711) rfl rfl rfl rfl rfl rfl rfl rfl)) wf rfl rfl rfl cb12 rfl rfl rfl rfl rfl rfl rfl rfl (sm rfl (s1 (ext rfl rfl) (s1 (ext rfl rfl) ?_)))))))))
       refine sa rfl (sa rfl (sn (sr (s1 (bsn (k := 3) (ds := List.map eApiPair ([] : List ApiPair)) (off := 0) (l' := ([] : List ApiPair).length) rfl un22 ei25 rfl rfl rfl rfl rfl rfl) (sm rfl (sm rfl (s1 (len rfl rfl rfl (len_slc un22)) (s1 (bi rfl rfl q_i64_sub) (s1 (slo rfl rfl rfl rfl (sl_slc_hi un22 ts25 hg714)) ?_)))))))))
       refine s1 (app rfl rfl rfl rfl bc22 (aF (f := eApiPair) (xs := ([] : List ApiPair)) (k := 4) rfl un22 ei25 rfl (el_slc (xs := y578) rfl hg715) hg716 rfl)) (cq (args' := [.slc 0 2 0 ((([] : List ApiPair) ++ (List.take ((w64 ((y578.length : Int) - (1 : Int))).toNat) (List.drop 0 y578))).length) none]) (σc := [.row 2 (List.map eApiPair (([] : List ApiPair) ++ (List.take ((w64 ((y578.length : Int) - (1 : Int))).toNat) (List.drop 0 y578)))) true]) [4] [] (CallAt.frz (ArgF.frz (fF rfl rfl rfl) (ArgF.nil _)) (fq [] [] (catalog_Read_ok (([] : List ApiPair) ++ (List.take ((w64 ((y578.length : Int) - (1 : Int))).toNat) (List.drop 0 y578))) _ hq717) rfl rfl rfl rfl rfl rfl rfl rfl)) wf rfl rfl rfl cb12 rfl rfl rfl rfl rfl rfl rfl rfl (sm rfl (s1 (ext rfl rfl) (s1 (ext rfl rfl) (sa rfl (sa rfl (sn (SC.seqP h0 (fun y => ⟨mk 129 [(2, .d (eB y))], []⟩) ?_ ?_))))))))
       ·intro u1_721 h1
        refine SC.region (sm rfl (s1 (bi rfl rfl q_i64_eql) (sm rfl (sp h1 (fun h1 => ?_) (fun h1 => ?_)))))
        ·have q := si h1; subst q
         exact gw rfl (mv rfl) (gw rfl (bi rfl rfl q_i64_eql) (s1 (pkt rfl rfl) (sa rfl (SO.nil ((wc [] [] (by kernel_rfl) rfl (by kernel_rfl)))))))
        ·have q := si h1; subst q
         exact kw rfl (kw rfl (s1 (pkf rfl rfl) (sa rfl (SO.nil ((wc [] [] (by kernel_rfl) rfl (by kernel_rfl)))))))
       ·rintro y720 h0
        have q := si h0; subst q
        exact SC.ret (finR (Wk.refl _) (lresT rfl lresN) rfl)
end Lv
