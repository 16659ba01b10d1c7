/- Part of the proof of a law: functions and their walks. -/
import Derived.Test.YtmkgfooomdagmaaDoorXFn1
namespace Lv
open Go Go.Proofs
set_option linter.unusedVariables false
set_option linter.unusedSimpArgs false
set_option linter.unusedSectionVars false
set_option maxRecDepth 100000
variable [BaseTab] [TabOk]
noncomputable def catalog_Ops (p0 : Int) (p1 : List ApiPair) (p2 : List ApiPair) : Option ((List ForestOp)) :=
 Option.bind (α := (List (List UInt8)) × (List ((List UInt8) × (List UInt8))))
 (Option.bind (α := (List (List UInt8)) × (List ((List UInt8) × (List UInt8))))
 (loop (Y := (List (List UInt8)) × Int × (List ((List UInt8) × (List UInt8)))) (W := (List (List UInt8)) × (List ((List UInt8) × (List UInt8)))) (fun (y414, y415, y416) =>
 bif (decide (y415 < (p1.length : Int))) then
 Option.bind (getI p1 y415) fun v424 =>
 bif decide ((y414.length + [v424.Key].length) * 16 ≤ room) then
 some (Sum.inl ((y414 ++ [v424.Key]), (w64 (y415 + (1 : Int))), (mset y416 v424.Key v424.Val)))
 else none
 else
 some (Sum.inr (y414, y416))) (([] : List (List UInt8)), (0 : Int), ([] : List ((List UInt8) × (List UInt8)))))
 (fun e => some e))
 fun (y409, y410) =>
 Option.bind (α := (List (List UInt8)) × (List ((List UInt8) × (List UInt8))))
 (Option.bind (α := (List (List UInt8)) × (List ((List UInt8) × (List UInt8))))
 (loop (Y := (List (List UInt8)) × Int × (List ((List UInt8) × (List UInt8)))) (W := (List (List UInt8)) × (List ((List UInt8) × (List UInt8)))) (fun (y447, y448, y449) =>
 bif (decide (y448 < (p2.length : Int))) then
 Option.bind (getI p2 y448) fun v457 =>
 bif decide ((y447.length + [v457.Key].length) * 16 ≤ room) then
 some (Sum.inl ((y447 ++ [v457.Key]), (w64 (y448 + (1 : Int))), (mset y449 v457.Key v457.Val)))
 else none
 else
 some (Sum.inr (y447, y449))) (y409, (0 : Int), ([] : List ((List UInt8) × (List UInt8)))))
 (fun e => some e))
 fun (y442, y443) =>
 Option.bind (sortF y442) fun r461 =>
 Option.bind (α := (List ForestOp))
 (Option.bind (compactF r461 0 y442.length) fun r528 =>
 Option.bind (α := (List ForestOp))
 (loop (Y := (List ForestOp) × Int) (W := (List ForestOp)) (fun (y547, y548) =>
 bif (decide (y548 < (r528.length : Int))) then
 Option.bind (α := (List ForestOp))
 (Option.bind (getI r528 y548) fun v581 =>
 bindE (Y := ApiMsg) (E := (List ForestOp))
 (Option.bind (α := Bool)
 (bif (Option.isSome (mget y410 v581)) then
 bif (Option.isSome (mget y443 v581)) then
 some ((Option.getD (mget y410 v581) ([] : List UInt8)) == (Option.getD (mget y443 v581) ([] : List UInt8)))
 else
 some false
 else
 some false)
 fun y586 =>
 bif y586 then
 some (Sum.inr y547)
 else
 bif (!(Option.isSome (mget y443 v581))) then
 some (Sum.inl (ApiMsg.mk (0 : UInt64) (2 : Int) v581 (0 : UInt64) (Option.getD (mget y443 v581) ([] : List UInt8)) (0 : Int) (0 : UInt64)))
 else
 some (Sum.inl (ApiMsg.mk (0 : UInt64) (1 : Int) v581 (0 : UInt64) (Option.getD (mget y443 v581) ([] : List UInt8)) (0 : Int) (0 : UInt64))))
 (fun y584 =>
 bif decide ((y547.length + [(ForestOp.mk (1 : Int) p0 y584)].length) * 88 ≤ room) then
 some (y547 ++ [(ForestOp.mk (1 : Int) p0 y584)])
 else none)
 (fun e => some e))
 fun y579 =>
 some (Sum.inl (y579, (w64 (y548 + (1 : Int)))))
 else
 some (Sum.inr y547)) (([] : List ForestOp), (0 : Int)))
 (fun e => some e))
 fun y525 =>
 some y525
theorem catalog_Ops_ok (p0 : Int) (p1 : List ApiPair) (p2 : List ApiPair) (r : (List ForestOp)) (h0 : catalog_Ops p0 p1 p2 = some r) : CallAt Tryd.prog 7 [.d (eI p0), .d ((eL 2 eApiPair) p1), .d ((eL 2 eApiPair) p2)] [] (.d ((eL 9 eForestOp) r)) [] := by
 unfold catalog_Ops at h0
 refine fn0 [0, 1, 2] Tryd.func7 rfl rfl rfl rfl rfl ?_
 refine sr (s1 (asg (v := .d .nils) rfl) (sn (sr (s1 (mkm (f := eS) (g := eS) (i := 0) un64 rfl) (s1 (mkm (f := eS) (g := eS) (i := 1) un64 rfl) (sa rfl (sa rfl (sn (sr ?_)))))))))
 refine s1 (asg (v := .d .nils) rfl) (sn (SC.seqP h0 (fun y => ⟨mk 104 [(0, .d (eI p0)), (2, .d ((eL 2 eApiPair) p2)), (7, .mapr 0), (8, .mapr 1), (9, .slc 2 1 0 y.1.length none)], [.map (List.map (eM eS eS) y.2), .map (List.map (eM eS eS) ([] : List ((List UInt8) × (List UInt8)))), .row 1 (List.map eS y.1) true]⟩) ?_ ?_))
 ·intro u1_411 h1
  obtain ⟨u2_423, h2, h1⟩ := ob h1
  refine sr (sm rfl (s1 (len rfl rfl rfl (len_lst un22)) (sm rfl (sn (SC.blk (SC.loopB h2 (fun y => ⟨mk 104 [(0, .d (eI p0)), (2, .d ((eL 2 eApiPair) p2)), (7, .mapr 0), (8, .mapr 1), (9, .slc 2 1 0 y.1.length none), (24, .d ((eL 2 eApiPair) p1)), (25, .d (eI (p1.length : Int))), (26, .d (eI y.2.1))], [.map (List.map (eM eS eS) y.2.2), .map (List.map (eM eS eS) ([] : List ((List UInt8) × (List UInt8)))), .row 1 (List.map eS y.1) true]⟩) (Wk.trans (Wk.pushE (σ' := [.map (List.map (eM eS eS) ([] : List ((List UInt8) × (List UInt8)))), .map (List.map (eM eS eS) ([] : List ((List UInt8) × (List UInt8)))), .row 1 (List.map eS ([] : List (List UInt8))) true]) (.row 1 [] true) (fun _ hh => by cases hh) rfl) (Wk.trans (Wk.env (e' := [(0, .d (eI p0)), (2, .d ((eL 2 eApiPair) p2)), (7, .mapr 0), (8, .mapr 1), (9, .slc 2 1 0 (([] : List (List UInt8)).length) none), (24, .d ((eL 2 eApiPair) p1)), (25, .d (eI (p1.length : Int))), (26, .d (eI (0 : Int)))]) (EW.cons (AW.refl _) (EW.cons (AW.refl _) (EW.cons (AW.refl _) (EW.cons (AW.refl _) (EW.cons (AW.slcn _ _ _) (EW.cons (AW.refl _) (EW.cons (AW.refl _) (EW.cons (AW.refl _) EW.nil))))))))) (wq rfl))) ?_))))))
  intro n426
  rintro ⟨y414, y415, y416⟩ w2_422 h3 hv3
  refine sr (s1 (bi rfl rfl q_i64_lss) (sn (sq (cB h3 rfl (fun h3 => ?_) (fun h3 => ?_)))))
  ·obtain ⟨v424, hv424, h3⟩ := ob h3; obtain ⟨hg425, h3⟩ := gd h3
   refine sk (sq (SC.blk (sr (s1 (ial rfl rfl un22 ts25 (getI_some hv424).1 (map_get (getI_some hv424).2) rfl) (s1 (lod (v := .d (eApiPair v424)) rfl (ld_rop ts25 ta25 rfl)) (s1 (alo (k := 3) zo25 rfl) (s0 (sto rfl rfl (sB (d' := .d (eApiPair v424)) ts25 rfl rfl rfl rfl rfl rfl rfl)) (sn (sr ?_)))))))))
   refine sm rfl (s1 (far (k := 0) rfl fo25_0 ts9 rfl) (s1 (lod rfl (ld_box ts9 ta9 rfl rfl)) (s1 (far (k := 1) rfl fo25_1 ts9 rfl) (s1 (lod rfl (ld_box ts9 ta9 rfl rfl)) (s0 (mpu (f := eS) (g := eS) (k := v424.Key) (v := v424.Val) kq_str rfl rfl rfl rfl un64 un9 rfl rfl rfl) (sn (SC.region (sm rfl (s1 (far (k := 0) rfl fo25_0 ts9 rfl) ?_)))))))))
   refine s1 (lod rfl (ld_box ts9 ta9 rfl rfl)) (s1 (bsn (k := 4) (ds := List.map eS [v424.Key]) (off := 0) (l' := [v424.Key].length) rfl un65 ei9 rfl rfl (by rfl) rfl rfl rfl) (s1 (app rfl rfl rfl rfl bc65 (aF (f := eS) (xs := y414) (k := 5) rfl un65 ei9 rfl (el_full (xs := [v424.Key]) rfl) hg425 rfl)) (sa rfl (SO.nil ?_))))
   change SC _ _ _ _ _
   have q := si h3; subst q
   exact SC.region (s1 (bi rfl rfl q_i64_add) (sm rfl (SO.nil (lf (wc [0, 1, 5] [0, 1, 5] (by kernel_rfl) rfl (by kernel_rfl))))))
  ·have q := si h3; subst q; have q : _ = _ := hv3; subst q; have q := si h1; subst q
   exact SC.exit ((wq rfl))
 ·rintro ⟨y409, y410⟩ h0
  refine SC.seqP h0 (fun y => ⟨mk 104 [(0, .d (eI p0)), (7, .mapr 0), (8, .mapr 1), (9, .slc 2 1 0 y.1.length none)], [.map (List.map (eM eS eS) y410), .map (List.map (eM eS eS) y.2), .row 1 (List.map eS y.1) true]⟩) ?_ ?_
  ·intro u1_444 h1
   obtain ⟨u2_456, h2, h1⟩ := ob h1
   refine sr (sm rfl (s1 (len rfl rfl rfl (len_lst un22)) (sm rfl (sn (SC.blk (SC.loopB h2 (fun y => ⟨mk 104 [(0, .d (eI p0)), (7, .mapr 0), (8, .mapr 1), (9, .slc 2 1 0 y.1.length none), (41, .d ((eL 2 eApiPair) p2)), (42, .d (eI (p2.length : Int))), (43, .d (eI y.2.1))], [.map (List.map (eM eS eS) y410), .map (List.map (eM eS eS) y.2.2), .row 1 (List.map eS y.1) true]⟩) (wq rfl) ?_))))))
   intro n459
   rintro ⟨y447, y448, y449⟩ w2_455 h3 hv3
   refine sr (s1 (bi rfl rfl q_i64_lss) (sn (sq (cB h3 rfl (fun h3 => ?_) (fun h3 => ?_)))))
   ·obtain ⟨v457, hv457, h3⟩ := ob h3; obtain ⟨hg458, h3⟩ := gd h3
    refine sk (sq (SC.blk (sr (s1 (ial rfl rfl un22 ts25 (getI_some hv457).1 (map_get (getI_some hv457).2) rfl) (s1 (lod (v := .d (eApiPair v457)) rfl (ld_rop ts25 ta25 rfl)) (s1 (alo (k := 3) zo25 rfl) (s0 (sto rfl rfl (sB (d' := .d (eApiPair v457)) ts25 rfl rfl rfl rfl rfl rfl rfl)) (sn (sr ?_)))))))))
    refine sm rfl (s1 (far (k := 0) rfl fo25_0 ts9 rfl) (s1 (lod rfl (ld_box ts9 ta9 rfl rfl)) (s1 (far (k := 1) rfl fo25_1 ts9 rfl) (s1 (lod rfl (ld_box ts9 ta9 rfl rfl)) (s0 (mpu (f := eS) (g := eS) (k := v457.Key) (v := v457.Val) kq_str rfl rfl rfl rfl un64 un9 rfl rfl rfl) (sn (SC.region (sm rfl (s1 (far (k := 0) rfl fo25_0 ts9 rfl) ?_)))))))))
    refine s1 (lod rfl (ld_box ts9 ta9 rfl rfl)) (s1 (bsn (k := 4) (ds := List.map eS [v457.Key]) (off := 0) (l' := [v457.Key].length) rfl un65 ei9 rfl rfl (by rfl) rfl rfl rfl) (s1 (app rfl rfl rfl rfl bc65 (aF (f := eS) (xs := y447) (k := 5) rfl un65 ei9 rfl (el_full (xs := [v457.Key]) rfl) hg458 rfl)) (sa rfl (SO.nil ?_))))
    change SC _ _ _ _ _
    have q := si h3; subst q
    exact SC.region (s1 (bi rfl rfl q_i64_add) (sm rfl (SO.nil (lf (wc [0, 1, 5] [0, 1, 5] (by kernel_rfl) rfl (by kernel_rfl))))))
   ·have q := si h3; subst q; have q : _ = _ := hv3; subst q; have q := si h1; subst q
    exact SC.exit ((wq rfl))
  ·rintro ⟨y442, y443⟩ h0
   obtain ⟨r461, hq460, h0⟩ := ob h0
   refine sr (sm rfl (cq [2] [] (sort_ok y442 _ hq460) wf rfl rfl rfl cb16 rfl rfl rfl rfl rfl rfl rfl rfl (sn (sr (s1 (asg (v := .d .nils) rfl) (sn (SC.seqP h0 (fun y => ⟨mk 104 [(14, .slc 0 9 0 y.length none)], [.row 9 (List.map eForestOp y) true]⟩) ?_ ?_)))))))
   ·intro u1_526 h1
    obtain ⟨r528, hq527, h1⟩ := ob h1; obtain ⟨u2_570, h2, h1⟩ := ob h1
    refine sr (sm rfl (cq [2] [] (compact_ok r461 0 y442.length _ hq527) wf rfl rfl rfl cb17 rfl rfl rfl rfl rfl rfl rfl rfl (s1 (len rfl rfl rfl (len_lst un65)) (sm rfl (sn (SC.blk (SC.loopB h2 (fun y => ⟨mk 104 [(0, .d (eI p0)), (7, .mapr 0), (8, .mapr 1), (14, .slc 2 9 0 y.1.length none), (61, .d ((eL 1 eS) r528)), (62, .d (eI (r528.length : Int))), (63, .d (eI y.2))], [.map (List.map (eM eS eS) y410), .map (List.map (eM eS eS) y443), .row 9 (List.map eForestOp y.1) true]⟩) (Wk.trans (Wk.pushE (σ' := [.map (List.map (eM eS eS) y410), .map (List.map (eM eS eS) y443), .row 1 (List.map eS (r528 ++ List.replicate (r461.length - r528.length) [])) false, .row 9 (List.map eForestOp ([] : List ForestOp)) true]) (.row 9 [] true) (fun _ hh => by cases hh) rfl) (Wk.trans (Wk.env (e' := [(0, .d (eI p0)), (7, .mapr 0), (8, .mapr 1), (14, .slc 3 9 0 (([] : List ForestOp).length) none), (61, .d ((eL 1 eS) r528)), (62, .d (eI (r528.length : Int))), (63, .d (eI (0 : Int)))]) (EW.cons (AW.refl _) (EW.cons (AW.refl _) (EW.cons (AW.refl _) (EW.cons (AW.slcn _ _ _) (EW.cons (AW.refl _) (EW.cons (AW.refl _) (EW.cons (AW.refl _) EW.nil)))))))) (wc [0, 1, 3] [0, 1, 3] (by kernel_rfl) rfl (by kernel_rfl)))) ?_)))))))
    intro n589
    rintro ⟨y547, y548⟩ w2_569 h3 hv3
    refine sr (s1 (bi rfl rfl q_i64_lss) (sn (sq (cB h3 rfl (fun h3 => ?_) (fun h3 => ?_)))))
    ·refine sk (SC.seqP h3 (fun y => ⟨mk 104 [(0, .d (eI p0)), (7, .mapr 0), (8, .mapr 1), (14, .slc 2 9 0 y.length none), (61, .d ((eL 1 eS) r528)), (62, .d (eI (r528.length : Int))), (63, .d (eI y548))], [.map (List.map (eM eS eS) y410), .map (List.map (eM eS eS) y443), .row 9 (List.map eForestOp y) true]⟩) ?_ ?_)
     ·intro u4_580 h4
      obtain ⟨v581, hv581, h4⟩ := ob h4
      refine SC.blk (sr (s1 (ial rfl rfl un65 ts9 (getI_some hv581).1 (map_get (getI_some hv581).2) rfl) (s1 (lod rfl (ld_rop ts9 ta9 rfl)) (sa rfl (sn (sr (sm rfl (sm rfl (s1 (mlo (f := eS) (g := eS) (k := v581) (v := ([] : List UInt8)) kq_str rfl rfl un64 un9 rfl zo9 rfl) ?_)))))))))
      refine sm rfl (s1 (ext rfl rfl) (s1 (ext rfl rfl) (sa rfl (sa rfl (sn (sr (sm rfl (sm rfl (s1 (mlo (f := eS) (g := eS) (k := v581) (v := ([] : List UInt8)) kq_str rfl rfl un64 un9 rfl zo9 rfl) ?_)))))))))
      refine sm rfl (s1 (ext rfl rfl) (s1 (ext rfl rfl) (sa rfl (sa rfl (sn (sr (sm rfl (sm rfl (s1 (bld rfl (bd37_1_2_4 (1 : Int) v581 (Option.getD (mget y443 v581) ([] : List UInt8)))) ?_)))))))))
      refine s1 (alo (k := 3) zo37 rfl) (s0 (sto rfl rfl (sB (d' := .d (eApiMsg (ApiMsg.mk (0 : UInt64) (1 : Int) v581 (0 : UInt64) (Option.getD (mget y443 v581) ([] : List UInt8)) (0 : Int) (0 : UInt64)))) ts37 rfl rfl rfl rfl rfl rfl rfl)) (sn (SC.seqB h4 (fun y => ⟨mk 104 [(0, .d (eI p0)), (7, .mapr 0), (8, .mapr 1), (14, .slc 2 9 0 y547.length none), (21, .ref 3 0 0), (61, .d ((eL 1 eS) r528)), (62, .d (eI (r528.length : Int))), (63, .d (eI y548))], [.map (List.map (eM eS eS) y410), .map (List.map (eM eS eS) y443), .row 9 (List.map eForestOp y547) true, .box (.d (eApiMsg y))]⟩) ?_ ?_)))
      ·intro u5_585 h5 h4
       refine SC.blk (SC.seqP h5 (fun y => ⟨mk 104 [(0, .d (eI p0)), (7, .mapr 0), (8, .mapr 1), (14, .slc 2 9 0 y547.length none), (20, .d (eB (Option.isSome (mget y443 v581)))), (21, .ref 3 0 0), (61, .d ((eL 1 eS) r528)), (62, .d (eI (r528.length : Int))), (63, .d (eI y548)), (82, .d (eB y))], [.map (List.map (eM eS eS) y410), .map (List.map (eM eS eS) y443), .row 9 (List.map eForestOp y547) true, .box (.d (eApiMsg (ApiMsg.mk (0 : UInt64) (1 : Int) v581 (0 : UInt64) (Option.getD (mget y443 v581) ([] : List UInt8)) (0 : Int) (0 : UInt64))))]⟩) ?_ ?_)
       ·intro u6_587 h6
        refine SC.region (sm rfl (sm rfl (sp h6 (fun h6 => ?_) (fun h6 => ?_))))
        ·refine gw rfl (mv rfl) (s1 (pkt rfl rfl) (sm rfl (sp h6 (fun h6 => ?_) (fun h6 => ?_))))
         ·have q := si h6; subst q
          exact gw rfl (mv rfl) (gw rfl (mv rfl) (gw rfl (bi rfl rfl q_str_eql) (s1 (pkt rfl rfl) (sa rfl (SO.nil ((wq rfl)))))))
         ·have q := si h6; subst q
          exact kw rfl (kw rfl (kw rfl (s1 (pkf rfl rfl) (sa rfl (SO.nil ((wq rfl)))))))
        ·have q := si h6; subst q
         exact kw rfl (s1 (pkf rfl rfl) (sm rfl (kw rfl (kw rfl (kw rfl (s1 (pkf rfl rfl) (sa rfl (SO.nil ((wq rfl))))))))))
       ·rintro y586 h5
        refine cB h5 rfl (fun h5 => ?_) (fun h5 => ?_)
        ·have q := si h5; subst q; have q := si h4; subst q
         exact SC.exit ((wc [0, 1, 2] [0, 1, 2] (by kernel_rfl) rfl (by kernel_rfl)))
        ·refine sr (sm rfl (s1 (nt rfl) (sa rfl (sn (cB h5 rfl (fun h5 => ?_) (fun h5 => ?_))))))
         ·have q := si h5; subst q
          exact SC.region (s1 (far (k := 1) rfl fo37_1 ts3 rfl) (s0 (sto (b := .d (eI (2 : Int))) rfl rfl (sB (d' := .d (eApiMsg (ApiMsg.mk (0 : UInt64) (2 : Int) v581 (0 : UInt64) (Option.getD (mget y443 v581) ([] : List UInt8)) (0 : Int) (0 : UInt64)))) ts3 rfl rfl rfl rfl rfl rfl rfl)) (SO.nil (lf (wq rfl)))))
         ·have q := si h5; subst q
          exact SC.skip (lf (wq rfl))
      ·rintro y584 h4
       obtain ⟨hg588, h4⟩ := gd h4; have q := si h4; subst q
       exact SC.region (sm rfl (sm rfl (s1 (lod (v := .d (eApiMsg y584)) rfl (ld_box ts37 ta37 rfl rfl)) (s1 (bld rfl (bd39_0_1_2 (1 : Int) p0 y584)) (s1 (bsn (k := 4) (ds := List.map eForestOp [(ForestOp.mk (1 : Int) p0 y584)]) (off := 0) (l' := [(ForestOp.mk (1 : Int) p0 y584)].length) rfl un26 ei39 rfl rfl (by rfl) rfl rfl rfl) (s1 (app rfl rfl rfl rfl bc26 (aF (f := eForestOp) (xs := y547) (k := 5) rfl un26 ei39 rfl (el_full (xs := [(ForestOp.mk (1 : Int) p0 y584)]) rfl) hg588 rfl)) (sa rfl (SO.nil ((wc [0, 1, 5] [0, 1, 5] (by kernel_rfl) rfl (by kernel_rfl)))))))))))
     ·rintro y579 h3
      have q := si h3; subst q
      exact SC.region (s1 (bi rfl rfl q_i64_add) (sm rfl (SO.nil (lf (wq rfl)))))
    ·have q := si h3; subst q; have q : _ = _ := hv3; subst q; have q := si h1; subst q
     exact SC.exit ((wc [2] [2] (by kernel_rfl) rfl (by kernel_rfl)))
   ·rintro y525 h0
    have q := si h0; subst q
    exact sr (sm rfl (sa rfl (sn (SC.ret (finR (Wk.trans (Wk.frz (i := 6) (x := .slc 0 9 0 y525.length none) rfl rfl (fF rfl rfl rfl)) (wc (e' := [(6, .d ((eL 9 eForestOp) y525))]) [] [] (by kernel_rfl) rfl (by kernel_rfl))) (lresT rfl lresN) rfl)))))
noncomputable def raw_Ints (p0 : List Int) (p1 : List Int) : Option Bool :=
 bif ((p0.length : Int) != (p1.length : Int)) then
 some false
 else
 bindE (Y := Unit) (E := Bool)
 (Option.bind (α := Unit ⊕ Bool)
 (loop (Y := Int) (W := Unit ⊕ Bool) (fun y62 =>
 bif (decide (y62 < (p0.length : Int))) then
 Option.bind (getI p0 y62) fun v68 =>
 Option.bind (getI p1 y62) fun v69 =>
 bif (v68 != v69) then
 some (Sum.inr (Sum.inr false))
 else
 some (Sum.inl (w64 (y62 + (1 : Int))))
 else
 some (Sum.inr (Sum.inl ()))) (0 : Int))
 (Sum.elim (fun e => some (Sum.inl e)) (fun e => some (Sum.inr e))))
 (fun _ =>
 some true)
 (fun e => some e)
theorem raw_Ints_ok (p0 : List Int) (p1 : List Int) (r : Bool) (h0 : raw_Ints p0 p1 = some r) : CallAt Tryd.prog 29 [.d ((eL 1 eI) p0), .d ((eL 1 eI) p1)] [] (.d (eB r)) [] := by
 unfold raw_Ints at h0
 refine fn0 [0, 1] Tryd.func29 rfl rfl rfl rfl rfl ?_
 refine sr (sa rfl (sn (sq (sr (sm rfl (s1 (len rfl rfl rfl (len_lst un50)) (sm rfl (s1 (len rfl rfl rfl (len_lst un50)) (s1 (bi rfl rfl q_i64_neq) ?_)))))))))
 refine sn (cB h0 rfl (fun h0 => ?_) (fun h0 => ?_))
 ·have q := si h0; subst q
  exact sr (sa rfl (sn (SC.ret (finR (Wk.refl _) (lresT rfl lresN) rfl))))
 ·refine sk (SC.seqB h0 (fun y => ⟨mk 26 [], []⟩) ?_ ?_)
  ·intro u1_59 h1 h0
   obtain ⟨u2_67, h2, h1⟩ := ob h1
   refine sr (sa rfl (sn (SC.blk (SC.loopB h2 (fun y => ⟨mk 26 [(0, .d ((eL 1 eI) p0)), (1, .d ((eL 1 eI) p1)), (5, .d (eI y))], []⟩) (wq rfl) ?_))))
   intro n70
   rintro y62 w2_66 h3 hv3
   refine sq (sr (sm rfl (sm rfl (s1 (len rfl rfl rfl (len_lst un50)) (s1 (bi rfl rfl q_i64_lss) (sn (cB h3 rfl (fun h3 => ?_) (fun h3 => ?_))))))))
   ·obtain ⟨v68, hv68, h3⟩ := ob h3; obtain ⟨v69, hv69, h3⟩ := ob h3
    refine sk (sq (SC.blk (sd (by kernel_rfl) (t1 ([], false) (mv rfl) rfl (t1 ([], false) (mv rfl) rfl (t1 ([], false) (ial rfl rfl un50 ts3 (getI_some hv68).1 (map_get (getI_some hv68).2) rfl) rfl (t1 ([], false) (lod rfl (ld_rop ts3 ta3 rfl)) rfl (t1 ([], false) (mv rfl) rfl (t1 ([], false) (mv rfl) rfl ?_)))))))))
    refine t1 ([], false) (ial rfl rfl un50 ts3 (getI_some hv69).1 (map_get (getI_some hv69).2) rfl) rfl (t1 ([], false) (lod rfl (ld_rop ts3 ta3 rfl)) rfl (t1 ([], false) (bi rfl rfl q_i64_neq) rfl (tn (by decide +kernel) (cB h3 rfl (fun h3 => ?_) (fun h3 => ?_)))))
    ·have q := si h3; subst q; have q : _ = _ := hv3; subst q; have q := si h1; subst q; have q := si h0; subst q
     exact sr (sa rfl (sn (SC.ret (finR (Wk.refl _) (lresT rfl lresN) rfl))))
    ·refine SC.skip ?_
     change SC _ _ _ _ _
     have q := si h3; subst q
     exact SC.region (sm rfl (s1 (bi rfl rfl q_i64_add) (sa rfl (SO.nil (lf (wq rfl))))))
   ·have q := si h3; subst q; have q : _ = _ := hv3; subst q; have q := si h1; subst q
    exact SC.exit (lf (wq rfl))
  ·intro _ h0
   have q := si h0; subst q
   exact sr (sa rfl (sn (SC.ret (finR (Wk.refl _) (lresT rfl lresN) rfl))))
noncomputable def ref17_Same (p0 : ApiTable) (p1 : ApiTable) : Option Bool :=
 Option.bind (α := Bool)
 (bif (p0.Name != p1.Name) then
 some true
 else
 bif (p0.Tree != p1.Tree) then
 some true
 else
 bif ((p0.Cols.length : Int) != (p1.Cols.length : Int)) then
 some true
 else
 Option.bind (raw_Ints p0.Primary p1.Primary) fun r555 =>
 bif (!r555) then
 some true
 else
 some ((p0.Indexes.length : Int) != (p1.Indexes.length : Int)))
 fun y552 =>
 bif y552 then
 some false
 else
 bindE (Y := Unit) (E := Bool)
 (Option.bind (α := Unit ⊕ Bool)
 (loop (Y := Int) (W := Unit ⊕ Bool) (fun y570 =>
 bif (decide (y570 < (p0.Cols.length : Int))) then
 Option.bind (getI p0.Cols y570) fun v576 =>
 Option.bind (getI p1.Cols y570) fun v577 =>
 bif (!(eqApiColumn v576 v577)) then
 some (Sum.inr (Sum.inr false))
 else
 some (Sum.inl (w64 (y570 + (1 : Int))))
 else
 some (Sum.inr (Sum.inl ()))) (0 : Int))
 (Sum.elim (fun e => some (Sum.inl e)) (fun e => some (Sum.inr e))))
 (fun _ =>
 bindE (Y := Unit) (E := Bool)
 (Option.bind (α := Unit ⊕ Bool)
 (loop (Y := Int) (W := Unit ⊕ Bool) (fun y741 =>
 bif (decide (y741 < (p0.Indexes.length : Int))) then
 bindE (Y := Unit) (E := Bool)
 (Option.bind (getI p0.Indexes y741) fun v804 =>
 Option.bind (getI p1.Indexes y741) fun v805 =>
 Option.bind (α := Bool)
 (bif (v804.Name != v805.Name) then
 some true
 else
 bif (v804.Unique != v805.Unique) then
 some true
 else
 bif (v804.Ready != v805.Ready) then
 some true
 else
 bif (v804.Tree != v805.Tree) then
 some true
 else
 Option.bind (raw_Ints v804.Extra v805.Extra) fun r811 =>
 bif (!r811) then
 some true
 else
 some ((v804.Parts.length : Int) != (v805.Parts.length : Int)))
 fun y808 =>
 bif y808 then
 some (Sum.inr false)
 else
 Option.bind (α := Unit ⊕ Bool)
 (loop (Y := Int) (W := Unit ⊕ Bool) (fun y814 =>
 bif (decide (y814 < (v804.Parts.length : Int))) then
 Option.bind (getI v804.Parts y814) fun v820 =>
 Option.bind (getI v805.Parts y814) fun v821 =>
 bif (!(eqApiPart v820 v821)) then
 some (Sum.inr (Sum.inr false))
 else
 some (Sum.inl (w64 (y814 + (1 : Int))))
 else
 some (Sum.inr (Sum.inl ()))) (0 : Int))
 (Sum.elim (fun e => some (Sum.inl e)) (fun e => some (Sum.inr e))))
 (fun _ =>
 some (Sum.inl (w64 (y741 + (1 : Int)))))
 (fun e => some (Sum.inr (Sum.inr e)))
 else
 some (Sum.inr (Sum.inl ()))) (0 : Int))
 (Sum.elim (fun e => some (Sum.inl e)) (fun e => some (Sum.inr e))))
 (fun _ =>
 some true)
 (fun e => some e))
 (fun e => some e)
theorem ref17_Same_ok (p0 : ApiTable) (p1 : ApiTable) (r : Bool) (h0 : ref17_Same p0 p1 = some r) : CallAt Tryd.prog 15 [.d (eApiTable p0), .d (eApiTable p1)] [] (.d (eB r)) [] := by
 unfold ref17_Same at h0
 refine fn0 [0, 1] Tryd.func15 rfl rfl rfl rfl rfl ?_
 refine sr (s1 (bxo (k := 0) rfl rfl rfl) (s1 (bxo (k := 1) rfl rfl rfl) (sa rfl (sn (sq (SC.seqP h0 (fun y => ⟨mk 144 [(2, .ref 0 0 0), (3, .ref 1 0 0), (47, .d (eB y))], [.box (.d (eApiTable p0)), .box (.d (eApiTable p1))]⟩) ?_ ?_))))))
 ·intro u1_553 h1
  refine SC.region (s1 (far (k := 0) rfl fo53_0 ts9 rfl) (s1 (lod rfl (ld_box ts9 ta9 rfl rfl)) (s1 (far (k := 0) rfl fo53_0 ts9 rfl) (s1 (lod rfl (ld_box ts9 ta9 rfl rfl)) (s1 (bi rfl rfl q_str_neq) (sm rfl (sp h1 (fun h1 => ?_) (fun h1 => ?_))))))))
  ·have q := si h1; subst q
   refine kw rfl (kw rfl (kw rfl (kw rfl (kw rfl (s1 (pkt rfl rfl) (sm rfl (kw rfl (kw rfl (kw rfl ?_)))))))))
   refine kw rfl (kw rfl (kw rfl (kw rfl (s1 (pkt rfl rfl) (sm rfl (kw rfl (kw rfl (kw rfl (kw rfl ?_)))))))))
   refine kw rfl (kw rfl (s1 (pkt rfl rfl) (sm rfl (kw rfl (kw rfl (kw rfl (kw rfl (kw rfl (kw rfl ?_)))))))))
   exact kw rfl (s1 (pkt rfl rfl) (SO.nil ((wq rfl))))
  ·refine gw rfl (far (k := 4) rfl fo53_4 ts3 rfl) (gw rfl (lod rfl (ld_box ts3 ta3 rfl rfl)) (gw rfl (far (k := 4) rfl fo53_4 ts3 rfl) (gw rfl (lod rfl (ld_box ts3 ta3 rfl rfl)) (gw rfl (bi rfl rfl q_i64_neq) (s1 (pkf rfl rfl) (sm rfl (sp h1 (fun h1 => ?_) (fun h1 => ?_))))))))
   ·have q := si h1; subst q
    refine kw rfl (kw rfl (kw rfl (kw rfl (kw rfl (kw rfl (kw rfl (s1 (pkt rfl rfl) (sm rfl (kw rfl ?_)))))))))
    refine kw rfl (kw rfl (kw rfl (kw rfl (kw rfl (s1 (pkt rfl rfl) (sm rfl (kw rfl (kw rfl (kw rfl ?_)))))))))
    exact kw rfl (kw rfl (kw rfl (kw rfl (s1 (pkt rfl rfl) (SO.nil ((wq rfl)))))))
   ·refine gw rfl (far (k := 1) rfl fo53_1 ts49 rfl) (gw rfl (lod rfl (ld_box ts49 ta49 rfl rfl)) (gw rfl (len rfl rfl rfl (len_lst un49)) (gw rfl (far (k := 1) rfl fo53_1 ts49 rfl) (gw rfl (lod rfl (ld_box ts49 ta49 rfl rfl)) (gw rfl (len rfl rfl rfl (len_lst un49)) (gw rfl (bi rfl rfl q_i64_neq) (s1 (pkf rfl rfl) (sm rfl (sp h1 (fun h1 => ?_) (fun h1 => ?_))))))))))
    ·have q := si h1; subst q
     refine kw rfl (kw rfl (kw rfl (kw rfl (kw rfl (kw rfl (s1 (pkt rfl rfl) (sm rfl (kw rfl (kw rfl ?_)))))))))
     exact kw rfl (kw rfl (kw rfl (kw rfl (kw rfl (s1 (pkt rfl rfl) (SO.nil ((wq rfl))))))))
    ·obtain ⟨r555, hq554, h1⟩ := ob h1
     refine gw rfl (far (k := 2) rfl fo53_2 ts50 rfl) (gw rfl (lod rfl (ld_box ts50 ta50 rfl rfl)) (gw rfl (far (k := 2) rfl fo53_2 ts50 rfl) (gw rfl (lod rfl (ld_box ts50 ta50 rfl rfl)) (c0 (raw_Ints_ok p0.Primary p1.Primary _ hq554) (ww rfl) rfl rfl rfl cb29 rfl (fun _ => rfl) (fun _ => rfl) (gw rfl (nt rfl) (s1 (pkf rfl rfl) (sm rfl (sp h1 (fun h1 => ?_) (fun h1 => ?_)))))))))
     ·have q := si h1; subst q
      exact kw rfl (kw rfl (kw rfl (kw rfl (kw rfl (kw rfl (kw rfl (s1 (pkt rfl rfl) (SO.nil ((wq rfl))))))))))
     ·have q := si h1; subst q
      exact gw rfl (far (k := 3) rfl fo53_3 ts51 rfl) (gw rfl (lod rfl (ld_box ts51 ta51 rfl rfl)) (gw rfl (len rfl rfl rfl (len_lst un51)) (gw rfl (far (k := 3) rfl fo53_3 ts51 rfl) (gw rfl (lod rfl (ld_box ts51 ta51 rfl rfl)) (gw rfl (len rfl rfl rfl (len_lst un51)) (gw rfl (bi rfl rfl q_i64_neq) (s1 (pkf rfl rfl) (SO.nil ((wq rfl))))))))))
 ·rintro y552 h0
  refine cB h0 rfl (fun h0 => ?_) (fun h0 => ?_)
  ·have q := si h0; subst q
   exact sr (sa rfl (sn (SC.ret (finR (wc (e' := [(4, .d (eB false))]) [] [] (by kernel_rfl) rfl (by kernel_rfl)) (lresT rfl lresN) rfl))))
  ·refine sk (SC.seqB h0 (fun y => ⟨mk 144 [(2, .ref 0 0 0), (3, .ref 1 0 0)], [.box (.d (eApiTable p0)), .box (.d (eApiTable p1))]⟩) ?_ ?_)
   ·intro u1_567 h1 h0
    obtain ⟨u2_575, h2, h1⟩ := ob h1
    refine sr (sa rfl (sn (SC.blk (SC.loopB h2 (fun y => ⟨mk 144 [(2, .ref 0 0 0), (3, .ref 1 0 0), (5, .d (eI y))], [.box (.d (eApiTable p0)), .box (.d (eApiTable p1))]⟩) (wq rfl) ?_))))
    intro n578
    rintro y570 w2_574 h3 hv3
    refine sq (sr (sm rfl (s1 (far (k := 1) rfl fo53_1 ts49 rfl) (s1 (lod rfl (ld_box ts49 ta49 rfl rfl)) (s1 (len rfl rfl rfl (len_lst un49)) (s1 (bi rfl rfl q_i64_lss) (sn (cB h3 rfl (fun h3 => ?_) (fun h3 => ?_)))))))))
    ·obtain ⟨v576, hv576, h3⟩ := ob h3; obtain ⟨v577, hv577, h3⟩ := ob h3
     refine sk (sq (SC.blk (sd (by kernel_rfl) (t1 ([], false) (far (k := 1) rfl fo53_1 ts49 rfl) rfl (t1 ([0], false) (lod rfl (ld_box ts49 ta49 rfl rfl)) rfl (t1 ([], false) (mv rfl) rfl (t1 ([], false) (ial rfl rfl un49 ts62 (getI_some hv576).1 (map_get (getI_some hv576).2) rfl) rfl (t1 ([], false) (lod (v := .d (eApiColumn v576)) rfl (ld_rop ts62 ta62 rfl)) rfl (t1 ([], false) (far (k := 1) rfl fo53_1 ts49 rfl) rfl ?_)))))))))
     refine t1 ([1], false) (lod rfl (ld_box ts49 ta49 rfl rfl)) rfl (t1 ([], false) (mv rfl) rfl (t1 ([], false) (ial rfl rfl un49 ts62 (getI_some hv577).1 (map_get (getI_some hv577).2) rfl) rfl (t1 ([], false) (lod (v := .d (eApiColumn v577)) rfl (ld_rop ts62 ta62 rfl)) rfl (t1 ([], false) (bi (v := .d (eB (!(eqApiColumn v576 v577)))) rfl rfl (fun X Y => eqApiColumn_neq_62 X Y v576 v577)) rfl (tn (by decide +kernel) (cB h3 rfl (fun h3 => ?_) (fun h3 => ?_)))))))
     ·have q := si h3; subst q; have q : _ = _ := hv3; subst q; have q := si h1; subst q; have q := si h0; subst q
      exact sr (sa rfl (sn (SC.ret (finR (wc (e' := [(4, .d (eB false))]) [] [] (by kernel_rfl) rfl (by kernel_rfl)) (lresT rfl lresN) rfl))))
     ·refine SC.skip ?_
      change SC _ _ _ _ _
      have q := si h3; subst q
      exact SC.region (sm rfl (s1 (bi rfl rfl q_i64_add) (sa rfl (SO.nil (lf (wq rfl))))))
    ·have q := si h3; subst q; have q : _ = _ := hv3; subst q; have q := si h1; subst q
     exact SC.exit (lf (wq rfl))
   ·intro _ h0
    refine SC.seqB h0 (fun y => ⟨mk 144 [], []⟩) ?_ ?_
    ·intro u1_701 h1 h0
     obtain ⟨u2_783, h2, h1⟩ := ob h1
     refine sr (sa rfl (sn (SC.blk (SC.loopB h2 (fun y => ⟨mk 144 [(2, .ref 0 0 0), (3, .ref 1 0 0), (6, .d (eI y))], [.box (.d (eApiTable p0)), .box (.d (eApiTable p1))]⟩) (wq rfl) ?_))))
     intro n823
     rintro y741 w2_782 h3 hv3
     refine sq (sr (sm rfl (s1 (far (k := 3) rfl fo53_3 ts51 rfl) (s1 (lod rfl (ld_box ts51 ta51 rfl rfl)) (s1 (len rfl rfl rfl (len_lst un51)) (s1 (bi rfl rfl q_i64_lss) (sn (cB h3 rfl (fun h3 => ?_) (fun h3 => ?_)))))))))
     ·refine sk (SC.seqB h3 (fun y => ⟨mk 144 [(2, .ref 0 0 0), (3, .ref 1 0 0), (6, .d (eI y741))], [.box (.d (eApiTable p0)), .box (.d (eApiTable p1))]⟩) ?_ ?_)
      ·intro u4_803 h4 h3
       obtain ⟨v804, hv804, h4⟩ := ob h4; obtain ⟨v805, hv805, h4⟩ := ob h4
       refine SC.blk (sr (s1 (far (k := 3) rfl fo53_3 ts51 rfl) (s1 (lod rfl (ld_box ts51 ta51 rfl rfl)) (sm rfl (s1 (ial rfl rfl un51 ts85 (getI_some hv804).1 (map_get (getI_some hv804).2) rfl) (s1 (lod (v := .d (eApiIndex v804)) rfl (ld_rop ts85 ta85 rfl)) (s1 (alo (k := 2) zo85 rfl) (s0 (sto rfl rfl (sB (d' := .d (eApiIndex v804)) ts85 rfl rfl rfl rfl rfl rfl rfl)) (sn ?_)))))))))
       refine sr (s1 (far (k := 3) rfl fo53_3 ts51 rfl) (s1 (lod rfl (ld_box ts51 ta51 rfl rfl)) (sm rfl (s1 (ial rfl rfl un51 ts85 (getI_some hv805).1 (map_get (getI_some hv805).2) rfl) (s1 (lod (v := .d (eApiIndex v805)) rfl (ld_rop ts85 ta85 rfl)) (s1 (alo (k := 3) zo85 rfl) (s0 (sto rfl rfl (sB (d' := .d (eApiIndex v805)) ts85 rfl rfl rfl rfl rfl rfl rfl)) (sn (sq ?_)))))))))
       refine SC.seqP h4 (fun y => ⟨mk 144 [(2, .ref 0 0 0), (3, .ref 1 0 0), (6, .d (eI y741)), (7, .ref 2 0 0), (8, .ref 3 0 0), (125, .d (eB y))], [.box (.d (eApiTable p0)), .box (.d (eApiTable p1)), .box (.d (eApiIndex v804)), .box (.d (eApiIndex v805))]⟩) ?_ ?_
       ·intro u5_809 h5
        refine SC.region (s1 (far (k := 0) rfl fo85_0 ts9 rfl) (s1 (lod rfl (ld_box ts9 ta9 rfl rfl)) (s1 (far (k := 0) rfl fo85_0 ts9 rfl) (s1 (lod rfl (ld_box ts9 ta9 rfl rfl)) (s1 (bi rfl rfl q_str_neq) (sm rfl (sp h5 (fun h5 => ?_) (fun h5 => ?_))))))))
        ·have q := si h5; subst q
         refine kw rfl (kw rfl (kw rfl (kw rfl (kw rfl (s1 (pkt rfl rfl) (sm rfl (kw rfl (kw rfl (kw rfl ?_)))))))))
         refine kw rfl (kw rfl (s1 (pkt rfl rfl) (sm rfl (kw rfl (kw rfl (kw rfl (kw rfl (kw rfl (s1 (pkt rfl rfl) ?_)))))))))
         refine sm rfl (kw rfl (kw rfl (kw rfl (kw rfl (kw rfl (kw rfl (s1 (pkt rfl rfl) (sm rfl (kw rfl ?_)))))))))
         exact kw rfl (kw rfl (kw rfl (kw rfl (kw rfl (kw rfl (s1 (pkt rfl rfl) (SO.nil ((wq rfl)))))))))
        ·refine gw rfl (far (k := 3) rfl fo85_3 ts4 rfl) (gw rfl (lod rfl (ld_box ts4 ta4 rfl rfl)) (gw rfl (far (k := 3) rfl fo85_3 ts4 rfl) (gw rfl (lod rfl (ld_box ts4 ta4 rfl rfl)) (gw rfl (bi (v := .d (eB (v804.Unique != v805.Unique))) rfl rfl (fun X Y => b_bool_neq un4 X Y v804.Unique v805.Unique)) (s1 (pkf rfl rfl) (sm rfl (sp h5 (fun h5 => ?_) (fun h5 => ?_))))))))
         ·have q := si h5; subst q
          refine kw rfl (kw rfl (kw rfl (kw rfl (kw rfl (s1 (pkt rfl rfl) (sm rfl (kw rfl (kw rfl (kw rfl ?_)))))))))
          refine kw rfl (kw rfl (s1 (pkt rfl rfl) (sm rfl (kw rfl (kw rfl (kw rfl (kw rfl (kw rfl (kw rfl ?_)))))))))
          refine s1 (pkt rfl rfl) (sm rfl (kw rfl (kw rfl (kw rfl (kw rfl (kw rfl (kw rfl (kw rfl (s1 (pkt rfl rfl) ?_)))))))))
          exact SO.nil ((wq rfl))
         ·refine gw rfl (far (k := 4) rfl fo85_4 ts4 rfl) (gw rfl (lod rfl (ld_box ts4 ta4 rfl rfl)) (gw rfl (far (k := 4) rfl fo85_4 ts4 rfl) (gw rfl (lod rfl (ld_box ts4 ta4 rfl rfl)) (gw rfl (bi (v := .d (eB (v804.Ready != v805.Ready))) rfl rfl (fun X Y => b_bool_neq un4 X Y v804.Ready v805.Ready)) (s1 (pkf rfl rfl) (sm rfl (sp h5 (fun h5 => ?_) (fun h5 => ?_))))))))
          ·have q := si h5; subst q
           refine kw rfl (kw rfl (kw rfl (kw rfl (kw rfl (s1 (pkt rfl rfl) (sm rfl (kw rfl (kw rfl (kw rfl ?_)))))))))
           refine kw rfl (kw rfl (kw rfl (s1 (pkt rfl rfl) (sm rfl (kw rfl (kw rfl (kw rfl (kw rfl (kw rfl ?_)))))))))
           exact kw rfl (kw rfl (s1 (pkt rfl rfl) (SO.nil ((wq rfl)))))
          ·refine gw rfl (far (k := 5) rfl fo85_5 ts3 rfl) (gw rfl (lod rfl (ld_box ts3 ta3 rfl rfl)) (gw rfl (far (k := 5) rfl fo85_5 ts3 rfl) (gw rfl (lod rfl (ld_box ts3 ta3 rfl rfl)) (gw rfl (bi rfl rfl q_i64_neq) (s1 (pkf rfl rfl) (sm rfl (sp h5 (fun h5 => ?_) (fun h5 => ?_))))))))
           ·have q := si h5; subst q
            refine kw rfl (kw rfl (kw rfl (kw rfl (kw rfl (kw rfl (s1 (pkt rfl rfl) (sm rfl (kw rfl (kw rfl ?_)))))))))
            exact kw rfl (kw rfl (kw rfl (kw rfl (kw rfl (s1 (pkt rfl rfl) (SO.nil ((wq rfl))))))))
           ·obtain ⟨r811, hq810, h5⟩ := ob h5
            refine gw rfl (far (k := 2) rfl fo85_2 ts50 rfl) (gw rfl (lod rfl (ld_box ts50 ta50 rfl rfl)) (gw rfl (far (k := 2) rfl fo85_2 ts50 rfl) (gw rfl (lod rfl (ld_box ts50 ta50 rfl rfl)) (c0 (raw_Ints_ok v804.Extra v805.Extra _ hq810) (ww rfl) rfl rfl rfl cb29 rfl (fun _ => rfl) (fun _ => rfl) (gw rfl (nt rfl) (s1 (pkf rfl rfl) (sm rfl (sp h5 (fun h5 => ?_) (fun h5 => ?_)))))))))
            ·have q := si h5; subst q
             exact kw rfl (kw rfl (kw rfl (kw rfl (kw rfl (kw rfl (kw rfl (s1 (pkt rfl rfl) (SO.nil ((wq rfl))))))))))
            ·have q := si h5; subst q
             exact gw rfl (far (k := 1) rfl fo85_1 ts83 rfl) (gw rfl (lod rfl (ld_box ts83 ta83 rfl rfl)) (gw rfl (len rfl rfl rfl (len_lst un83)) (gw rfl (far (k := 1) rfl fo85_1 ts83 rfl) (gw rfl (lod rfl (ld_box ts83 ta83 rfl rfl)) (gw rfl (len rfl rfl rfl (len_lst un83)) (gw rfl (bi rfl rfl q_i64_neq) (s1 (pkf rfl rfl) (SO.nil ((wq rfl))))))))))
       ·rintro y808 h4
        refine cB h4 rfl (fun h4 => ?_) (fun h4 => ?_)
        ·have q := si h4; subst q; have q := si h3; subst q; have q : _ = _ := hv3; subst q; have q := si h1; subst q; have q := si h0; subst q
         exact sr (sa rfl (sn (SC.ret (finR (wc (e' := [(4, .d (eB false))]) [] [] (by kernel_rfl) rfl (by kernel_rfl)) (lresT rfl lresN) rfl))))
        ·obtain ⟨u5_819, h5, h4⟩ := ob h4
         refine sk (sr (sa rfl (sn (SC.blk (SC.loopB h5 (fun y => ⟨mk 144 [(2, .ref 0 0 0), (3, .ref 1 0 0), (6, .d (eI y741)), (7, .ref 2 0 0), (8, .ref 3 0 0), (9, .d (eI y))], [.box (.d (eApiTable p0)), .box (.d (eApiTable p1)), .box (.d (eApiIndex v804)), .box (.d (eApiIndex v805))]⟩) (wq rfl) ?_)))))
         intro n822
         rintro y814 w5_818 h6 hv6
         refine sq (sr (sm rfl (s1 (far (k := 1) rfl fo85_1 ts83 rfl) (s1 (lod rfl (ld_box ts83 ta83 rfl rfl)) (s1 (len rfl rfl rfl (len_lst un83)) (s1 (bi rfl rfl q_i64_lss) (sn (cB h6 rfl (fun h6 => ?_) (fun h6 => ?_)))))))))
         ·obtain ⟨v820, hv820, h6⟩ := ob h6; obtain ⟨v821, hv821, h6⟩ := ob h6
          refine sk (sq (SC.blk (sd (by kernel_rfl) (t1 ([], false) (far (k := 1) rfl fo85_1 ts83 rfl) rfl (t1 ([2], false) (lod rfl (ld_box ts83 ta83 rfl rfl)) rfl (t1 ([], false) (mv rfl) rfl (t1 ([], false) (ial rfl rfl un83 ts92 (getI_some hv820).1 (map_get (getI_some hv820).2) rfl) rfl (t1 ([], false) (lod (v := .d (eApiPart v820)) rfl (ld_rop ts92 ta92 rfl)) rfl (t1 ([], false) (far (k := 1) rfl fo85_1 ts83 rfl) rfl ?_)))))))))
          refine t1 ([3], false) (lod rfl (ld_box ts83 ta83 rfl rfl)) rfl (t1 ([], false) (mv rfl) rfl (t1 ([], false) (ial rfl rfl un83 ts92 (getI_some hv821).1 (map_get (getI_some hv821).2) rfl) rfl (t1 ([], false) (lod (v := .d (eApiPart v821)) rfl (ld_rop ts92 ta92 rfl)) rfl (t1 ([], false) (bi (v := .d (eB (!(eqApiPart v820 v821)))) rfl rfl (fun X Y => eqApiPart_neq_92 X Y v820 v821)) rfl (tn (by decide +kernel) (cB h6 rfl (fun h6 => ?_) (fun h6 => ?_)))))))
          ·have q := si h6; subst q; have q : _ = _ := hv6; subst q; have q := si h4; subst q; have q := si h3; subst q; have q : _ = _ := hv3; subst q; have q := si h1; subst q; have q := si h0; subst q
           exact sr (sa rfl (sn (SC.ret (finR (wc (e' := [(4, .d (eB false))]) [] [] (by kernel_rfl) rfl (by kernel_rfl)) (lresT rfl lresN) rfl))))
          ·refine SC.skip ?_
           change SC _ _ _ _ _
           have q := si h6; subst q
           exact SC.region (sm rfl (s1 (bi rfl rfl q_i64_add) (sa rfl (SO.nil (lf (wq rfl))))))
         ·have q := si h6; subst q; have q : _ = _ := hv6; subst q; have q := si h4; subst q
          exact SC.exit (lf (wc [0, 1] [0, 1] (by kernel_rfl) rfl (by kernel_rfl)))
      ·intro _ h3
       have q := si h3; subst q
       exact SC.region (sm rfl (s1 (bi rfl rfl q_i64_add) (sa rfl (SO.nil (lf (wq rfl))))))
     ·have q := si h3; subst q; have q : _ = _ := hv3; subst q; have q := si h1; subst q
      exact SC.exit (lf (wc [] [] (by kernel_rfl) rfl (by kernel_rfl)))
    ·intro _ h0
     have q := si h0; subst q
     exact sr (sa rfl (sn (SC.ret (finR (Wk.refl _) (lresT rfl lresN) rfl))))
noncomputable def law18_awake : Option Bool :=
 Option.bind (catalog_Pairs (ApiTable.mk ([97] : List UInt8) [(ApiColumn.mk ([105, 100] : List UInt8) (1 : Int) (0 : Int) false (ApiValue.mk (1 : Int) (0 : UInt64) ([] : List UInt8)))] [(0 : Int)] ([] : List ApiIndex) (2 : Int))) fun (r47, r48) =>
 Option.bind (catalog_Read r47) fun (r50, r51) =>
 Option.bind (catalog_Ops (1 : Int) [(ApiPair.mk ([97] : List UInt8) ([] : List UInt8))] [(ApiPair.mk ([98] : List UInt8) ([] : List UInt8))]) fun r53 =>
 Option.bind (α := Bool)
 (bif (r48 == (0 : Int)) then
 bif ((r47.length : Int) == (2 : Int)) then
 Option.bind (getI r47 (0 : Int)) fun v62 =>
 bif (v62.Key == ([116, 97] : List UInt8)) then
 Option.bind (getI r47 (0 : Int)) fun v63 =>
 bif (v63.Val == ([0, 2, 1, 1, 0, 0] : List UInt8)) then
 bif (r51 == (0 : Int)) then
 bif ((r50.length : Int) == (1 : Int)) then
 Option.bind (getI r50 (0 : Int)) fun v64 =>
 Option.bind (ref17_Same v64 (ApiTable.mk ([97] : List UInt8) [(ApiColumn.mk ([105, 100] : List UInt8) (1 : Int) (0 : Int) false (ApiValue.mk (1 : Int) (0 : UInt64) ([] : List UInt8)))] [(0 : Int)] ([] : List ApiIndex) (2 : Int))) fun r66 =>
 bif r66 then
 bif ((r53.length : Int) == (2 : Int)) then
 Option.bind (getI r53 (1 : Int)) fun v67 =>
 some (v67.Msg.Key == ([98] : List UInt8))
 else
 some false
 else
 some false
 else
 some false
 else
 some false
 else
 some false
 else
 some false
 else
 some false
 else
 some false)
 fun y60 =>
 some y60
theorem law18_awake_ok (r : Bool) (h0 : law18_awake = some r) : CallAt Tryd.prog 6 [] [] (.d (eB r)) [] := by
 unfold law18_awake at h0
 refine fn0 [] Tryd.func6 rfl rfl rfl rfl rfl ?_
 obtain ⟨⟨r47, r48⟩, hq46, h0⟩ := ob h0; obtain ⟨⟨r50, r51⟩, hq49, h0⟩ := ob h0; obtain ⟨r53, hq52, h0⟩ := ob h0
 refine sr (sa rfl (sn (sr (s1 (bld rfl (bd60_0 (1 : Int))) (s1 (bld rfl (bd62_0_1_4 ([105, 100] : List UInt8) (1 : Int) (ApiValue.mk (1 : Int) (0 : UInt64) ([] : List UInt8)))) (s1 (bsn (k := 0) (ds := List.map eApiColumn [(ApiColumn.mk ([105, 100] : List UInt8) (1 : Int) (0 : Int) false (ApiValue.mk (1 : Int) (0 : UInt64) ([] : List UInt8)))]) (off := 0) (l' := [(ApiColumn.mk ([105, 100] : List UInt8) (1 : Int) (0 : Int) false (ApiValue.mk (1 : Int) (0 : UInt64) ([] : List UInt8)))].length) rfl un49 ei62 rfl rfl (by rfl) rfl rfl rfl) (s1 (bsn (k := 1) (ds := List.map eI [(0 : Int)]) (off := 0) (l' := [(0 : Int)].length) rfl un50 ei3 rfl rfl (by rfl) rfl rfl rfl) (s1 (bld rfl (bd53_0_1_2_4 ([97] : List UInt8) (2 : Int))) (s1 (alo (k := 2) zo53 rfl) ?_)))))))))
 refine s0 (sto rfl rfl (sB (d' := .agg [.d (eS ([97] : List UInt8)), .slc 0 7 0 ([(ApiColumn.mk ([105, 100] : List UInt8) (1 : Int) (0 : Int) false (ApiValue.mk (1 : Int) (0 : UInt64) ([] : List UInt8)))].length) none, .slc 1 1 0 ([(0 : Int)].length) none, .d .nils, .d (eI (2 : Int))]) ts53 rfl rfl rfl rfl rfl rfl rfl)) (sn (sr (s1 (lod (v := .agg [.d (eS ([97] : List UInt8)), .slc 0 7 0 ([(ApiColumn.mk ([105, 100] : List UInt8) (1 : Int) (0 : Int) false (ApiValue.mk (1 : Int) (0 : UInt64) ([] : List UInt8)))].length) none, .slc 1 1 0 ([(0 : Int)].length) none, .d .nils, .d (eI (2 : Int))]) rfl (ld_box ts53 ta53 rfl rfl)) (cq (args' := [.agg [.d (eS ([97] : List UInt8)), .slc 0 7 0 ([(ApiColumn.mk ([105, 100] : List UInt8) (1 : Int) (0 : Int) false (ApiValue.mk (1 : Int) (0 : UInt64) ([] : List UInt8)))].length) none, .slc 1 1 0 ([(0 : Int)].length) none, .d .nils, .d (eI (2 : Int))]]) (σc := [.row 7 (List.map eApiColumn [(ApiColumn.mk ([105, 100] : List UInt8) (1 : Int) (0 : Int) false (ApiValue.mk (1 : Int) (0 : UInt64) ([] : List UInt8)))]) true, .row 1 (List.map eI [(0 : Int)]) true]) [0, 1] [] (CallAt.frz (ArgF.frzw (y := .d (eApiTable (ApiTable.mk ([97] : List UInt8) [(ApiColumn.mk ([105, 100] : List UInt8) (1 : Int) (0 : Int) false (ApiValue.mk (1 : Int) (0 : UInt64) ([] : List UInt8)))] [(0 : Int)] ([] : List ApiIndex) (2 : Int)))) rfl (frzs_d rfl (frzs_slc (fF rfl rfl rfl) (frzs_slc (fF rfl rfl rfl) (frzs_d rfl (frzs_d rfl frzs_nil))))) (AW.aggd rfl (AWs.cons (AW.refl _) (AWs.cons (AW.refl _) (AWs.cons (AW.refl _) (AWs.cons (AW.nl _) (AWs.cons (AW.refl _) AWs.nil)))))) (ArgF.nil _)) (fq [] [] (catalog_Pairs_ok (ApiTable.mk ([97] : List UInt8) [(ApiColumn.mk ([105, 100] : List UInt8) (1 : Int) (0 : Int) false (ApiValue.mk (1 : Int) (0 : UInt64) ([] : List UInt8)))] [(0 : Int)] ([] : List ApiIndex) (2 : Int)) _ hq46) rfl rfl rfl rfl rfl rfl rfl rfl)) wf rfl rfl rfl cb11 rfl rfl rfl rfl rfl rfl rfl rfl ?_))))
 refine sm rfl (s1 (ext rfl rfl) (s1 (ext rfl rfl) (sa rfl (sa rfl (sn (sr (sm rfl (c0 (catalog_Read_ok r47 _ hq49) wf rfl rfl rfl cb12 rfl (fun _ => rfl) (fun _ => rfl) (sm rfl ?_)))))))))
 refine s1 (ext rfl rfl) (s1 (ext rfl rfl) (sa rfl (sa rfl (sn (sr (s1 (bld rfl (bd25_0 ([97] : List UInt8))) (s1 (bsn (k := 3) (ds := List.map eApiPair [(ApiPair.mk ([97] : List UInt8) ([] : List UInt8))]) (off := 0) (l' := [(ApiPair.mk ([97] : List UInt8) ([] : List UInt8))].length) rfl un22 ei25 rfl rfl (by rfl) rfl rfl rfl) (s1 (bld rfl (bd25_0 ([98] : List UInt8))) (s1 (bsn (k := 4) (ds := List.map eApiPair [(ApiPair.mk ([98] : List UInt8) ([] : List UInt8))]) (off := 0) (l' := [(ApiPair.mk ([98] : List UInt8) ([] : List UInt8))].length) rfl un22 ei25 rfl rfl (by rfl) rfl rfl rfl) ?_)))))))))
 refine cq (args' := [.d (eI (1 : Int)), .slc 0 2 0 ([(ApiPair.mk ([97] : List UInt8) ([] : List UInt8))].length) none, .slc 1 2 0 ([(ApiPair.mk ([98] : List UInt8) ([] : List UInt8))].length) none]) (σc := [.row 2 (List.map eApiPair [(ApiPair.mk ([97] : List UInt8) ([] : List UInt8))]) true, .row 2 (List.map eApiPair [(ApiPair.mk ([98] : List UInt8) ([] : List UInt8))]) true]) [3, 4] [] (CallAt.frz (ArgF.keep (ArgF.frz (fF rfl rfl rfl) (ArgF.frz (fF rfl rfl rfl) (ArgF.nil _)))) (fq [] [] (catalog_Ops_ok (1 : Int) [(ApiPair.mk ([97] : List UInt8) ([] : List UInt8))] [(ApiPair.mk ([98] : List UInt8) ([] : List UInt8))] _ hq52) rfl rfl rfl rfl rfl rfl rfl rfl)) wf rfl rfl rfl cb7 rfl rfl rfl rfl rfl rfl rfl rfl (sa rfl (sn (SC.seqP h0 (fun y => ⟨mk 77 [(0, .d (eB y))], []⟩) ?_ ?_)))
 ·intro u1_61 h1
  refine SC.draws (by kernel_rfl) (t1 ([], false) (mv rfl) rfl (t1 ([], false) (bi rfl rfl q_i64_eql) rfl (t1 ([], false) (mv rfl) rfl (tp h1 (fun h1 => ?_) (fun h1 => ?_)))))
  ·refine u1 ([], false) (ww rfl) (mv rfl) rfl (u1 ([], false) (ww rfl) (len rfl rfl rfl (len_lst un22)) rfl (u1 ([], false) (ww rfl) (bi rfl rfl q_i64_eql) rfl (t1 ([], false) (pkt rfl rfl) rfl (t1 ([], false) (mv rfl) rfl (tp h1 (fun h1 => ?_) (fun h1 => ?_))))))
   ·obtain ⟨v62, hv62, h1⟩ := ob h1
    refine u1 ([], false) (ww rfl) (mv rfl) rfl (u1 ([], false) (ww rfl) (ial rfl rfl un22 ts25 (getI_some hv62).1 (map_get (getI_some hv62).2) rfl) rfl (u1 ([], false) (ww rfl) (fap rfl fo25_0 ts9 rfl) rfl (u1 ([], false) (ww rfl) (lod rfl (ld_rop ts9 ta9 rfl)) rfl (u1 ([], false) (ww rfl) (bi rfl rfl (q_str_eql (b := ([116, 97] : List UInt8)))) rfl (t1 ([], false) (pkt rfl rfl) rfl (t1 ([], false) (mv rfl) rfl (tp h1 (fun h1 => ?_) (fun h1 => ?_))))))))
    ·obtain ⟨v63, hv63, h1⟩ := ob h1
     refine u1 ([], false) (ww rfl) (mv rfl) rfl (u1 ([], false) (ww rfl) (ial rfl rfl un22 ts25 (getI_some hv63).1 (map_get (getI_some hv63).2) rfl) rfl (u1 ([], false) (ww rfl) (fap rfl fo25_1 ts9 rfl) rfl (u1 ([], false) (ww rfl) (lod rfl (ld_rop ts9 ta9 rfl)) rfl (u1 ([], false) (ww rfl) (bi rfl rfl (q_str_eql (b := ([0, 2, 1, 1, 0, 0] : List UInt8)))) rfl (t1 ([], false) (pkt rfl rfl) rfl (t1 ([], false) (mv rfl) rfl (tp h1 (fun h1 => ?_) (fun h1 => ?_))))))))
     ·refine u1 ([], false) (ww rfl) (mv rfl) rfl (u1 ([], false) (ww rfl) (bi rfl rfl q_i64_eql) rfl (t1 ([], false) (pkt rfl rfl) rfl (t1 ([], false) (mv rfl) rfl (tp h1 (fun h1 => ?_) (fun h1 => ?_)))))
      ·refine u1 ([], false) (ww rfl) (mv rfl) rfl (u1 ([], false) (ww rfl) (len rfl rfl rfl (len_lst un45)) rfl (u1 ([], false) (ww rfl) (bi rfl rfl q_i64_eql) rfl (t1 ([], false) (pkt rfl rfl) rfl (t1 ([], false) (mv rfl) rfl (tp h1 (fun h1 => ?_) (fun h1 => ?_))))))
       ·obtain ⟨v64, hv64, h1⟩ := ob h1; obtain ⟨r66, hq65, h1⟩ := ob h1
        refine u1 ([], false) (ww rfl) (mv rfl) rfl (u1 ([], false) (ww rfl) (ial rfl rfl un45 ts53 (getI_some hv64).1 (map_get (getI_some hv64).2) rfl) rfl (u1 ([], false) (ww rfl) (lod (v := .d (eApiTable v64)) rfl (ld_rop ts53 ta53 rfl)) rfl (u1 ([2], false) (ww rfl) (lod (v := .agg [.d (eS ([97] : List UInt8)), .slc 0 7 0 ([(ApiColumn.mk ([105, 100] : List UInt8) (1 : Int) (0 : Int) false (ApiValue.mk (1 : Int) (0 : UInt64) ([] : List UInt8)))].length) none, .slc 1 1 0 ([(0 : Int)].length) none, .d .nils, .d (eI (2 : Int))]) rfl (ld_box ts53 ta53 rfl rfl)) rfl (tqr (args' := [.d (eApiTable v64), .agg [.d (eS ([97] : List UInt8)), .slc 0 7 0 ([(ApiColumn.mk ([105, 100] : List UInt8) (1 : Int) (0 : Int) false (ApiValue.mk (1 : Int) (0 : UInt64) ([] : List UInt8)))].length) none, .slc 1 1 0 ([(0 : Int)].length) none, .d .nils, .d (eI (2 : Int))]]) (σc := [.row 7 (List.map eApiColumn [(ApiColumn.mk ([105, 100] : List UInt8) (1 : Int) (0 : Int) false (ApiValue.mk (1 : Int) (0 : UInt64) ([] : List UInt8)))]) false, .row 1 (List.map eI [(0 : Int)]) false]) [0, 1] [0, 1] (CallAt.frz (ArgF.keep (ArgF.frzw (y := .d (eApiTable (ApiTable.mk ([97] : List UInt8) [(ApiColumn.mk ([105, 100] : List UInt8) (1 : Int) (0 : Int) false (ApiValue.mk (1 : Int) (0 : UInt64) ([] : List UInt8)))] [(0 : Int)] ([] : List ApiIndex) (2 : Int)))) rfl (frzs_d rfl (frzs_slc (fF rfl rfl rfl) (frzs_slc (fF rfl rfl rfl) (frzs_d rfl (frzs_d rfl frzs_nil))))) (AW.aggd rfl (AWs.cons (AW.refl _) (AWs.cons (AW.refl _) (AWs.cons (AW.refl _) (AWs.cons (AW.nl _) (AWs.cons (AW.refl _) AWs.nil)))))) (ArgF.nil _))) (fq [] [] (ref17_Same_ok v64 (ApiTable.mk ([97] : List UInt8) [(ApiColumn.mk ([105, 100] : List UInt8) (1 : Int) (0 : Int) false (ApiValue.mk (1 : Int) (0 : UInt64) ([] : List UInt8)))] [(0 : Int)] ([] : List ApiIndex) (2 : Int)) _ hq65) rfl rfl rfl rfl rfl rfl rfl rfl)) (ww rfl) rfl rfl rfl cb15 rfl rfl rfl rfl rfl rfl rfl rfl ?_))))
        refine t1 ([], false) (pkt rfl rfl) rfl (t1 ([], false) (mv rfl) rfl (tp h1 (fun h1 => ?_) (fun h1 => ?_)))
        ·refine u1 ([], false) (ww rfl) (mv rfl) rfl (u1 ([], false) (ww rfl) (len rfl rfl rfl (len_lst un26)) rfl (u1 ([], false) (ww rfl) (bi rfl rfl q_i64_eql) rfl (t1 ([], false) (pkt rfl rfl) rfl (t1 ([], false) (mv rfl) rfl (tp h1 (fun h1 => ?_) (fun h1 => ?_))))))
         ·obtain ⟨v67, hv67, h1⟩ := ob h1; have q := si h1; subst q
          refine u1 ([], false) (ww rfl) (mv rfl) rfl (u1 ([], false) (ww rfl) (ial rfl rfl un26 ts39 (getI_some hv67).1 (map_get (getI_some hv67).2) rfl) rfl (u1 ([], false) (ww rfl) (fap rfl fo39_2 ts37 rfl) rfl (u1 ([], false) (ww rfl) (fap rfl fo37_2 ts9 rfl) rfl (u1 ([], false) (ww rfl) (lod rfl (ld_rop ts9 ta9 rfl)) rfl (u1 ([], false) (ww rfl) (bi rfl rfl (q_str_eql (b := ([98] : List UInt8)))) rfl (t1 ([], false) (pkt rfl rfl) rfl (t1 ([], false) (asg rfl) rfl (ST.nil (And.intro (by decide +kernel) ?_)))))))))
          exact (wc [] [] (by kernel_rfl) rfl (by kernel_rfl))
         ·have q := si h1; subst q
          refine jw rfl (jw rfl (jw rfl (jw rfl (jw rfl (jw rfl (t1 ([], false) (pkf rfl rfl) rfl (t1 ([], false) (asg rfl) rfl (ST.nil (And.intro (by decide +kernel) ?_)))))))))
          exact (wc [] [] (by kernel_rfl) rfl (by kernel_rfl))
        ·have q := si h1; subst q
         refine jw rfl (jw rfl (jw rfl (t1 ([], false) (pkf rfl rfl) rfl (t1 ([], false) (mv rfl) rfl (jw rfl (jw rfl (jw rfl (jw rfl (jw rfl ?_)))))))))
         refine jw rfl (t1 ([], false) (pkf rfl rfl) rfl (t1 ([], false) (asg rfl) rfl (ST.nil (And.intro (by decide +kernel) ?_))))
         exact (wc [] [] (by kernel_rfl) rfl (by kernel_rfl))
       ·have q := si h1; subst q
        refine jw rfl (jw rfl (jw rfl (jw rfl (jw rfl (t1 ([], false) (pkf rfl rfl) rfl (t1 ([], false) (mv rfl) rfl (jw rfl (jw rfl (jw rfl ?_)))))))))
        refine t1 ([], false) (pkf rfl rfl) rfl (t1 ([], false) (mv rfl) rfl (jw rfl (jw rfl (jw rfl (jw rfl (jw rfl (jw rfl (t1 ([], false) (pkf rfl rfl) rfl (t1 ([], false) (asg rfl) rfl ?_)))))))))
        refine ST.nil (And.intro (by decide +kernel) ?_)
        exact (wc [] [] (by kernel_rfl) rfl (by kernel_rfl))
      ·have q := si h1; subst q
       refine jw rfl (jw rfl (jw rfl (t1 ([], false) (pkf rfl rfl) rfl (t1 ([], false) (mv rfl) rfl (jw rfl (jw rfl (jw rfl (jw rfl (jw rfl ?_)))))))))
       refine t1 ([], false) (pkf rfl rfl) rfl (t1 ([], false) (mv rfl) rfl (jw rfl (jw rfl (jw rfl (t1 ([], false) (pkf rfl rfl) rfl (t1 ([], false) (mv rfl) rfl (jw rfl (jw rfl (jw rfl ?_)))))))))
       refine jw rfl (jw rfl (jw rfl (t1 ([], false) (pkf rfl rfl) rfl (t1 ([], false) (asg rfl) rfl (ST.nil (And.intro (by decide +kernel) ?_))))))
       exact (wc [] [] (by kernel_rfl) rfl (by kernel_rfl))
     ·have q := si h1; subst q
      refine jw rfl (jw rfl (t1 ([], false) (pkf rfl rfl) rfl (t1 ([], false) (mv rfl) rfl (jw rfl (jw rfl (jw rfl (t1 ([], false) (pkf rfl rfl) rfl (t1 ([], false) (mv rfl) rfl (jw rfl ?_)))))))))
      refine jw rfl (jw rfl (jw rfl (jw rfl (t1 ([], false) (pkf rfl rfl) rfl (t1 ([], false) (mv rfl) rfl (jw rfl (jw rfl (jw rfl (t1 ([], false) (pkf rfl rfl) rfl ?_)))))))))
      refine t1 ([], false) (mv rfl) rfl (jw rfl (jw rfl (jw rfl (jw rfl (jw rfl (jw rfl (t1 ([], false) (pkf rfl rfl) rfl (t1 ([], false) (asg rfl) rfl (ST.nil (And.intro (by decide +kernel) ?_))))))))))
      exact (wc [] [] (by kernel_rfl) rfl (by kernel_rfl))
    ·have q := si h1; subst q
     refine jw rfl (jw rfl (jw rfl (jw rfl (jw rfl (t1 ([], false) (pkf rfl rfl) rfl (t1 ([], false) (mv rfl) rfl (jw rfl (jw rfl (t1 ([], false) (pkf rfl rfl) rfl ?_)))))))))
     refine t1 ([], false) (mv rfl) rfl (jw rfl (jw rfl (jw rfl (t1 ([], false) (pkf rfl rfl) rfl (t1 ([], false) (mv rfl) rfl (jw rfl (jw rfl (jw rfl (jw rfl ?_)))))))))
     refine jw rfl (t1 ([], false) (pkf rfl rfl) rfl (t1 ([], false) (mv rfl) rfl (jw rfl (jw rfl (jw rfl (t1 ([], false) (pkf rfl rfl) rfl (t1 ([], false) (mv rfl) rfl (jw rfl (jw rfl ?_)))))))))
     refine jw rfl (jw rfl (jw rfl (jw rfl (t1 ([], false) (pkf rfl rfl) rfl (t1 ([], false) (asg rfl) rfl (ST.nil (And.intro (by decide +kernel) ?_)))))))
     exact (wc [] [] (by kernel_rfl) rfl (by kernel_rfl))
   ·have q := si h1; subst q
    refine jw rfl (jw rfl (jw rfl (jw rfl (jw rfl (t1 ([], false) (pkf rfl rfl) rfl (t1 ([], false) (mv rfl) rfl (jw rfl (jw rfl (jw rfl ?_)))))))))
    refine jw rfl (jw rfl (t1 ([], false) (pkf rfl rfl) rfl (t1 ([], false) (mv rfl) rfl (jw rfl (jw rfl (t1 ([], false) (pkf rfl rfl) rfl (t1 ([], false) (mv rfl) rfl (jw rfl (jw rfl ?_)))))))))
    refine jw rfl (t1 ([], false) (pkf rfl rfl) rfl (t1 ([], false) (mv rfl) rfl (jw rfl (jw rfl (jw rfl (jw rfl (jw rfl (t1 ([], false) (pkf rfl rfl) rfl (t1 ([], false) (mv rfl) rfl ?_)))))))))
    refine jw rfl (jw rfl (jw rfl (t1 ([], false) (pkf rfl rfl) rfl (t1 ([], false) (mv rfl) rfl (jw rfl (jw rfl (jw rfl (jw rfl (jw rfl ?_)))))))))
    refine jw rfl (t1 ([], false) (pkf rfl rfl) rfl (t1 ([], false) (asg rfl) rfl (ST.nil (And.intro (by decide +kernel) ?_))))
    exact (wc [] [] (by kernel_rfl) rfl (by kernel_rfl))
  ·have q := si h1; subst q
   refine jw rfl (jw rfl (jw rfl (t1 ([], false) (pkf rfl rfl) rfl (t1 ([], false) (mv rfl) rfl (jw rfl (jw rfl (jw rfl (jw rfl (jw rfl ?_)))))))))
   refine t1 ([], false) (pkf rfl rfl) rfl (t1 ([], false) (mv rfl) rfl (jw rfl (jw rfl (jw rfl (jw rfl (jw rfl (t1 ([], false) (pkf rfl rfl) rfl (t1 ([], false) (mv rfl) rfl (jw rfl ?_)))))))))
   refine jw rfl (t1 ([], false) (pkf rfl rfl) rfl (t1 ([], false) (mv rfl) rfl (jw rfl (jw rfl (jw rfl (t1 ([], false) (pkf rfl rfl) rfl (t1 ([], false) (mv rfl) rfl (jw rfl (jw rfl ?_)))))))))
   refine jw rfl (jw rfl (jw rfl (t1 ([], false) (pkf rfl rfl) rfl (t1 ([], false) (mv rfl) rfl (jw rfl (jw rfl (jw rfl (t1 ([], false) (pkf rfl rfl) rfl (t1 ([], false) (mv rfl) rfl ?_)))))))))
   refine jw rfl (jw rfl (jw rfl (jw rfl (jw rfl (jw rfl (t1 ([], false) (pkf rfl rfl) rfl (t1 ([], false) (asg rfl) rfl (ST.nil (And.intro (by decide +kernel) ?_)))))))))
   exact (wc [] [] (by kernel_rfl) rfl (by kernel_rfl))
 ·rintro y60 h0
  have q := si h0; subst q
  exact SC.ret (finR (Wk.refl _) (lresT rfl lresN) rfl)
noncomputable def ref09_changed (p0 : Granaryref09Val) (p1 : ApiMsg) : Option Granaryref09Val :=
 bindE (Y := Unit) (E := Granaryref09Val)
 (bif (p1.Kind == (1 : Int)) then
 some (Sum.inr (Granaryref09Val.mk true p1.Val))
 else
 bif (p1.Kind == (2 : Int)) then
 some (Sum.inr (Granaryref09Val.mk false ([] : List UInt8)))
 else
 bif (p1.Kind == (3 : Int)) then
 Option.bind (α := Bool)
 (bif (!p0.has) then
 some true
 else
 bif (decide (p1.Off < (0 : Int))) then
 some true
 else
 some (decide (p1.Off > (w64 ((p0.s.length : Int) - (8 : Int))))))
 fun y240 =>
 bif y240 then
 some (Sum.inr p0)
 else
 Option.bind (α := (List UInt8))
 (Option.bind (α := (List UInt8))
 (loop (Y := (List UInt8) × Int × Int) (W := (List UInt8)) (fun (y265, y266, y267) =>
 bif (decide (y267 ≥ (0 : Int))) then
 Option.bind (getI y265 (w64 (p1.Off + y267))) fun v276 =>
 bif decide (0 ≤ (w64 ((56 : Int) - (w64 ((8 : Int) * y267))))) then
 Option.bind (getI y265 (w64 (p1.Off + y267))) fun v278 =>
 some (Sum.inl ((List.set y265 ((w64 (p1.Off + y267)).toNat) (u8i (w64 ((w64 ((v276.toNat : Int) + (((shr64 p1.Num ((w64 ((56 : Int) - (w64 ((8 : Int) * y267)))).toNat)).toUInt8).toNat : Int))) + y266)))), (w64 (Int.tdiv (w64 ((w64 ((v276.toNat : Int) + (((shr64 p1.Num ((w64 ((56 : Int) - (w64 ((8 : Int) * y267)))).toNat)).toUInt8).toNat : Int))) + y266)) (256 : Int))), (w64 (y267 - (1 : Int)))))
 else none
 else
 some (Sum.inr y265)) (p0.s, (0 : Int), (7 : Int)))
 (fun e => some e))
 fun y260 =>
 some (Sum.inr (Granaryref09Val.mk true y260))
 else
 bif (p1.Kind == (4 : Int)) then
 Option.bind (α := Bool)
 (bif (!p0.has) then
 some true
 else
 bif (p0.s == ([] : List UInt8)) then
 some true
 else
 bif (decide (p1.Off < (0 : Int))) then
 some true
 else
 bif (decide (p1.Off > (255 : Int))) then
 some true
 else
 Option.bind (getI p0.s (0 : Int)) fun v283 =>
 bif ((v283.toNat : Int) != p1.Off) then
 some true
 else
 some (decide ((w64 ((p0.s.length : Int) + (p1.Val.length : Int))) > (512 : Int))))
 fun y281 =>
 bif y281 then
 some (Sum.inr p0)
 else
 bif decide (0 ≤ (1 : Int) ∧ (1 : Int) ≤ (p0.s.length : Int)) then
 bif decide ([(u8i (w64 (p1.Off + (1 : Int))))].length + (List.drop (1 : Int).toNat p0.s).length ≤ 9223372036854775807) then
 bif decide (([(u8i (w64 (p1.Off + (1 : Int))))] ++ (List.drop (1 : Int).toNat p0.s)).length + p1.Val.length ≤ 9223372036854775807) then
 some (Sum.inr (Granaryref09Val.mk true (([(u8i (w64 (p1.Off + (1 : Int))))] ++ (List.drop (1 : Int).toNat p0.s)) ++ p1.Val)))
 else none
 else none
 else none
 else
 some (Sum.inl ()))
 (fun _ =>
 some p0)
 (fun e => some e)
theorem ref09_changed_ok (p0 : Granaryref09Val) (p1 : ApiMsg) (r : Granaryref09Val) (h0 : ref09_changed p0 p1 = some r) : CallAt Tryd.prog 32 [.d (eGranaryref09Val p0), .d (eApiMsg p1)] [] (.d (eGranaryref09Val r)) [.box (.d (eGranaryref09Val r))] := by
 unfold ref09_changed at h0
 refine fn0 [0, 1] Tryd.func32 rfl rfl rfl rfl rfl ?_
 refine sr (s1 (bxo (k := 0) rfl rfl rfl) (s1 (bxo (k := 1) rfl rfl rfl) (s1 (alo (k := 2) zo97 rfl) (sn (SC.seqB h0 (fun y => ⟨mk 133 [(2, .ref 0 0 0), (4, .ref 1 0 0)], [.box (.d (eGranaryref09Val p0)), .box (.d (eGranaryref09Val (Granaryref09Val.mk false ([] : List UInt8))))]⟩) ?_ ?_)))))
 ·intro u1_239 h1 h0
  refine sr (s1 (far (k := 1) rfl fo37_1 ts3 rfl) (s1 (lod rfl (ld_box ts3 ta3 rfl rfl)) (sn (SC.blk (sr (s1 (bi rfl rfl q_i64_eql) (sa rfl (sn (cB h1 rfl (fun h1 => ?_) (fun h1 => ?_))))))))))
  ·have q := si h1; subst q; have q := si h0; subst q
   exact sr (s1 (far (k := 4) rfl fo37_4 ts9 rfl) (s1 (lod rfl (ld_box ts9 ta9 rfl rfl)) (s1 (bld rfl (bd97_0_1 true p1.Val)) (s0 (sto rfl rfl (sB (d' := .d (eGranaryref09Val (Granaryref09Val.mk true p1.Val))) ts97 rfl rfl rfl rfl rfl rfl rfl)) (sn (SC.ret (finR (wc (e' := [(4, .ref 0 0 0)]) [2] [2] (by kernel_rfl) rfl (by kernel_rfl)) (lresC rfl (ld_box ts97 ta97 rfl rfl) lresN) rfl)))))))
  ·refine sr (s1 (bi rfl rfl q_i64_eql) (sa rfl (sn (cB h1 rfl (fun h1 => ?_) (fun h1 => ?_)))))
   ·have q := si h1; subst q; have q := si h0; subst q
    exact sr (s1 (bld rfl (bd97_ )) (s0 (sto rfl rfl (sB (d' := .d (eGranaryref09Val (Granaryref09Val.mk false ([] : List UInt8)))) ts97 rfl rfl rfl rfl rfl rfl rfl)) (sn (SC.ret (finR (wc (e' := [(4, .ref 0 0 0)]) [2] [2] (by kernel_rfl) rfl (by kernel_rfl)) (lresC rfl (ld_box ts97 ta97 rfl rfl) lresN) rfl)))))
   ·refine sr (s1 (bi rfl rfl q_i64_eql) (sa rfl (sn (cB h1 rfl (fun h1 => ?_) (fun h1 => ?_)))))
    ·refine sq (SC.seqP h1 (fun y => ⟨mk 133 [(2, .ref 0 0 0), (3, .ref 1 0 0), (4, .ref 2 0 0), (37, .d (eB y))], [.box (.d (eGranaryref09Val p0)), .box (.d (eApiMsg p1)), .box (.d (eGranaryref09Val (Granaryref09Val.mk false ([] : List UInt8))))]⟩) ?_ ?_)
     ·intro u2_241 h2
      refine SC.region (s1 (far (k := 0) rfl fo97_0 ts4 rfl) (s1 (lod rfl (ld_box ts4 ta4 rfl rfl)) (s1 (nt rfl) (sm rfl (sp h2 (fun h2 => ?_) (fun h2 => ?_))))))
      ·have q := si h2; subst q
       refine kw rfl (kw rfl (kw rfl (s1 (pkt rfl rfl) (sm rfl (kw rfl (kw rfl (kw rfl (kw rfl (kw rfl ?_)))))))))
       exact kw rfl (kw rfl (s1 (pkt rfl rfl) (SO.nil ((wq rfl)))))
      ·refine gw rfl (far (k := 5) rfl fo37_5 ts3 rfl) (gw rfl (lod rfl (ld_box ts3 ta3 rfl rfl)) (gw rfl (bi rfl rfl q_i64_lss) (s1 (pkf rfl rfl) (sm rfl (sp h2 (fun h2 => ?_) (fun h2 => ?_))))))
       ·have q := si h2; subst q
        exact kw rfl (kw rfl (kw rfl (kw rfl (kw rfl (kw rfl (kw rfl (s1 (pkt rfl rfl) (SO.nil ((wq rfl))))))))))
       ·have q := si h2; subst q
        exact gw rfl (far (k := 5) rfl fo37_5 ts3 rfl) (gw rfl (lod rfl (ld_box ts3 ta3 rfl rfl)) (gw rfl (far (k := 1) rfl fo97_1 ts9 rfl) (gw rfl (lod rfl (ld_box ts9 ta9 rfl rfl)) (gw rfl (len rfl rfl rfl (len_str un9)) (gw rfl (bi rfl rfl q_i64_sub) (gw rfl (bi rfl rfl q_i64_gtr) (s1 (pkf rfl rfl) (SO.nil ((wq rfl))))))))))
     ·rintro y240 h1
      refine cB h1 rfl (fun h1 => ?_) (fun h1 => ?_)
      ·have q := si h1; subst q; have q := si h0; subst q
       exact sr (s1 (lod (v := .d (eGranaryref09Val p0)) rfl (ld_box ts97 ta97 rfl rfl)) (s0 (sto rfl rfl (sB (d' := .d (eGranaryref09Val p0)) ts97 rfl rfl rfl rfl rfl rfl rfl)) (sn (SC.ret (finR (wc (e' := [(4, .ref 0 0 0)]) [2] [2] (by kernel_rfl) rfl (by kernel_rfl)) (lresC rfl (ld_box ts97 ta97 rfl rfl) lresN) rfl)))))
      ·refine sk (sr (s1 (far (k := 1) rfl fo97_1 ts9 rfl) (s1 (lod rfl (ld_box ts9 ta9 rfl rfl)) (s1 (cvs (s := p0.s) (k := 3) rfl un9 un72 un5 ts5 rfl) (sa rfl (sn (sr (sa rfl (sn ?_)))))))))
       refine SC.seqP h1 (fun y => ⟨mk 133 [(4, .ref 0 0 0), (5, .slc 1 1 0 y.length none)], [.box (.d (eGranaryref09Val (Granaryref09Val.mk false ([] : List UInt8)))), .row 1 (List.map eU8 y) true]⟩) ?_ ?_
       ·intro u2_261 h2
        obtain ⟨u3_275, h3, h2⟩ := ob h2
        refine sr (sa rfl (sn (SC.blk (SC.loopB h3 (fun y => ⟨mk 133 [(3, .ref 0 0 0), (4, .ref 1 0 0), (5, .slc 2 1 0 y.1.length none), (6, .d (eI y.2.1)), (7, .d (eI y.2.2))], [.box (.d (eApiMsg p1)), .box (.d (eGranaryref09Val (Granaryref09Val.mk false ([] : List UInt8)))), .row 1 (List.map eU8 y.1) true]⟩) (wc [1, 2, 3] [1, 2, 3] (by kernel_rfl) rfl (by kernel_rfl)) ?_))))
        intro n279
        rintro ⟨y265, y266, y267⟩ w3_274 h4 hv4
        refine sq (sr (sm rfl (s1 (bi rfl rfl q_i64_geq) (sn (cB h4 rfl (fun h4 => ?_) (fun h4 => ?_))))))
        ·obtain ⟨v276, hv276, h4⟩ := ob h4; obtain ⟨hg277, h4⟩ := gd h4; obtain ⟨v278, hv278, h4⟩ := ob h4
         refine sk (sq (SC.blk (sd (by kernel_rfl) (t1 ([], false) (mv rfl) rfl (t1 ([], false) (far (k := 5) rfl fo37_5 ts3 rfl) rfl (t1 ([0], false) (lod rfl (ld_box ts3 ta3 rfl rfl)) rfl (t1 ([], false) (mv rfl) rfl (t1 ([], false) (bi rfl rfl q_i64_add) rfl (t1 ([], false) (iaz rfl rfl un72 ts5 (getI_lt hv276)) rfl ?_)))))))))
         refine t1 ([2], false) (lod rfl (ld_row ts5 ta5 rfl (map_get (getI_some hv276).2) rfl)) rfl (t1 ([], false) (cvo rfl (cv_u8_i64 un5 un3 v276)) rfl (t1 ([], false) (far (k := 6) rfl fo37_6 ts35 rfl) rfl (t1 ([0], false) (lod rfl (ld_box ts35 ta35 rfl rfl)) rfl (t1 ([], false) (mv rfl) rfl (t1 ([], false) (bi rfl rfl q_i64_mul) rfl (t1 ([], false) (bi rfl rfl q_i64_sub) rfl (t1 ([], false) (bi (v := .d (eU64 (shr64 p1.Num ((w64 ((56 : Int) - (w64 ((8 : Int) * y267)))).toNat)))) rfl rfl (fun X Y => b_u64_shr _ X Y p1.Num _ hg277)) rfl (t1 ([], false) (cvo rfl (cv_u64_u8 un35 un5 (shr64 p1.Num ((w64 ((56 : Int) - (w64 ((8 : Int) * y267)))).toNat)))) rfl (t1 ([], false) (cvo rfl (cv_u8_i64 un5 un3 ((shr64 p1.Num ((w64 ((56 : Int) - (w64 ((8 : Int) * y267)))).toNat)).toUInt8))) rfl ?_)))))))))
         refine t1 ([], false) (bi rfl rfl q_i64_add) rfl (t1 ([], false) (mv rfl) rfl (t1 ([], false) (bi rfl rfl q_i64_add) rfl (t1 ([], false) (asg rfl) rfl (tn (by decide +kernel) (sr (sm rfl (s1 (far (k := 5) rfl fo37_5 ts3 rfl) (s1 (lod rfl (ld_box ts3 ta3 rfl rfl)) (sm rfl ?_)))))))))
         refine s1 (bi rfl rfl q_i64_add) (sm rfl (s1 (cvo rfl (cv_i64_u8 un3 un5 (w64 ((w64 ((v276.toNat : Int) + (((shr64 p1.Num ((w64 ((56 : Int) - (w64 ((8 : Int) * y267)))).toNat)).toUInt8).toNat : Int))) + y266)))) (s1 (iaz rfl rfl un72 ts5 (getI_lt hv278)) (s0 (sto (b := .d (eU8 (u8i (w64 ((w64 ((v276.toNat : Int) + (((shr64 p1.Num ((w64 ((56 : Int) - (w64 ((8 : Int) * y267)))).toNat)).toUInt8).toNat : Int))) + y266))))) rfl rfl (sR (f := eU8) (v := (u8i (w64 ((w64 ((v276.toNat : Int) + (((shr64 p1.Num ((w64 ((56 : Int) - (w64 ((8 : Int) * y267)))).toNat)).toUInt8).toNat : Int))) + y266)))) ts5 rfl rfl rfl rfl (getI_some hv278).2 rfl rfl)) (sn (SC.region (sm rfl (s1 (bi (v := .d (eI (w64 (Int.tdiv (w64 ((w64 ((v276.toNat : Int) + (((shr64 p1.Num ((w64 ((56 : Int) - (w64 ((8 : Int) * y267)))).toNat)).toUInt8).toNat : Int))) + y266)) (256 : Int))))) rfl rfl (fun X Y => b_i64_quo _ X Y (w64 ((w64 ((v276.toNat : Int) + (((shr64 p1.Num ((w64 ((56 : Int) - (w64 ((8 : Int) * y267)))).toNat)).toUInt8).toNat : Int))) + y266)) (256 : Int) (by decide))) (sa rfl ?_)))))))))
         refine SO.nil ?_
         change SC _ _ _ _ _
         have q := si h4; subst q
         exact SC.region (sm rfl (s1 (bi rfl rfl q_i64_sub) (sa rfl (SO.nil (lf (Wk.env (EW.cons (AW.refl _) (EW.cons (AW.refl _) (EW.cons (AW.slc rfl (by simp)) (EW.cons (AW.refl _) (EW.cons (AW.refl _) EW.nil)))))))))))
        ·have q := si h4; subst q; have q : _ = _ := hv4; subst q; have q := si h2; subst q
         exact SC.exit ((wc [1, 2] [1, 2] (by kernel_rfl) rfl (by kernel_rfl)))
       ·rintro y260 h1
        have q := si h1; subst q; have q := si h0; subst q
        exact sr (sm rfl (s1 (cvo (v := .d (eS y260)) rfl (cv_bytes_str un72 un9 un5 (el_full (xs := y260) rfl) (fun _ hh => by cases hh))) (s1 (bld rfl (bd97_0_1 true y260)) (s0 (sto rfl rfl (sB (d' := .d (eGranaryref09Val (Granaryref09Val.mk true y260))) ts97 rfl rfl rfl rfl rfl rfl rfl)) (sn (SC.ret (finR (wc (e' := [(4, .ref 0 0 0)]) [0] [0] (by kernel_rfl) rfl (by kernel_rfl)) (lresC rfl (ld_box ts97 ta97 rfl rfl) lresN) rfl)))))))
    ·refine sr (s1 (bi rfl rfl q_i64_eql) (sa rfl (sn (cB h1 rfl (fun h1 => ?_) (fun h1 => ?_)))))
     ·refine sq (SC.seqP h1 (fun y => ⟨mk 133 [(2, .ref 0 0 0), (3, .ref 1 0 0), (4, .ref 2 0 0), (116, .d (eB y))], [.box (.d (eGranaryref09Val p0)), .box (.d (eApiMsg p1)), .box (.d (eGranaryref09Val (Granaryref09Val.mk false ([] : List UInt8))))]⟩) ?_ ?_)
      ·intro u2_282 h2
       refine SC.draws (by kernel_rfl) (t1 ([], false) (far (k := 0) rfl fo97_0 ts4 rfl) rfl (t1 ([0], false) (lod rfl (ld_box ts4 ta4 rfl rfl)) rfl (t1 ([], false) (nt rfl) rfl (t1 ([], false) (mv rfl) rfl (tp h2 (fun h2 => ?_) (fun h2 => ?_))))))
       ·have q := si h2; subst q
        refine jw rfl (jw rfl (jw rfl (t1 ([], false) (pkt rfl rfl) rfl (t1 ([], false) (mv rfl) rfl (jw rfl (jw rfl (jw rfl (t1 ([], false) (pkt rfl rfl) rfl (t1 ([], false) (mv rfl) rfl ?_)))))))))
        refine jw rfl (jw rfl (jw rfl (t1 ([], false) (pkt rfl rfl) rfl (t1 ([], false) (mv rfl) rfl (jw rfl (jw rfl (jw rfl (jw rfl (jw rfl ?_)))))))))
        refine jw rfl (jw rfl (t1 ([], false) (pkt rfl rfl) rfl (t1 ([], false) (mv rfl) rfl (jw rfl (jw rfl (jw rfl (jw rfl (jw rfl (jw rfl ?_)))))))))
        refine jw rfl (jw rfl (t1 ([], false) (pkt rfl rfl) rfl (ST.nil (And.intro (by decide +kernel) ?_))))
        exact (wq rfl)
       ·refine u1 ([], false) (ww rfl) (far (k := 1) rfl fo97_1 ts9 rfl) rfl (u1 ([0], false) (ww rfl) (lod rfl (ld_box ts9 ta9 rfl rfl)) rfl (u1 ([], false) (ww rfl) (bi rfl rfl (q_str_eql (b := ([] : List UInt8)))) rfl (t1 ([], false) (pkf rfl rfl) rfl (t1 ([], false) (mv rfl) rfl (tp h2 (fun h2 => ?_) (fun h2 => ?_))))))
        ·have q := si h2; subst q
         refine jw rfl (jw rfl (jw rfl (t1 ([], false) (pkt rfl rfl) rfl (t1 ([], false) (mv rfl) rfl (jw rfl (jw rfl (jw rfl (t1 ([], false) (pkt rfl rfl) rfl (t1 ([], false) (mv rfl) rfl ?_)))))))))
         refine jw rfl (jw rfl (jw rfl (jw rfl (jw rfl (jw rfl (jw rfl (t1 ([], false) (pkt rfl rfl) rfl (t1 ([], false) (mv rfl) rfl (jw rfl ?_)))))))))
         refine jw rfl (jw rfl (jw rfl (jw rfl (jw rfl (jw rfl (jw rfl (t1 ([], false) (pkt rfl rfl) rfl (ST.nil (And.intro (by decide +kernel) ?_)))))))))
         exact (wq rfl)
        ·refine u1 ([], false) (ww rfl) (far (k := 5) rfl fo37_5 ts3 rfl) rfl (u1 ([1], false) (ww rfl) (lod rfl (ld_box ts3 ta3 rfl rfl)) rfl (u1 ([], false) (ww rfl) (bi rfl rfl q_i64_lss) rfl (t1 ([], false) (pkf rfl rfl) rfl (t1 ([], false) (mv rfl) rfl (tp h2 (fun h2 => ?_) (fun h2 => ?_))))))
         ·have q := si h2; subst q
          refine jw rfl (jw rfl (jw rfl (t1 ([], false) (pkt rfl rfl) rfl (t1 ([], false) (mv rfl) rfl (jw rfl (jw rfl (jw rfl (jw rfl (jw rfl ?_)))))))))
          refine jw rfl (jw rfl (t1 ([], false) (pkt rfl rfl) rfl (t1 ([], false) (mv rfl) rfl (jw rfl (jw rfl (jw rfl (jw rfl (jw rfl (jw rfl ?_)))))))))
          refine jw rfl (jw rfl (t1 ([], false) (pkt rfl rfl) rfl (ST.nil (And.intro (by decide +kernel) ?_))))
          exact (wq rfl)
         ·refine u1 ([], false) (ww rfl) (far (k := 5) rfl fo37_5 ts3 rfl) rfl (u1 ([1], false) (ww rfl) (lod rfl (ld_box ts3 ta3 rfl rfl)) rfl (u1 ([], false) (ww rfl) (bi rfl rfl q_i64_gtr) rfl (t1 ([], false) (pkf rfl rfl) rfl (t1 ([], false) (mv rfl) rfl (tp h2 (fun h2 => ?_) (fun h2 => ?_))))))
          ·have q := si h2; subst q
           refine jw rfl (jw rfl (jw rfl (jw rfl (jw rfl (jw rfl (jw rfl (t1 ([], false) (pkt rfl rfl) rfl (t1 ([], false) (mv rfl) rfl (jw rfl ?_)))))))))
           refine jw rfl (jw rfl (jw rfl (jw rfl (jw rfl (jw rfl (jw rfl (t1 ([], false) (pkt rfl rfl) rfl (ST.nil (And.intro (by decide +kernel) ?_)))))))))
           exact (wq rfl)
          ·obtain ⟨v283, hv283, h2⟩ := ob h2
           refine u1 ([], false) (ww rfl) (far (k := 1) rfl fo97_1 ts9 rfl) rfl (u1 ([0], false) (ww rfl) (lod rfl (ld_box ts9 ta9 rfl rfl)) rfl (u1 ([], false) (ww rfl) (ixs rfl rfl rfl rfl (ix_str un9 (getI_some hv283).1 (getI_some hv283).2)) rfl (u1 ([], false) (ww rfl) (cvo rfl (cv_u8_i64 un5 un3 v283)) rfl (u1 ([], false) (ww rfl) (far (k := 5) rfl fo37_5 ts3 rfl) rfl (u1 ([1], false) (ww rfl) (lod rfl (ld_box ts3 ta3 rfl rfl)) rfl (u1 ([], false) (ww rfl) (bi rfl rfl q_i64_neq) rfl (t1 ([], false) (pkf rfl rfl) rfl (t1 ([], false) (mv rfl) rfl (tp h2 (fun h2 => ?_) (fun h2 => ?_))))))))))
           ·have q := si h2; subst q
            refine jw rfl (jw rfl (jw rfl (jw rfl (jw rfl (jw rfl (jw rfl (jw rfl (t1 ([], false) (pkt rfl rfl) rfl (ST.nil (And.intro (by decide +kernel) ?_))))))))))
            exact (wq rfl)
           ·have q := si h2; subst q
            refine u1 ([], false) (ww rfl) (far (k := 1) rfl fo97_1 ts9 rfl) rfl (u1 ([0], false) (ww rfl) (lod rfl (ld_box ts9 ta9 rfl rfl)) rfl (u1 ([], false) (ww rfl) (len rfl rfl rfl (len_str un9)) rfl (u1 ([], false) (ww rfl) (far (k := 4) rfl fo37_4 ts9 rfl) rfl (u1 ([1], false) (ww rfl) (lod rfl (ld_box ts9 ta9 rfl rfl)) rfl (u1 ([], false) (ww rfl) (len rfl rfl rfl (len_str un9)) rfl (u1 ([], false) (ww rfl) (bi rfl rfl q_i64_add) rfl (u1 ([], false) (ww rfl) (bi rfl rfl q_i64_gtr) rfl (t1 ([], false) (pkf rfl rfl) rfl (ST.nil (And.intro (by decide +kernel) ?_))))))))))
            exact (wq rfl)
      ·rintro y281 h1
       refine cB h1 rfl (fun h1 => ?_) (fun h1 => ?_)
       ·have q := si h1; subst q; have q := si h0; subst q
        exact sr (s1 (lod (v := .d (eGranaryref09Val p0)) rfl (ld_box ts97 ta97 rfl rfl)) (s0 (sto rfl rfl (sB (d' := .d (eGranaryref09Val p0)) ts97 rfl rfl rfl rfl rfl rfl rfl)) (sn (SC.ret (finR (wc (e' := [(4, .ref 0 0 0)]) [2] [2] (by kernel_rfl) rfl (by kernel_rfl)) (lresC rfl (ld_box ts97 ta97 rfl rfl) lresN) rfl)))))
       ·obtain ⟨hg284, h1⟩ := gd h1; obtain ⟨hg285, h1⟩ := gd h1; obtain ⟨hg286, h1⟩ := gd h1; have q := si h1; subst q; have q := si h0; subst q
        refine sk (sd (by kernel_rfl) (t1 ([], false) (far (k := 5) rfl fo37_5 ts3 rfl) rfl (t1 ([1], false) (lod rfl (ld_box ts3 ta3 rfl rfl)) rfl (t1 ([], false) (bi rfl rfl q_i64_add) rfl (t1 ([], false) (cvo rfl (cv_i64_u8 un3 un5 (w64 (p1.Off + (1 : Int))))) rfl (t1 ([3], true) (bsn (k := 3) (ds := List.map eU8 [(u8i (w64 (p1.Off + (1 : Int))))]) (off := 0) (l' := [(u8i (w64 (p1.Off + (1 : Int))))].length) rfl un72 ei5 rfl rfl (by rfl) rfl rfl rfl) rfl (t1 ([3], false) (cvo (v := .d (eS [(u8i (w64 (p1.Off + (1 : Int))))])) rfl (cv_bytes_str un72 un9 un5 (el_full (xs := [(u8i (w64 (p1.Off + (1 : Int))))]) rfl) (fun _ hh => by cases hh))) rfl (t1 ([], false) (far (k := 1) rfl fo97_1 ts9 rfl) rfl (t1 ([0], false) (lod rfl (ld_box ts9 ta9 rfl rfl)) rfl ?_)))))))))
        exact t1 ([], false) (slo rfl rfl rfl rfl (sl_str_lo un9 hg284)) rfl (t1 ([], false) (bi (v := .d (eS ([(u8i (w64 (p1.Off + (1 : Int))))] ++ (List.drop (1 : Int).toNat p0.s)))) rfl rfl (fun X Y => b_str_add _ X Y [(u8i (w64 (p1.Off + (1 : Int))))] (List.drop (1 : Int).toNat p0.s) hg285)) rfl (t1 ([], false) (far (k := 4) rfl fo37_4 ts9 rfl) rfl (t1 ([1], false) (lod rfl (ld_box ts9 ta9 rfl rfl)) rfl (t1 ([], false) (bi (v := .d (eS (([(u8i (w64 (p1.Off + (1 : Int))))] ++ (List.drop (1 : Int).toNat p0.s)) ++ p1.Val))) rfl rfl (fun X Y => b_str_add _ X Y ([(u8i (w64 (p1.Off + (1 : Int))))] ++ (List.drop (1 : Int).toNat p0.s)) p1.Val hg286)) rfl (t1 ([], false) (bld rfl (bd97_0_1 true (([(u8i (w64 (p1.Off + (1 : Int))))] ++ (List.drop (1 : Int).toNat p0.s)) ++ p1.Val))) rfl (t0 ([2], true) (sto rfl rfl (sB (d' := .d (eGranaryref09Val (Granaryref09Val.mk true (([(u8i (w64 (p1.Off + (1 : Int))))] ++ (List.drop (1 : Int).toNat p0.s)) ++ p1.Val)))) ts97 rfl rfl rfl rfl rfl rfl rfl)) rfl (tn (by decide +kernel) (SC.ret (finR (wc (e' := [(4, .ref 0 0 0)]) [2] [2] (by kernel_rfl) rfl (by kernel_rfl)) (lresC rfl (ld_box ts97 ta97 rfl rfl) lresN) rfl)))))))))
     ·have q := si h1; subst q
      exact SC.skip (lf (wc [0, 2] [0, 2] (by kernel_rfl) rfl (by kernel_rfl)))
 ·intro _ h0
  have q := si h0; subst q
  exact sr (s1 (lod (v := .d (eGranaryref09Val p0)) rfl (ld_box ts97 ta97 rfl rfl)) (s0 (sto rfl rfl (sB (d' := .d (eGranaryref09Val p0)) ts97 rfl rfl rfl rfl rfl rfl rfl)) (sn (SC.ret (finR (wc (e' := [(4, .ref 0 0 0)]) [1] [1] (by kernel_rfl) rfl (by kernel_rfl)) (lresC rfl (ld_box ts97 ta97 rfl rfl) lresN) rfl)))))
noncomputable def ref09_Apply (p0 : ApiEntry) (p1 : ApiMsg) : Option ApiEntry :=
 Option.bind (α := UInt64 × Granaryref09Val × Granaryref09Val)
 (Option.bind (α := Bool)
 (bif (p1.Kind == (1 : Int)) then
 some (p1.Kind == (1 : Int))
 else
 bif (p1.Kind == (2 : Int)) then
 some (p1.Kind == (2 : Int))
 else
 some (p1.Kind == (3 : Int)))
 fun y135 =>
 bif y135 then
 bif (p1.Txn == (0 : UInt64)) then
 Option.bind (ref09_changed (Granaryref09Val.mk p0.Has p0.Val) p1) fun r138 =>
 some (p0.Txn, r138, (Granaryref09Val.mk p0.New p0.NewVal))
 else
 Option.bind (α := Bool)
 (bif (p1.Kind != (3 : Int)) then
 some true
 else
 some (decide (p1.Off ≥ (0 : Int))))
 fun y139 =>
 bif y139 then
 Option.bind (α := UInt64 × Granaryref09Val)
 (bif (p0.Txn == (0 : UInt64)) then
 some (p1.Txn, (Granaryref09Val.mk p0.Has p0.Val))
 else
 some (p0.Txn, (Granaryref09Val.mk p0.New p0.NewVal)))
 fun (y141, y142) =>
 bif (y141 == p1.Txn) then
 Option.bind (ref09_changed y142 p1) fun r145 =>
 some (y141, (Granaryref09Val.mk p0.Has p0.Val), r145)
 else
 some (y141, (Granaryref09Val.mk p0.Has p0.Val), y142)
 else
 some (p0.Txn, (Granaryref09Val.mk p0.Has p0.Val), (Granaryref09Val.mk p0.New p0.NewVal))
 else
 bif (p1.Kind == (4 : Int)) then
 Option.bind (ref09_changed (Granaryref09Val.mk p0.Has p0.Val) p1) fun r147 =>
 Option.bind (ref09_changed (Granaryref09Val.mk p0.New p0.NewVal) p1) fun r149 =>
 some (p0.Txn, r147, r149)
 else
 Option.bind (α := Bool)
 (bif (p1.Kind == (5 : Int)) then
 some (p1.Kind == (5 : Int))
 else
 some (p1.Kind == (6 : Int)))
 fun y150 =>
 bif y150 then
 Option.bind (α := Bool)
 (bif (p0.Txn == p1.Txn) then
 some (p0.Txn != (0 : UInt64))
 else
 some false)
 fun y152 =>
 bif y152 then
 Option.bind (α := Granaryref09Val)
 (bif (p1.Kind == (5 : Int)) then
 some (Granaryref09Val.mk p0.New p0.NewVal)
 else
 some (Granaryref09Val.mk p0.Has p0.Val))
 fun y154 =>
 some ((0 : UInt64), y154, (Granaryref09Val.mk p0.New p0.NewVal))
 else
 some (p0.Txn, (Granaryref09Val.mk p0.Has p0.Val), (Granaryref09Val.mk p0.New p0.NewVal))
 else
 some (p0.Txn, (Granaryref09Val.mk p0.Has p0.Val), (Granaryref09Val.mk p0.New p0.NewVal)))
 fun (y131, y132, y133) =>
 Option.bind (α := ApiEntry)
 (bif y132.has then
 some (ApiEntry.mk p0.Key y132.has y132.s y131 false ([] : List UInt8))
 else
 some (ApiEntry.mk p0.Key y132.has ([] : List UInt8) y131 false ([] : List UInt8)))
 fun y156 =>
 Option.bind (α := ApiEntry)
 (Option.bind (α := Bool)
 (bif (y131 != (0 : UInt64)) then
 some y133.has
 else
 some false)
 fun y162 =>
 bif y162 then
 some (ApiEntry.mk y156.Key y156.Has y156.Val y156.Txn true y133.s)
 else
 some y156)
 fun y160 =>
 some y160
theorem ref09_Apply_ok (p0 : ApiEntry) (p1 : ApiMsg) (r : ApiEntry) (h0 : ref09_Apply p0 p1 = some r) : CallAt Tryd.prog 18 [.d (eApiEntry p0), .d (eApiMsg p1)] [] (.d (eApiEntry r)) [.box (.d (eApiEntry r))] := by
 unfold ref09_Apply at h0
 refine fn0 [0, 1] Tryd.func18 rfl rfl rfl rfl rfl ?_
 refine sr (s1 (bxo (k := 0) rfl rfl rfl) (s1 (bxo (k := 1) rfl rfl rfl) (s1 (alo (k := 2) zo42 rfl) (sn (sr (s1 (far (k := 1) rfl fo42_1 ts4 rfl) (s1 (lod rfl (ld_box ts4 ta4 rfl rfl)) (s1 (far (k := 2) rfl fo42_2 ts9 rfl) (s1 (lod rfl (ld_box ts9 ta9 rfl rfl)) ?_)))))))))
 refine s1 (bld rfl (bd97_0_1 p0.Has p0.Val)) (s1 (alo (k := 3) zo97 rfl) (s0 (sto rfl rfl (sB (d' := .d (eGranaryref09Val (Granaryref09Val.mk p0.Has p0.Val))) ts97 rfl rfl rfl rfl rfl rfl rfl)) (sn (sr (s1 (far (k := 4) rfl fo42_4 ts4 rfl) (s1 (lod rfl (ld_box ts4 ta4 rfl rfl)) (s1 (far (k := 5) rfl fo42_5 ts9 rfl) (s1 (lod rfl (ld_box ts9 ta9 rfl rfl)) (s1 (bld rfl (bd97_0_1 p0.New p0.NewVal)) ?_)))))))))
 refine s1 (alo (k := 4) zo97 rfl) (s0 (sto rfl rfl (sB (d' := .d (eGranaryref09Val (Granaryref09Val.mk p0.New p0.NewVal))) ts97 rfl rfl rfl rfl rfl rfl rfl)) (sn (sr (s1 (far (k := 3) rfl fo42_3 ts35 rfl) (s1 (lod rfl (ld_box ts35 ta35 rfl rfl)) (sa rfl (sn (SC.seqP h0 (fun y => ⟨mk 98 [(2, .ref 0 0 0), (4, .ref 1 0 0), (5, .ref 2 0 0), (6, .ref 3 0 0), (7, .d (eU64 y.1))], [.box (.d (eApiEntry p0)), .box (.d (eApiEntry (ApiEntry.mk ([] : List UInt8) false ([] : List UInt8) (0 : UInt64) false ([] : List UInt8)))), .box (.d (eGranaryref09Val y.2.1)), .box (.d (eGranaryref09Val y.2.2))]⟩) ?_ ?_))))))))
 ·intro u1_134 h1
  refine sr (s1 (far (k := 1) rfl fo37_1 ts3 rfl) (s1 (lod rfl (ld_box ts3 ta3 rfl rfl)) (sn (SC.blk (SC.seqP h1 (fun y => ⟨mk 98 [(2, .ref 0 0 0), (3, .ref 1 0 0), (4, .ref 2 0 0), (5, .ref 3 0 0), (6, .ref 4 0 0), (7, .d (eU64 p0.Txn)), (22, .d (eI p1.Kind)), (23, .d (eB y))], [.box (.d (eApiEntry p0)), .box (.d (eApiMsg p1)), .box (.d (eApiEntry (ApiEntry.mk ([] : List UInt8) false ([] : List UInt8) (0 : UInt64) false ([] : List UInt8)))), .box (.d (eGranaryref09Val (Granaryref09Val.mk p0.Has p0.Val))), .box (.d (eGranaryref09Val (Granaryref09Val.mk p0.New p0.NewVal)))]⟩) ?_ ?_)))))
  ·intro u2_136 h2
   refine sr (s1 (bi rfl rfl q_i64_eql) (sa rfl (sn (cB h2 rfl (fun h2 => ?_) (fun h2 => ?_)))))
   ·have q := si h2; subst q
    exact SC.skip ((wq rfl))
   ·refine sr (s1 (bi rfl rfl q_i64_eql) (sa rfl (sn (cB h2 rfl (fun h2 => ?_) (fun h2 => ?_)))))
    ·have q := si h2; subst q
     exact SC.skip ((wq rfl))
    ·have q := si h2; subst q
     exact SC.region (s1 (bi rfl rfl q_i64_eql) (sa rfl (SO.nil ((wq rfl)))))
  ·rintro y135 h1
   refine cB h1 rfl (fun h1 => ?_) (fun h1 => ?_)
   ·refine sr (s1 (far (k := 3) rfl fo37_3 ts35 rfl) (s1 (lod rfl (ld_box ts35 ta35 rfl rfl)) (s1 (bi rfl rfl (q_u64_eql (b := (0 : UInt64)))) (sn (cB h1 rfl (fun h1 => ?_) (fun h1 => ?_))))))
    ·obtain ⟨r138, hq137, h1⟩ := ob h1; have q := si h1; subst q
     exact SC.region (s1 (lod (v := .d (eGranaryref09Val (Granaryref09Val.mk p0.Has p0.Val))) rfl (ld_box ts97 ta97 rfl rfl)) (s1 (lod (v := .d (eApiMsg p1)) rfl (ld_box ts37 ta37 rfl rfl)) (cq [] [5] (ref09_changed_ok (Granaryref09Val.mk p0.Has p0.Val) p1 _ hq137) wf rfl rfl rfl cb32 rfl rfl rfl rfl rfl rfl rfl rfl (s0 (sto rfl rfl (sB (d' := .d (eGranaryref09Val r138)) ts97 rfl rfl rfl rfl rfl rfl rfl)) (SO.nil ((wc [0, 2, 3, 4] [0, 2, 3, 4] (by kernel_rfl) rfl (by kernel_rfl))))))))
    ·refine SC.seqP h1 (fun y => ⟨mk 98 [(2, .ref 0 0 0), (3, .ref 1 0 0), (4, .ref 2 0 0), (5, .ref 3 0 0), (6, .ref 4 0 0), (7, .d (eU64 p0.Txn)), (40, .d (eB y))], [.box (.d (eApiEntry p0)), .box (.d (eApiMsg p1)), .box (.d (eApiEntry (ApiEntry.mk ([] : List UInt8) false ([] : List UInt8) (0 : UInt64) false ([] : List UInt8)))), .box (.d (eGranaryref09Val (Granaryref09Val.mk p0.Has p0.Val))), .box (.d (eGranaryref09Val (Granaryref09Val.mk p0.New p0.NewVal)))]⟩) ?_ ?_
     ·intro u2_140 h2
      refine SC.region (s1 (far (k := 1) rfl fo37_1 ts3 rfl) (s1 (lod rfl (ld_box ts3 ta3 rfl rfl)) (s1 (bi rfl rfl q_i64_neq) (sm rfl (sp h2 (fun h2 => ?_) (fun h2 => ?_))))))
      ·have q := si h2; subst q
       exact kw rfl (kw rfl (kw rfl (s1 (pkt rfl rfl) (SO.nil ((wq rfl))))))
      ·have q := si h2; subst q
       exact gw rfl (far (k := 5) rfl fo37_5 ts3 rfl) (gw rfl (lod rfl (ld_box ts3 ta3 rfl rfl)) (gw rfl (bi rfl rfl q_i64_geq) (s1 (pkf rfl rfl) (SO.nil ((wq rfl))))))
     ·rintro y139 h1
      refine cB h1 rfl (fun h1 => ?_) (fun h1 => ?_)
      ·refine SC.seqP h1 (fun y => ⟨mk 98 [(2, .ref 0 0 0), (3, .ref 1 0 0), (4, .ref 2 0 0), (5, .ref 3 0 0), (6, .ref 4 0 0), (7, .d (eU64 y.1))], [.box (.d (eApiEntry p0)), .box (.d (eApiMsg p1)), .box (.d (eApiEntry (ApiEntry.mk ([] : List UInt8) false ([] : List UInt8) (0 : UInt64) false ([] : List UInt8)))), .box (.d (eGranaryref09Val (Granaryref09Val.mk p0.Has p0.Val))), .box (.d (eGranaryref09Val y.2))]⟩) ?_ ?_
       ·intro u2_143 h2
        refine sr (sm rfl (s1 (bi rfl rfl (q_u64_eql (b := (0 : UInt64)))) (sn (cB h2 rfl (fun h2 => ?_) (fun h2 => ?_)))))
        ·have q := si h2; subst q
         exact sr (s1 (far (k := 3) rfl fo37_3 ts35 rfl) (s1 (lod rfl (ld_box ts35 ta35 rfl rfl)) (sa rfl (sn (SC.region (s1 (lod (v := .d (eGranaryref09Val (Granaryref09Val.mk p0.Has p0.Val))) rfl (ld_box ts97 ta97 rfl rfl)) (s0 (sto rfl rfl (sB (d' := .d (eGranaryref09Val (Granaryref09Val.mk p0.Has p0.Val))) ts97 rfl rfl rfl rfl rfl rfl rfl)) (SO.nil ((wq rfl))))))))))
        ·have q := si h2; subst q
         exact SC.skip ((wq rfl))
       ·rintro ⟨y141, y142⟩ h1
        refine sr (sm rfl (s1 (far (k := 3) rfl fo37_3 ts35 rfl) (s1 (lod rfl (ld_box ts35 ta35 rfl rfl)) (s1 (bi rfl rfl q_u64_eql) (sn (cB h1 rfl (fun h1 => ?_) (fun h1 => ?_)))))))
        ·obtain ⟨r145, hq144, h1⟩ := ob h1; have q := si h1; subst q
         exact SC.region (s1 (lod (v := .d (eGranaryref09Val y142)) rfl (ld_box ts97 ta97 rfl rfl)) (s1 (lod (v := .d (eApiMsg p1)) rfl (ld_box ts37 ta37 rfl rfl)) (cq [] [5] (ref09_changed_ok y142 p1 _ hq144) wf rfl rfl rfl cb32 rfl rfl rfl rfl rfl rfl rfl rfl (s0 (sto rfl rfl (sB (d' := .d (eGranaryref09Val r145)) ts97 rfl rfl rfl rfl rfl rfl rfl)) (SO.nil ((wc [0, 2, 3, 4] [0, 2, 3, 4] (by kernel_rfl) rfl (by kernel_rfl))))))))
        ·have q := si h1; subst q
         exact SC.skip ((wc [0, 2, 3, 4] [0, 2, 3, 4] (by kernel_rfl) rfl (by kernel_rfl)))
      ·have q := si h1; subst q
       exact SC.skip ((wc [0, 2, 3, 4] [0, 2, 3, 4] (by kernel_rfl) rfl (by kernel_rfl)))
   ·refine sr (s1 (bi rfl rfl q_i64_eql) (sa rfl (sn (cB h1 rfl (fun h1 => ?_) (fun h1 => ?_)))))
    ·obtain ⟨r147, hq146, h1⟩ := ob h1; obtain ⟨r149, hq148, h1⟩ := ob h1; have q := si h1; subst q
     refine sr (s1 (lod (v := .d (eGranaryref09Val (Granaryref09Val.mk p0.Has p0.Val))) rfl (ld_box ts97 ta97 rfl rfl)) (s1 (lod (v := .d (eApiMsg p1)) rfl (ld_box ts37 ta37 rfl rfl)) (cq [] [5] (ref09_changed_ok (Granaryref09Val.mk p0.Has p0.Val) p1 _ hq146) wf rfl rfl rfl cb32 rfl rfl rfl rfl rfl rfl rfl rfl (s0 (sto rfl rfl (sB (d' := .d (eGranaryref09Val r147)) ts97 rfl rfl rfl rfl rfl rfl rfl)) (sn (SC.region (s1 (lod (v := .d (eGranaryref09Val (Granaryref09Val.mk p0.New p0.NewVal))) rfl (ld_box ts97 ta97 rfl rfl)) (s1 (lod (v := .d (eApiMsg p1)) rfl (ld_box ts37 ta37 rfl rfl)) (cq [] [6] (ref09_changed_ok (Granaryref09Val.mk p0.New p0.NewVal) p1 _ hq148) wf rfl rfl rfl cb32 rfl rfl rfl rfl rfl rfl rfl rfl ?_)))))))))
     exact s0 (sto rfl rfl (sB (d' := .d (eGranaryref09Val r149)) ts97 rfl rfl rfl rfl rfl rfl rfl)) (SO.nil ((wc [0, 2, 3, 4] [0, 2, 3, 4] (by kernel_rfl) rfl (by kernel_rfl))))
    ·refine SC.seqP h1 (fun y => ⟨mk 98 [(2, .ref 0 0 0), (3, .ref 1 0 0), (4, .ref 2 0 0), (5, .ref 3 0 0), (6, .ref 4 0 0), (7, .d (eU64 p0.Txn)), (61, .d (eB y))], [.box (.d (eApiEntry p0)), .box (.d (eApiMsg p1)), .box (.d (eApiEntry (ApiEntry.mk ([] : List UInt8) false ([] : List UInt8) (0 : UInt64) false ([] : List UInt8)))), .box (.d (eGranaryref09Val (Granaryref09Val.mk p0.Has p0.Val))), .box (.d (eGranaryref09Val (Granaryref09Val.mk p0.New p0.NewVal)))]⟩) ?_ ?_
     ·intro u2_151 h2
      refine sr (s1 (bi rfl rfl q_i64_eql) (sa rfl (sn (cB h2 rfl (fun h2 => ?_) (fun h2 => ?_)))))
      ·have q := si h2; subst q
       exact SC.skip ((wq rfl))
      ·have q := si h2; subst q
       exact SC.region (s1 (bi rfl rfl q_i64_eql) (sa rfl (SO.nil ((wq rfl)))))
     ·rintro y150 h1
      refine cB h1 rfl (fun h1 => ?_) (fun h1 => ?_)
      ·refine SC.seqP h1 (fun y => ⟨mk 98 [(2, .ref 0 0 0), (3, .ref 1 0 0), (4, .ref 2 0 0), (5, .ref 3 0 0), (6, .ref 4 0 0), (7, .d (eU64 p0.Txn)), (71, .d (eB y))], [.box (.d (eApiEntry p0)), .box (.d (eApiMsg p1)), .box (.d (eApiEntry (ApiEntry.mk ([] : List UInt8) false ([] : List UInt8) (0 : UInt64) false ([] : List UInt8)))), .box (.d (eGranaryref09Val (Granaryref09Val.mk p0.Has p0.Val))), .box (.d (eGranaryref09Val (Granaryref09Val.mk p0.New p0.NewVal)))]⟩) ?_ ?_
       ·intro u2_153 h2
        refine SC.region (sm rfl (s1 (far (k := 3) rfl fo37_3 ts35 rfl) (s1 (lod rfl (ld_box ts35 ta35 rfl rfl)) (s1 (bi rfl rfl q_u64_eql) (sm rfl (sp h2 (fun h2 => ?_) (fun h2 => ?_)))))))
        ·have q := si h2; subst q
         exact gw rfl (mv rfl) (gw rfl (bi rfl rfl (q_u64_neq (b := (0 : UInt64)))) (s1 (pkt rfl rfl) (SO.nil ((wq rfl)))))
        ·have q := si h2; subst q
         exact kw rfl (kw rfl (s1 (pkf rfl rfl) (SO.nil ((wq rfl)))))
       ·rintro y152 h1
        refine cB h1 rfl (fun h1 => ?_) (fun h1 => ?_)
        ·refine SC.seqP h1 (fun y => ⟨mk 98 [(2, .ref 0 0 0), (4, .ref 1 0 0), (5, .ref 2 0 0), (6, .ref 3 0 0)], [.box (.d (eApiEntry p0)), .box (.d (eApiEntry (ApiEntry.mk ([] : List UInt8) false ([] : List UInt8) (0 : UInt64) false ([] : List UInt8)))), .box (.d (eGranaryref09Val y)), .box (.d (eGranaryref09Val (Granaryref09Val.mk p0.New p0.NewVal)))]⟩) ?_ ?_
         ·intro u2_155 h2
          refine sr (s1 (far (k := 1) rfl fo37_1 ts3 rfl) (s1 (lod rfl (ld_box ts3 ta3 rfl rfl)) (s1 (bi rfl rfl q_i64_eql) (sn (cB h2 rfl (fun h2 => ?_) (fun h2 => ?_))))))
          ·have q := si h2; subst q
           exact SC.region (s1 (lod (v := .d (eGranaryref09Val (Granaryref09Val.mk p0.New p0.NewVal))) rfl (ld_box ts97 ta97 rfl rfl)) (s0 (sto rfl rfl (sB (d' := .d (eGranaryref09Val (Granaryref09Val.mk p0.New p0.NewVal))) ts97 rfl rfl rfl rfl rfl rfl rfl)) (SO.nil ((wc [0, 2, 3, 4] [0, 2, 3, 4] (by kernel_rfl) rfl (by kernel_rfl))))))
          ·have q := si h2; subst q
           exact SC.skip ((wc [0, 2, 3, 4] [0, 2, 3, 4] (by kernel_rfl) rfl (by kernel_rfl)))
         ·rintro y154 h1
          have q := si h1; subst q
          exact SC.region (s1 (asg (v := .d (eU64 (0 : UInt64))) rfl) (SO.nil ((wq rfl))))
        ·have q := si h1; subst q
         exact SC.skip ((wc [0, 2, 3, 4] [0, 2, 3, 4] (by kernel_rfl) rfl (by kernel_rfl)))
      ·have q := si h1; subst q
       exact SC.skip ((wc [0, 2, 3, 4] [0, 2, 3, 4] (by kernel_rfl) rfl (by kernel_rfl)))
 ·rintro ⟨y131, y132, y133⟩ h0
  refine sr (s1 (far (k := 0) rfl fo42_0 ts9 rfl) (s1 (lod rfl (ld_box ts9 ta9 rfl rfl)) (s1 (far (k := 0) rfl fo97_0 ts4 rfl) (s1 (lod rfl (ld_box ts4 ta4 rfl rfl)) (sm rfl (s1 (bld rfl (bd42_0_1_3 p0.Key y132.has y131)) (s1 (alo (k := 4) zo42 rfl) (s0 (sto rfl rfl (sB (d' := .d (eApiEntry (ApiEntry.mk p0.Key y132.has ([] : List UInt8) y131 false ([] : List UInt8)))) ts42 rfl rfl rfl rfl rfl rfl rfl)) (sn ?_)))))))))
  refine SC.seqP h0 (fun y => ⟨mk 98 [(4, .ref 0 0 0), (6, .ref 1 0 0), (7, .d (eU64 y131)), (8, .ref 2 0 0)], [.box (.d (eApiEntry (ApiEntry.mk ([] : List UInt8) false ([] : List UInt8) (0 : UInt64) false ([] : List UInt8)))), .box (.d (eGranaryref09Val y133)), .box (.d (eApiEntry y))]⟩) ?_ ?_
  ·intro u1_157 h1
   refine sr (s1 (far (k := 0) rfl fo97_0 ts4 rfl) (s1 (lod rfl (ld_box ts4 ta4 rfl rfl)) (sn (cB h1 rfl (fun h1 => ?_) (fun h1 => ?_)))))
   ·have q := si h1; subst q
    exact SC.region (s1 (far (k := 1) rfl fo97_1 ts9 rfl) (s1 (lod rfl (ld_box ts9 ta9 rfl rfl)) (s1 (far (k := 2) rfl fo42_2 ts9 rfl) (s0 (sto rfl rfl (sB (d' := .d (eApiEntry (ApiEntry.mk p0.Key y132.has y132.s y131 false ([] : List UInt8)))) ts9 rfl rfl rfl rfl rfl rfl rfl)) (SO.nil ((wc [1, 3, 4] [1, 3, 4] (by kernel_rfl) rfl (by kernel_rfl))))))))
   ·have q := si h1; subst q
    exact SC.skip ((wc [1, 3, 4] [1, 3, 4] (by kernel_rfl) rfl (by kernel_rfl)))
  ·rintro y156 h0
   refine SC.seqP h0 (fun y => ⟨mk 98 [(4, .ref 0 0 0), (8, .ref 1 0 0)], [.box (.d (eApiEntry (ApiEntry.mk ([] : List UInt8) false ([] : List UInt8) (0 : UInt64) false ([] : List UInt8)))), .box (.d (eApiEntry y))]⟩) ?_ ?_
   ·intro u1_161 h1
    refine SC.seqP h1 (fun y => ⟨mk 98 [(4, .ref 0 0 0), (6, .ref 1 0 0), (8, .ref 2 0 0), (92, .d (eB y))], [.box (.d (eApiEntry (ApiEntry.mk ([] : List UInt8) false ([] : List UInt8) (0 : UInt64) false ([] : List UInt8)))), .box (.d (eGranaryref09Val y133)), .box (.d (eApiEntry y156))]⟩) ?_ ?_
    ·intro u2_163 h2
     refine SC.region (sm rfl (s1 (bi rfl rfl (q_u64_neq (b := (0 : UInt64)))) (sm rfl (sp h2 (fun h2 => ?_) (fun h2 => ?_)))))
     ·have q := si h2; subst q
      exact gw rfl (far (k := 0) rfl fo97_0 ts4 rfl) (gw rfl (lod rfl (ld_box ts4 ta4 rfl rfl)) (s1 (pkt rfl rfl) (SO.nil ((wq rfl)))))
     ·have q := si h2; subst q
      exact kw rfl (kw rfl (s1 (pkf rfl rfl) (SO.nil ((wq rfl)))))
    ·rintro y162 h1
     refine cB h1 rfl (fun h1 => ?_) (fun h1 => ?_)
     ·have q := si h1; subst q
      refine sr (s1 (far (k := 4) rfl fo42_4 ts4 rfl) (s0 (sto (b := .d (eB true)) rfl rfl (sB (d' := .d (eApiEntry (ApiEntry.mk y156.Key y156.Has y156.Val y156.Txn true y156.NewVal))) ts4 rfl rfl rfl rfl rfl rfl rfl)) (sn (SC.region (s1 (far (k := 1) rfl fo97_1 ts9 rfl) (s1 (lod rfl (ld_box ts9 ta9 rfl rfl)) (s1 (far (k := 5) rfl fo42_5 ts9 rfl) (s0 (sto rfl rfl (sB (d' := .d (eApiEntry (ApiEntry.mk y156.Key y156.Has y156.Val y156.Txn true y133.s))) ts9 rfl rfl rfl rfl rfl rfl rfl)) (SO.nil ?_)))))))))
      exact (wc [0, 2] [0, 2] (by kernel_rfl) rfl (by kernel_rfl))
     ·have q := si h1; subst q
      exact SC.skip ((wc [0, 2] [0, 2] (by kernel_rfl) rfl (by kernel_rfl)))
   ·rintro y160 h0
    have q := si h0; subst q
    exact sr (s1 (lod (v := .d (eApiEntry y160)) rfl (ld_box ts42 ta42 rfl rfl)) (s0 (sto rfl rfl (sB (d' := .d (eApiEntry y160)) ts42 rfl rfl rfl rfl rfl rfl rfl)) (sn (SC.ret (finR (wc (e' := [(4, .ref 0 0 0)]) [0] [0] (by kernel_rfl) rfl (by kernel_rfl)) (lresC rfl (ld_box ts42 ta42 rfl rfl) lresN) rfl)))))
noncomputable def ref09_Gone (p0 : ApiEntry) : Option Bool :=
 Option.bind (α := Bool)
 (bif (!p0.Has) then
 some (p0.Txn == (0 : UInt64))
 else
 some false)
 fun y6 =>
 some y6
theorem ref09_Gone_ok (p0 : ApiEntry) (r : Bool) (h0 : ref09_Gone p0 = some r) : CallAt Tryd.prog 19 [.d (eApiEntry p0)] [] (.d (eB r)) [] := by
 unfold ref09_Gone at h0
 refine fn0 [0] Tryd.func19 rfl rfl rfl rfl rfl ?_
 refine sr (s1 (bxo (k := 0) rfl rfl rfl) (sa rfl (sn (SC.seqP h0 (fun y => ⟨mk 11 [(2, .d (eB y))], []⟩) ?_ ?_))))
 ·intro u1_7 h1
  refine SC.region (s1 (far (k := 1) rfl fo42_1 ts4 rfl) (s1 (lod rfl (ld_box ts4 ta4 rfl rfl)) (s1 (nt rfl) (sm rfl (sp h1 (fun h1 => ?_) (fun h1 => ?_))))))
  ·have q := si h1; subst q
   exact gw rfl (far (k := 3) rfl fo42_3 ts35 rfl) (gw rfl (lod rfl (ld_box ts35 ta35 rfl rfl)) (gw rfl (bi rfl rfl (q_u64_eql (b := (0 : UInt64)))) (s1 (pkt rfl rfl) (sa rfl (SO.nil ((wc [] [] (by kernel_rfl) rfl (by kernel_rfl))))))))
  ·have q := si h1; subst q
   exact kw rfl (kw rfl (kw rfl (s1 (pkf rfl rfl) (sa rfl (SO.nil ((wc [] [] (by kernel_rfl) rfl (by kernel_rfl))))))))
 ·rintro y6 h0
  have q := si h0; subst q
  exact SC.ret (finR (Wk.refl _) (lresT rfl lresN) rfl)
noncomputable def ref11_Tree_Inject_1 (p0 : ApiMsg) (p1 : List ApiEntry) : Option ((List ApiEntry)) :=
 Option.bind (α := (List ApiEntry))
 (Option.bind (α := (List ApiEntry))
 (loop (Y := (List ApiEntry) × Bool × Int) (W := (List ApiEntry)) (fun (y1477, y1478, y1479) =>
 bif (decide (y1479 ≤ (p1.length : Int))) then
 bindE (Y := (List ApiEntry) × Bool) (E := (List ApiEntry))
 (Option.bind (α := (List ApiEntry) × Bool)
 (Option.bind (α := Bool)
 (bif (!y1478) then
 bif (y1479 == (p1.length : Int)) then
 some true
 else
 Option.bind (getI p1 y1479) fun v1639 =>
 some (!(ltS v1639.Key p0.Key))
 else
 some false)
 fun y1637 =>
 bif y1637 then
 Option.bind (α := Bool)
 (bif (y1479 == (p1.length : Int)) then
 some true
 else
 Option.bind (getI p1 y1479) fun v1643 =>
 some (!(ltS v1643.Key p0.Key || v1643.Key == p0.Key)))
 fun y1641 =>
 bif y1641 then
 Option.bind (ref09_Apply (ApiEntry.mk p0.Key false ([] : List UInt8) (0 : UInt64) false ([] : List UInt8)) p0) fun r1645 =>
 Option.bind (ref09_Gone r1645) fun r1647 =>
 bif (!r1647) then
 bif decide ((y1477.length + [r1645].length) * 72 ≤ room) then
 some ((y1477 ++ [r1645]), true)
 else none
 else
 some (y1477, true)
 else
 some (y1477, true)
 else
 some (y1477, y1478))
 fun (y1633, y1634) =>
 bif (y1479 == (p1.length : Int)) then
 some (Sum.inr y1633)
 else
 Option.bind (getI p1 y1479) fun v1649 =>
 Option.bind (α := ApiEntry)
 (Option.bind (α := Bool)
 (bif (p0.Kind == (4 : Int)) then
 some true
 else
 some (v1649.Key == p0.Key))
 fun y1656 =>
 bif y1656 then
 Option.bind (ref09_Apply v1649 p0) fun r1659 =>
 some r1659
 else
 some v1649)
 fun y1654 =>
 Option.bind (ref09_Gone y1654) fun r1661 =>
 bif (!r1661) then
 bif decide ((y1633.length + [y1654].length) * 72 ≤ room) then
 some (Sum.inl ((y1633 ++ [y1654]), y1634))
 else none
 else
 some (Sum.inl (y1633, y1634)))
 (fun (y1617, y1618) =>
 some (Sum.inl (y1617, y1618, (w64 (y1479 + (1 : Int))))))
 (fun e => some (Sum.inr e))
 else
 some (Sum.inr y1477)) (([] : List ApiEntry), (p0.Kind == (4 : Int)), (0 : Int)))
 (fun e => some e))
 fun y1386 =>
 some y1386
theorem ref11_Tree_Inject_1_ok (p0 : ApiMsg) (p1 : List ApiEntry) (r : (List ApiEntry)) (h0 : ref11_Tree_Inject_1 p0 p1 = some r) : CallAt Tryd.prog 9 [.ref 0 0 0, .d (eApiMsg p0)] [.box (.agg [.slc 1 6 0 p1.length none]), .row 6 (List.map eApiEntry p1) true] (.tuple []) [.box (.agg [.slc 2 6 0 r.length none]), .row 6 (List.map eApiEntry p1) true, .row 6 (List.map eApiEntry r) true] := by
 unfold ref11_Tree_Inject_1 at h0
 refine fn0 [0, 1] Tryd.func9 rfl rfl rfl rfl rfl ?_
 refine sr (s1 (bxo (k := 2) rfl rfl rfl) (sn (sr (s1 (asg (v := .d .nils) rfl) (sn (sr (s1 (far (k := 1) rfl fo37_1 ts3 rfl) (s1 (lod rfl (ld_box ts3 ta3 rfl rfl)) (s1 (bi rfl rfl q_i64_eql) ?_)))))))))
 refine sa rfl (sn (SC.seqP h0 (fun y => ⟨mk 115 [(0, .ref 0 0 0), (4, .slc 2 6 0 y.length none)], [.box (.agg [.slc 1 6 0 p1.length none]), .row 6 (List.map eApiEntry p1) true, .row 6 (List.map eApiEntry y) true]⟩) ?_ ?_))
 ·intro u1_1387 h1
  obtain ⟨u2_1573, h2, h1⟩ := ob h1
  refine sr (sa rfl (sn (SC.blk (SC.loopB h2 (fun y => ⟨mk 115 [(0, .ref 0 0 0), (3, .ref 2 0 0), (4, .slc 3 6 0 y.1.length none), (5, .d (eB y.2.1)), (6, .d (eI y.2.2))], [.box (.agg [.slc 1 6 0 p1.length none]), .row 6 (List.map eApiEntry p1) true, .box (.d (eApiMsg p0)), .row 6 (List.map eApiEntry y.1) true]⟩) (Wk.trans (Wk.pushE (σ' := [.box (.agg [.slc 1 6 0 p1.length none]), .row 6 (List.map eApiEntry p1) true, .box (.d (eApiMsg p0)), .row 6 (List.map eApiEntry ([] : List ApiEntry)) true]) (.row 6 [] true) (fun _ hh => by cases hh) rfl) (Wk.trans (Wk.env (e' := [(0, .ref 0 0 0), (3, .ref 2 0 0), (4, .slc 3 6 0 (([] : List ApiEntry).length) none), (5, .d (eB (p0.Kind == (4 : Int)))), (6, .d (eI (0 : Int)))]) (EW.cons (AW.refl _) (EW.cons (AW.refl _) (EW.cons (AW.slcn _ _ _) (EW.cons (AW.refl _) (EW.cons (AW.refl _) EW.nil)))))) (wq rfl))) ?_))))
  intro n1663
  rintro ⟨y1477, y1478, y1479⟩ w2_1572 h3 hv3
  refine sq (sr (sm rfl (sm rfl (s1 (nkr rfl) (s1 (far (k := 0) rfl fo33_0 ts31 rfl) (s1 (lod rfl (ld_box ts31 ta31 rfl rfl)) (s1 (len rfl rfl rfl (len_slc un31)) (s1 (bi rfl rfl q_i64_leq) (sn ?_)))))))))
  refine cB h3 rfl (fun h3 => ?_) (fun h3 => ?_)
  ·refine sk (SC.seqB h3 (fun y => ⟨mk 115 [(0, .ref 0 0 0), (3, .ref 2 0 0), (4, .slc 3 6 0 y.1.length none), (5, .d (eB y.2)), (6, .d (eI y1479))], [.box (.agg [.slc 1 6 0 p1.length none]), .row 6 (List.map eApiEntry p1) true, .box (.d (eApiMsg p0)), .row 6 (List.map eApiEntry y.1) true]⟩) ?_ ?_)
   ·intro u4_1619 h4 h3
    refine SC.blk (SC.seqP h4 (fun y => ⟨mk 115 [(0, .ref 0 0 0), (3, .ref 2 0 0), (4, .slc 3 6 0 y.1.length none), (5, .d (eB y.2)), (6, .d (eI y1479))], [.box (.agg [.slc 1 6 0 p1.length none]), .row 6 (List.map eApiEntry p1) true, .box (.d (eApiMsg p0)), .row 6 (List.map eApiEntry y.1) true]⟩) ?_ ?_)
    ·intro u5_1635 h5
     refine SC.seqP h5 (fun y => ⟨mk 115 [(0, .ref 0 0 0), (3, .ref 2 0 0), (4, .slc 3 6 0 y1477.length none), (5, .d (eB y1478)), (6, .d (eI y1479)), (44, .d (eB y))], [.box (.agg [.slc 1 6 0 p1.length none]), .row 6 (List.map eApiEntry p1) true, .box (.d (eApiMsg p0)), .row 6 (List.map eApiEntry y1477) true]⟩) ?_ ?_
     ·intro u6_1638 h6
      refine SC.draws (by kernel_rfl) (t1 ([], false) (mv rfl) rfl (t1 ([], false) (nt rfl) rfl (t1 ([], false) (mv rfl) rfl (tp h6 (fun h6 => ?_) (fun h6 => ?_)))))
      ·refine u1 ([], false) (ww rfl) (mv rfl) rfl (u1 ([], false) (ww rfl) (mv rfl) rfl (u1 ([], false) (ww rfl) (nkr rfl) rfl (u1 ([], false) (ww rfl) (far (k := 0) rfl fo33_0 ts31 rfl) rfl (u1 ([0], false) (ww rfl) (lod rfl (ld_box ts31 ta31 rfl rfl)) rfl (u1 ([], false) (ww rfl) (len rfl rfl rfl (len_slc un31)) rfl (u1 ([], false) (ww rfl) (bi rfl rfl q_i64_eql) rfl (u1 ([], false) (ww rfl) (mv rfl) rfl (tp h6 (fun h6 => ?_) (fun h6 => ?_)))))))))
       ·have q := si h6; subst q
        refine jw rfl (jw rfl (jw rfl (jw rfl (jw rfl (jw rfl (jw rfl (jw rfl (jw rfl (jw rfl ?_)))))))))
        refine jw rfl (u1 ([], false) (ww rfl) (pkt rfl rfl) rfl (t1 ([], false) (pkt rfl rfl) rfl (ST.nil (And.intro (by decide +kernel) ?_))))
        exact (wq rfl)
       ·obtain ⟨v1639, hv1639, h6⟩ := ob h6; have q := si h6; subst q
        refine u1 ([], false) (ww rfl) (mv rfl) rfl (u1 ([], false) (ww rfl) (nkr rfl) rfl (u1 ([], false) (ww rfl) (far (k := 0) rfl fo33_0 ts31 rfl) rfl (u1 ([0], false) (ww rfl) (lod rfl (ld_box ts31 ta31 rfl rfl)) rfl (u1 ([], false) (ww rfl) (mv rfl) rfl (u1 ([], false) (ww rfl) (iaz rfl rfl un31 ts42 (getI_lt hv1639)) rfl (u1 ([], false) (ww rfl) (far (k := 0) rfl fo42_0 ts9 rfl) rfl (u1 ([1], false) (ww rfl) (lod rfl (ld_row ts9 ta9 rfl (map_get (getI_some hv1639).2) rfl)) rfl (u1 ([], false) (ww rfl) (far (k := 2) rfl fo37_2 ts9 rfl) rfl (u1 ([2], false) (ww rfl) (lod rfl (ld_box ts9 ta9 rfl rfl)) rfl ?_)))))))))
        refine u1 ([], false) (ww rfl) (bi rfl rfl q_str_geq) rfl (u1 ([], false) (ww rfl) (pkf rfl rfl) rfl (t1 ([], false) (pkt rfl rfl) rfl (ST.nil (And.intro (by decide +kernel) ?_))))
        exact (wq rfl)
      ·have q := si h6; subst q
       refine jw rfl (jw rfl (jw rfl (jw rfl (jw rfl (jw rfl (jw rfl (jw rfl (jw rfl (jw rfl ?_)))))))))
       refine jw rfl (jw rfl (jw rfl (jw rfl (jw rfl (jw rfl (jw rfl (jw rfl (jw rfl (jw rfl ?_)))))))))
       refine t1 ([], false) (pkf rfl rfl) rfl (ST.nil (And.intro (by decide +kernel) ?_))
       exact (wq rfl)
     ·rintro y1637 h5
      refine cB h5 rfl (fun h5 => ?_) (fun h5 => ?_)
      ·refine sr (sa rfl (sn (SC.seqP h5 (fun y => ⟨mk 115 [(0, .ref 0 0 0), (3, .ref 2 0 0), (4, .slc 3 6 0 y1477.length none), (5, .d (eB true)), (6, .d (eI y1479)), (64, .d (eB y))], [.box (.agg [.slc 1 6 0 p1.length none]), .row 6 (List.map eApiEntry p1) true, .box (.d (eApiMsg p0)), .row 6 (List.map eApiEntry y1477) true]⟩) ?_ ?_)))
       ·intro u6_1642 h6
        refine SC.draws (by kernel_rfl) (t1 ([], false) (mv rfl) rfl (t1 ([], false) (mv rfl) rfl (t1 ([], false) (nkr rfl) rfl (t1 ([], false) (far (k := 0) rfl fo33_0 ts31 rfl) rfl (t1 ([0], false) (lod rfl (ld_box ts31 ta31 rfl rfl)) rfl (t1 ([], false) (len rfl rfl rfl (len_slc un31)) rfl (t1 ([], false) (bi rfl rfl q_i64_eql) rfl (t1 ([], false) (mv rfl) rfl (tp h6 (fun h6 => ?_) (fun h6 => ?_))))))))))
        ·have q := si h6; subst q
         refine jw rfl (jw rfl (jw rfl (jw rfl (jw rfl (jw rfl (jw rfl (jw rfl (jw rfl (jw rfl ?_)))))))))
         refine jw rfl (t1 ([], false) (pkt rfl rfl) rfl (ST.nil (And.intro (by decide +kernel) ?_)))
         exact (wq rfl)
        ·obtain ⟨v1643, hv1643, h6⟩ := ob h6; have q := si h6; subst q
         refine u1 ([], false) (ww rfl) (mv rfl) rfl (u1 ([], false) (ww rfl) (nkr rfl) rfl (u1 ([], false) (ww rfl) (far (k := 0) rfl fo33_0 ts31 rfl) rfl (u1 ([0], false) (ww rfl) (lod rfl (ld_box ts31 ta31 rfl rfl)) rfl (u1 ([], false) (ww rfl) (mv rfl) rfl (u1 ([], false) (ww rfl) (iaz rfl rfl un31 ts42 (getI_lt hv1643)) rfl (u1 ([], false) (ww rfl) (far (k := 0) rfl fo42_0 ts9 rfl) rfl (u1 ([1], false) (ww rfl) (lod rfl (ld_row ts9 ta9 rfl (map_get (getI_some hv1643).2) rfl)) rfl (u1 ([], false) (ww rfl) (far (k := 2) rfl fo37_2 ts9 rfl) rfl (u1 ([2], false) (ww rfl) (lod rfl (ld_box ts9 ta9 rfl rfl)) rfl ?_)))))))))
         refine u1 ([], false) (ww rfl) (bi rfl rfl q_str_gtr) rfl (t1 ([], false) (pkf rfl rfl) rfl (ST.nil (And.intro (by decide +kernel) ?_)))
         exact (wq rfl)
       ·rintro y1641 h5
        refine cB h5 rfl (fun h5 => ?_) (fun h5 => ?_)
        ·obtain ⟨r1645, hq1644, h5⟩ := ob h5; obtain ⟨r1647, hq1646, h5⟩ := ob h5
         refine sr (s1 (far (k := 2) rfl fo37_2 ts9 rfl) (s1 (lod rfl (ld_box ts9 ta9 rfl rfl)) (s1 (bld rfl (bd42_0 p0.Key)) (s1 (lod (v := .d (eApiMsg p0)) rfl (ld_box ts37 ta37 rfl rfl)) (cq [] [4] (ref09_Apply_ok (ApiEntry.mk p0.Key false ([] : List UInt8) (0 : UInt64) false ([] : List UInt8)) p0 _ hq1644) wf rfl rfl rfl cb18 rfl rfl rfl rfl rfl rfl rfl rfl (s1 (alo (k := 5) zo42 rfl) (s0 (sto rfl rfl (sB (d' := .d (eApiEntry r1645)) ts42 rfl rfl rfl rfl rfl rfl rfl)) (sn (sr ?_)))))))))
         refine s1 (lod (v := .d (eApiEntry r1645)) rfl (ld_box ts42 ta42 rfl rfl)) (c0 (ref09_Gone_ok r1645 _ hq1646) wf rfl rfl rfl cb19 rfl (fun _ => rfl) (fun _ => rfl) (s1 (nt rfl) (sn (cB h5 rfl (fun h5 => ?_) (fun h5 => ?_)))))
         ·obtain ⟨hg1648, h5⟩ := gd h5; have q := si h5; subst q
          exact SC.region (sm rfl (s1 (lod (v := .d (eApiEntry r1645)) rfl (ld_box ts42 ta42 rfl rfl)) (s1 (bsn (k := 6) (ds := List.map eApiEntry [r1645]) (off := 0) (l' := [r1645].length) rfl un31 ei42 rfl rfl (by rfl) rfl rfl rfl) (s1 (app rfl rfl rfl rfl bc31 (aF (f := eApiEntry) (xs := y1477) (k := 7) rfl un31 ei42 rfl (el_full (xs := [r1645]) rfl) hg1648 rfl)) (sa rfl (SO.nil ((wc [0, 1, 2, 7] [0, 1, 0, 2, 7] (by kernel_rfl) rfl (by kernel_rfl)))))))))
         ·have q := si h5; subst q
          exact SC.skip ((wc [0, 1, 2, 3] [0, 1, 0, 2, 3] (by kernel_rfl) rfl (by kernel_rfl)))
        ·have q := si h5; subst q
         exact SC.skip ((wq rfl))
      ·have q := si h5; subst q
       exact SC.skip ((wq rfl))
    ·rintro ⟨y1633, y1634⟩ h4
     refine sq (sr (sm rfl (sm rfl (s1 (nkr rfl) (s1 (far (k := 0) rfl fo33_0 ts31 rfl) (s1 (lod rfl (ld_box ts31 ta31 rfl rfl)) (s1 (len rfl rfl rfl (len_slc un31)) (s1 (bi rfl rfl q_i64_eql) (sn ?_)))))))))
     refine cB h4 rfl (fun h4 => ?_) (fun h4 => ?_)
     ·have q := si h4; subst q; have q := si h3; subst q; have q : _ = _ := hv3; subst q; have q := si h1; subst q
      exact SC.exit ((wc [0, 1, 3] [0, 1, 0, 3] (by kernel_rfl) rfl (by kernel_rfl)))
     ·obtain ⟨v1649, hv1649, h4⟩ := ob h4
      refine sk (sr (sm rfl (s1 (nkr rfl) (s1 (far (k := 0) rfl fo33_0 ts31 rfl) (s1 (lod rfl (ld_box ts31 ta31 rfl rfl)) (sm rfl (s1 (iaz rfl rfl un31 ts42 (getI_lt hv1649)) (s1 (lod (v := .d (eApiEntry v1649)) rfl (ld_row ts42 ta42 rfl (map_get (getI_some hv1649).2) rfl)) (s1 (alo (k := 4) zo42 rfl) ?_)))))))))
      refine s0 (sto rfl rfl (sB (d' := .d (eApiEntry v1649)) ts42 rfl rfl rfl rfl rfl rfl rfl)) (sn (SC.seqP h4 (fun y => ⟨mk 115 [(0, .ref 0 0 0), (3, .ref 2 0 0), (4, .slc 3 6 0 y1633.length none), (5, .d (eB y1634)), (6, .d (eI y1479)), (8, .ref 4 0 0)], [.box (.agg [.slc 1 6 0 p1.length none]), .row 6 (List.map eApiEntry p1) true, .box (.d (eApiMsg p0)), .row 6 (List.map eApiEntry y1633) true, .box (.d (eApiEntry y))]⟩) ?_ ?_))
      ·intro u5_1655 h5
       refine SC.seqP h5 (fun y => ⟨mk 115 [(0, .ref 0 0 0), (3, .ref 2 0 0), (4, .slc 3 6 0 y1633.length none), (5, .d (eB y1634)), (6, .d (eI y1479)), (8, .ref 4 0 0), (100, .d (eB y))], [.box (.agg [.slc 1 6 0 p1.length none]), .row 6 (List.map eApiEntry p1) true, .box (.d (eApiMsg p0)), .row 6 (List.map eApiEntry y1633) true, .box (.d (eApiEntry v1649))]⟩) ?_ ?_
       ·intro u6_1657 h6
        refine SC.region (s1 (far (k := 1) rfl fo37_1 ts3 rfl) (s1 (lod rfl (ld_box ts3 ta3 rfl rfl)) (s1 (bi rfl rfl q_i64_eql) (sm rfl (sp h6 (fun h6 => ?_) (fun h6 => ?_))))))
        ·have q := si h6; subst q
         exact kw rfl (kw rfl (kw rfl (kw rfl (kw rfl (s1 (pkt rfl rfl) (SO.nil ((wq rfl))))))))
        ·have q := si h6; subst q
         exact gw rfl (far (k := 0) rfl fo42_0 ts9 rfl) (gw rfl (lod rfl (ld_box ts9 ta9 rfl rfl)) (gw rfl (far (k := 2) rfl fo37_2 ts9 rfl) (gw rfl (lod rfl (ld_box ts9 ta9 rfl rfl)) (gw rfl (bi rfl rfl q_str_eql) (s1 (pkf rfl rfl) (SO.nil ((wq rfl))))))))
       ·rintro y1656 h5
        refine cB h5 rfl (fun h5 => ?_) (fun h5 => ?_)
        ·obtain ⟨r1659, hq1658, h5⟩ := ob h5; have q := si h5; subst q
         exact SC.region (s1 (lod (v := .d (eApiEntry v1649)) rfl (ld_box ts42 ta42 rfl rfl)) (s1 (lod (v := .d (eApiMsg p0)) rfl (ld_box ts37 ta37 rfl rfl)) (cq [] [5] (ref09_Apply_ok v1649 p0 _ hq1658) wf rfl rfl rfl cb18 rfl rfl rfl rfl rfl rfl rfl rfl (s0 (sto rfl rfl (sB (d' := .d (eApiEntry r1659)) ts42 rfl rfl rfl rfl rfl rfl rfl)) (SO.nil ((wc [0, 1, 2, 3, 4] [0, 1, 0, 2, 3, 4] (by kernel_rfl) rfl (by kernel_rfl))))))))
        ·have q := si h5; subst q
         exact SC.skip ((wq rfl))
      ·rintro y1654 h4
       obtain ⟨r1661, hq1660, h4⟩ := ob h4
       refine sr (s1 (lod (v := .d (eApiEntry y1654)) rfl (ld_box ts42 ta42 rfl rfl)) (c0 (ref09_Gone_ok y1654 _ hq1660) wf rfl rfl rfl cb19 rfl (fun _ => rfl) (fun _ => rfl) (s1 (nt rfl) (sn (cB h4 rfl (fun h4 => ?_) (fun h4 => ?_))))))
       ·obtain ⟨hg1662, h4⟩ := gd h4; have q := si h4; subst q
        exact SC.region (sm rfl (s1 (lod (v := .d (eApiEntry y1654)) rfl (ld_box ts42 ta42 rfl rfl)) (s1 (bsn (k := 5) (ds := List.map eApiEntry [y1654]) (off := 0) (l' := [y1654].length) rfl un31 ei42 rfl rfl (by rfl) rfl rfl rfl) (s1 (app rfl rfl rfl rfl bc31 (aF (f := eApiEntry) (xs := y1633) (k := 6) rfl un31 ei42 rfl (el_full (xs := [y1654]) rfl) hg1662 rfl)) (sa rfl (SO.nil (lf (wc [0, 1, 2, 6] [0, 1, 0, 2, 6] (by kernel_rfl) rfl (by kernel_rfl)))))))))
       ·have q := si h4; subst q
        exact SC.skip (lf (wc [0, 1, 2, 3] [0, 1, 0, 2, 3] (by kernel_rfl) rfl (by kernel_rfl)))
   ·rintro ⟨y1617, y1618⟩ h3
    have q := si h3; subst q
    exact SC.region (sm rfl (s1 (bi rfl rfl q_i64_add) (sa rfl (SO.nil (lf (wq rfl))))))
  ·have q := si h3; subst q; have q : _ = _ := hv3; subst q; have q := si h1; subst q
   exact SC.exit ((wc [0, 1, 3] [0, 1, 0, 3] (by kernel_rfl) rfl (by kernel_rfl)))
 ·rintro y1386 h0
  have q := si h0; subst q
  exact SC.region (sm rfl (sm rfl (s1 (nkr rfl) (s1 (far (k := 0) rfl fo33_0 ts31 rfl) (s0 (sto rfl rfl (sB (d' := .agg [.slc 2 6 0 y1386.length none]) ts31 rfl rfl rfl rfl rfl rfl rfl)) (SO.nil (finN (Wk.refl _) lresN rfl)))))))
theorem ref11_Tree_Inject_1_ok1 (p0 : ApiMsg) (p1 : List ApiEntry) (r : (List ApiEntry)) (h0 : ref11_Tree_Inject_1 p0 p1 = some r) : CallAt Tryd.prog 9 [.ref 0 0 0, .d (eApiMsg p0)] [.box (.agg [.slc 1 6 0 p1.length none]), .row 6 (List.map eApiEntry p1) false] (.tuple []) [.box (.agg [.slc 2 6 0 r.length none]), .row 6 (List.map eApiEntry p1) false, .row 6 (List.map eApiEntry r) true] := by
 unfold ref11_Tree_Inject_1 at h0
 refine fn0 [0, 1] Tryd.func9 rfl rfl rfl rfl rfl ?_
 refine sr (s1 (bxo (k := 2) rfl rfl rfl) (sn (sr (s1 (asg (v := .d .nils) rfl) (sn (sr (s1 (far (k := 1) rfl fo37_1 ts3 rfl) (s1 (lod rfl (ld_box ts3 ta3 rfl rfl)) (s1 (bi rfl rfl q_i64_eql) ?_)))))))))
 refine sa rfl (sn (SC.seqP h0 (fun y => ⟨mk 115 [(0, .ref 0 0 0), (4, .slc 2 6 0 y.length none)], [.box (.agg [.slc 1 6 0 p1.length none]), .row 6 (List.map eApiEntry p1) false, .row 6 (List.map eApiEntry y) true]⟩) ?_ ?_))
 ·intro u1_1387 h1
  obtain ⟨u2_1573, h2, h1⟩ := ob h1
  refine sr (sa rfl (sn (SC.blk (SC.loopB h2 (fun y => ⟨mk 115 [(0, .ref 0 0 0), (3, .ref 2 0 0), (4, .slc 3 6 0 y.1.length none), (5, .d (eB y.2.1)), (6, .d (eI y.2.2))], [.box (.agg [.slc 1 6 0 p1.length none]), .row 6 (List.map eApiEntry p1) false, .box (.d (eApiMsg p0)), .row 6 (List.map eApiEntry y.1) true]⟩) (Wk.trans (Wk.pushE (σ' := [.box (.agg [.slc 1 6 0 p1.length none]), .row 6 (List.map eApiEntry p1) false, .box (.d (eApiMsg p0)), .row 6 (List.map eApiEntry ([] : List ApiEntry)) true]) (.row 6 [] true) (fun _ hh => by cases hh) rfl) (Wk.trans (Wk.env (e' := [(0, .ref 0 0 0), (3, .ref 2 0 0), (4, .slc 3 6 0 (([] : List ApiEntry).length) none), (5, .d (eB (p0.Kind == (4 : Int)))), (6, .d (eI (0 : Int)))]) (EW.cons (AW.refl _) (EW.cons (AW.refl _) (EW.cons (AW.slcn _ _ _) (EW.cons (AW.refl _) (EW.cons (AW.refl _) EW.nil)))))) (wq rfl))) ?_))))
  intro n1663
  rintro ⟨y1477, y1478, y1479⟩ w2_1572 h3 hv3
  refine sq (sr (sm rfl (sm rfl (s1 (nkr rfl) (s1 (far (k := 0) rfl fo33_0 ts31 rfl) (s1 (lod rfl (ld_box ts31 ta31 rfl rfl)) (s1 (len rfl rfl rfl (len_slc un31)) (s1 (bi rfl rfl q_i64_leq) (sn ?_)))))))))
  refine cB h3 rfl (fun h3 => ?_) (fun h3 => ?_)
  ·refine sk (SC.seqB h3 (fun y => ⟨mk 115 [(0, .ref 0 0 0), (3, .ref 2 0 0), (4, .slc 3 6 0 y.1.length none), (5, .d (eB y.2)), (6, .d (eI y1479))], [.box (.agg [.slc 1 6 0 p1.length none]), .row 6 (List.map eApiEntry p1) false, .box (.d (eApiMsg p0)), .row 6 (List.map eApiEntry y.1) true]⟩) ?_ ?_)
   ·intro u4_1619 h4 h3
    refine SC.blk (SC.seqP h4 (fun y => ⟨mk 115 [(0, .ref 0 0 0), (3, .ref 2 0 0), (4, .slc 3 6 0 y.1.length none), (5, .d (eB y.2)), (6, .d (eI y1479))], [.box (.agg [.slc 1 6 0 p1.length none]), .row 6 (List.map eApiEntry p1) false, .box (.d (eApiMsg p0)), .row 6 (List.map eApiEntry y.1) true]⟩) ?_ ?_)
    ·intro u5_1635 h5
     refine SC.seqP h5 (fun y => ⟨mk 115 [(0, .ref 0 0 0), (3, .ref 2 0 0), (4, .slc 3 6 0 y1477.length none), (5, .d (eB y1478)), (6, .d (eI y1479)), (44, .d (eB y))], [.box (.agg [.slc 1 6 0 p1.length none]), .row 6 (List.map eApiEntry p1) false, .box (.d (eApiMsg p0)), .row 6 (List.map eApiEntry y1477) true]⟩) ?_ ?_
     ·intro u6_1638 h6
      refine SC.draws (by kernel_rfl) (t1 ([], false) (mv rfl) rfl (t1 ([], false) (nt rfl) rfl (t1 ([], false) (mv rfl) rfl (tp h6 (fun h6 => ?_) (fun h6 => ?_)))))
      ·refine u1 ([], false) (ww rfl) (mv rfl) rfl (u1 ([], false) (ww rfl) (mv rfl) rfl (u1 ([], false) (ww rfl) (nkr rfl) rfl (u1 ([], false) (ww rfl) (far (k := 0) rfl fo33_0 ts31 rfl) rfl (u1 ([0], false) (ww rfl) (lod rfl (ld_box ts31 ta31 rfl rfl)) rfl (u1 ([], false) (ww rfl) (len rfl rfl rfl (len_slc un31)) rfl (u1 ([], false) (ww rfl) (bi rfl rfl q_i64_eql) rfl (u1 ([], false) (ww rfl) (mv rfl) rfl (tp h6 (fun h6 => ?_) (fun h6 => ?_)))))))))
       ·have q := si h6; subst q
        refine jw rfl (jw rfl (jw rfl (jw rfl (jw rfl (jw rfl (jw rfl (jw rfl (jw rfl (jw rfl ?_)))))))))
        refine jw rfl (u1 ([], false) (ww rfl) (pkt rfl rfl) rfl (t1 ([], false) (pkt rfl rfl) rfl (ST.nil (And.intro (by decide +kernel) ?_))))
        exact (wq rfl)
       ·obtain ⟨v1639, hv1639, h6⟩ := ob h6; have q := si h6; subst q
        refine u1 ([], false) (ww rfl) (mv rfl) rfl (u1 ([], false) (ww rfl) (nkr rfl) rfl (u1 ([], false) (ww rfl) (far (k := 0) rfl fo33_0 ts31 rfl) rfl (u1 ([0], false) (ww rfl) (lod rfl (ld_box ts31 ta31 rfl rfl)) rfl (u1 ([], false) (ww rfl) (mv rfl) rfl (u1 ([], false) (ww rfl) (iaz rfl rfl un31 ts42 (getI_lt hv1639)) rfl (u1 ([], false) (ww rfl) (far (k := 0) rfl fo42_0 ts9 rfl) rfl (u1 ([1], false) (ww rfl) (lod rfl (ld_row ts9 ta9 rfl (map_get (getI_some hv1639).2) rfl)) rfl (u1 ([], false) (ww rfl) (far (k := 2) rfl fo37_2 ts9 rfl) rfl (u1 ([2], false) (ww rfl) (lod rfl (ld_box ts9 ta9 rfl rfl)) rfl ?_)))))))))
        refine u1 ([], false) (ww rfl) (bi rfl rfl q_str_geq) rfl (u1 ([], false) (ww rfl) (pkf rfl rfl) rfl (t1 ([], false) (pkt rfl rfl) rfl (ST.nil (And.intro (by decide +kernel) ?_))))
        exact (wq rfl)
      ·have q := si h6; subst q
       refine jw rfl (jw rfl (jw rfl (jw rfl (jw rfl (jw rfl (jw rfl (jw rfl (jw rfl (jw rfl ?_)))))))))
       refine jw rfl (jw rfl (jw rfl (jw rfl (jw rfl (jw rfl (jw rfl (jw rfl (jw rfl (jw rfl ?_)))))))))
       refine t1 ([], false) (pkf rfl rfl) rfl (ST.nil (And.intro (by decide +kernel) ?_))
       exact (wq rfl)
     ·rintro y1637 h5
      refine cB h5 rfl (fun h5 => ?_) (fun h5 => ?_)
      ·refine sr (sa rfl (sn (SC.seqP h5 (fun y => ⟨mk 115 [(0, .ref 0 0 0), (3, .ref 2 0 0), (4, .slc 3 6 0 y1477.length none), (5, .d (eB true)), (6, .d (eI y1479)), (64, .d (eB y))], [.box (.agg [.slc 1 6 0 p1.length none]), .row 6 (List.map eApiEntry p1) false, .box (.d (eApiMsg p0)), .row 6 (List.map eApiEntry y1477) true]⟩) ?_ ?_)))
       ·intro u6_1642 h6
        refine SC.draws (by kernel_rfl) (t1 ([], false) (mv rfl) rfl (t1 ([], false) (mv rfl) rfl (t1 ([], false) (nkr rfl) rfl (t1 ([], false) (far (k := 0) rfl fo33_0 ts31 rfl) rfl (t1 ([0], false) (lod rfl (ld_box ts31 ta31 rfl rfl)) rfl (t1 ([], false) (len rfl rfl rfl (len_slc un31)) rfl (t1 ([], false) (bi rfl rfl q_i64_eql) rfl (t1 ([], false) (mv rfl) rfl (tp h6 (fun h6 => ?_) (fun h6 => ?_))))))))))
        ·have q := si h6; subst q
         refine jw rfl (jw rfl (jw rfl (jw rfl (jw rfl (jw rfl (jw rfl (jw rfl (jw rfl (jw rfl ?_)))))))))
         refine jw rfl (t1 ([], false) (pkt rfl rfl) rfl (ST.nil (And.intro (by decide +kernel) ?_)))
         exact (wq rfl)
        ·obtain ⟨v1643, hv1643, h6⟩ := ob h6; have q := si h6; subst q
         refine u1 ([], false) (ww rfl) (mv rfl) rfl (u1 ([], false) (ww rfl) (nkr rfl) rfl (u1 ([], false) (ww rfl) (far (k := 0) rfl fo33_0 ts31 rfl) rfl (u1 ([0], false) (ww rfl) (lod rfl (ld_box ts31 ta31 rfl rfl)) rfl (u1 ([], false) (ww rfl) (mv rfl) rfl (u1 ([], false) (ww rfl) (iaz rfl rfl un31 ts42 (getI_lt hv1643)) rfl (u1 ([], false) (ww rfl) (far (k := 0) rfl fo42_0 ts9 rfl) rfl (u1 ([1], false) (ww rfl) (lod rfl (ld_row ts9 ta9 rfl (map_get (getI_some hv1643).2) rfl)) rfl (u1 ([], false) (ww rfl) (far (k := 2) rfl fo37_2 ts9 rfl) rfl (u1 ([2], false) (ww rfl) (lod rfl (ld_box ts9 ta9 rfl rfl)) rfl ?_)))))))))
         refine u1 ([], false) (ww rfl) (bi rfl rfl q_str_gtr) rfl (t1 ([], false) (pkf rfl rfl) rfl (ST.nil (And.intro (by decide +kernel) ?_)))
         exact (wq rfl)
       ·rintro y1641 h5
        refine cB h5 rfl (fun h5 => ?_) (fun h5 => ?_)
        ·obtain ⟨r1645, hq1644, h5⟩ := ob h5; obtain ⟨r1647, hq1646, h5⟩ := ob h5
         refine sr (s1 (far (k := 2) rfl fo37_2 ts9 rfl) (s1 (lod rfl (ld_box ts9 ta9 rfl rfl)) (s1 (bld rfl (bd42_0 p0.Key)) (s1 (lod (v := .d (eApiMsg p0)) rfl (ld_box ts37 ta37 rfl rfl)) (cq [] [4] (ref09_Apply_ok (ApiEntry.mk p0.Key false ([] : List UInt8) (0 : UInt64) false ([] : List UInt8)) p0 _ hq1644) wf rfl rfl rfl cb18 rfl rfl rfl rfl rfl rfl rfl rfl (s1 (alo (k := 5) zo42 rfl) (s0 (sto rfl rfl (sB (d' := .d (eApiEntry r1645)) ts42 rfl rfl rfl rfl rfl rfl rfl)) (sn (sr ?_)))))))))
         refine s1 (lod (v := .d (eApiEntry r1645)) rfl (ld_box ts42 ta42 rfl rfl)) (c0 (ref09_Gone_ok r1645 _ hq1646) wf rfl rfl rfl cb19 rfl (fun _ => rfl) (fun _ => rfl) (s1 (nt rfl) (sn (cB h5 rfl (fun h5 => ?_) (fun h5 => ?_)))))
         ·obtain ⟨hg1648, h5⟩ := gd h5; have q := si h5; subst q
          exact SC.region (sm rfl (s1 (lod (v := .d (eApiEntry r1645)) rfl (ld_box ts42 ta42 rfl rfl)) (s1 (bsn (k := 6) (ds := List.map eApiEntry [r1645]) (off := 0) (l' := [r1645].length) rfl un31 ei42 rfl rfl (by rfl) rfl rfl rfl) (s1 (app rfl rfl rfl rfl bc31 (aF (f := eApiEntry) (xs := y1477) (k := 7) rfl un31 ei42 rfl (el_full (xs := [r1645]) rfl) hg1648 rfl)) (sa rfl (SO.nil ((wc [0, 1, 2, 7] [0, 1, 0, 2, 7] (by kernel_rfl) rfl (by kernel_rfl)))))))))
         ·have q := si h5; subst q
          exact SC.skip ((wc [0, 1, 2, 3] [0, 1, 0, 2, 3] (by kernel_rfl) rfl (by kernel_rfl)))
        ·have q := si h5; subst q
         exact SC.skip ((wq rfl))
      ·have q := si h5; subst q
       exact SC.skip ((wq rfl))
    ·rintro ⟨y1633, y1634⟩ h4
     refine sq (sr (sm rfl (sm rfl (s1 (nkr rfl) (s1 (far (k := 0) rfl fo33_0 ts31 rfl) (s1 (lod rfl (ld_box ts31 ta31 rfl rfl)) (s1 (len rfl rfl rfl (len_slc un31)) (s1 (bi rfl rfl q_i64_eql) (sn ?_)))))))))
     refine cB h4 rfl (fun h4 => ?_) (fun h4 => ?_)
     ·have q := si h4; subst q; have q := si h3; subst q; have q : _ = _ := hv3; subst q; have q := si h1; subst q
      exact SC.exit ((wc [0, 1, 3] [0, 1, 0, 3] (by kernel_rfl) rfl (by kernel_rfl)))
     ·obtain ⟨v1649, hv1649, h4⟩ := ob h4
      refine sk (sr (sm rfl (s1 (nkr rfl) (s1 (far (k := 0) rfl fo33_0 ts31 rfl) (s1 (lod rfl (ld_box ts31 ta31 rfl rfl)) (sm rfl (s1 (iaz rfl rfl un31 ts42 (getI_lt hv1649)) (s1 (lod (v := .d (eApiEntry v1649)) rfl (ld_row ts42 ta42 rfl (map_get (getI_some hv1649).2) rfl)) (s1 (alo (k := 4) zo42 rfl) ?_)))))))))
      refine s0 (sto rfl rfl (sB (d' := .d (eApiEntry v1649)) ts42 rfl rfl rfl rfl rfl rfl rfl)) (sn (SC.seqP h4 (fun y => ⟨mk 115 [(0, .ref 0 0 0), (3, .ref 2 0 0), (4, .slc 3 6 0 y1633.length none), (5, .d (eB y1634)), (6, .d (eI y1479)), (8, .ref 4 0 0)], [.box (.agg [.slc 1 6 0 p1.length none]), .row 6 (List.map eApiEntry p1) false, .box (.d (eApiMsg p0)), .row 6 (List.map eApiEntry y1633) true, .box (.d (eApiEntry y))]⟩) ?_ ?_))
      ·intro u5_1655 h5
       refine SC.seqP h5 (fun y => ⟨mk 115 [(0, .ref 0 0 0), (3, .ref 2 0 0), (4, .slc 3 6 0 y1633.length none), (5, .d (eB y1634)), (6, .d (eI y1479)), (8, .ref 4 0 0), (100, .d (eB y))], [.box (.agg [.slc 1 6 0 p1.length none]), .row 6 (List.map eApiEntry p1) false, .box (.d (eApiMsg p0)), .row 6 (List.map eApiEntry y1633) true, .box (.d (eApiEntry v1649))]⟩) ?_ ?_
       ·intro u6_1657 h6
        refine SC.region (s1 (far (k := 1) rfl fo37_1 ts3 rfl) (s1 (lod rfl (ld_box ts3 ta3 rfl rfl)) (s1 (bi rfl rfl q_i64_eql) (sm rfl (sp h6 (fun h6 => ?_) (fun h6 => ?_))))))
        ·have q := si h6; subst q
         exact kw rfl (kw rfl (kw rfl (kw rfl (kw rfl (s1 (pkt rfl rfl) (SO.nil ((wq rfl))))))))
        ·have q := si h6; subst q
         exact gw rfl (far (k := 0) rfl fo42_0 ts9 rfl) (gw rfl (lod rfl (ld_box ts9 ta9 rfl rfl)) (gw rfl (far (k := 2) rfl fo37_2 ts9 rfl) (gw rfl (lod rfl (ld_box ts9 ta9 rfl rfl)) (gw rfl (bi rfl rfl q_str_eql) (s1 (pkf rfl rfl) (SO.nil ((wq rfl))))))))
       ·rintro y1656 h5
        refine cB h5 rfl (fun h5 => ?_) (fun h5 => ?_)
        ·obtain ⟨r1659, hq1658, h5⟩ := ob h5; have q := si h5; subst q
         exact SC.region (s1 (lod (v := .d (eApiEntry v1649)) rfl (ld_box ts42 ta42 rfl rfl)) (s1 (lod (v := .d (eApiMsg p0)) rfl (ld_box ts37 ta37 rfl rfl)) (cq [] [5] (ref09_Apply_ok v1649 p0 _ hq1658) wf rfl rfl rfl cb18 rfl rfl rfl rfl rfl rfl rfl rfl (s0 (sto rfl rfl (sB (d' := .d (eApiEntry r1659)) ts42 rfl rfl rfl rfl rfl rfl rfl)) (SO.nil ((wc [0, 1, 2, 3, 4] [0, 1, 0, 2, 3, 4] (by kernel_rfl) rfl (by kernel_rfl))))))))
        ·have q := si h5; subst q
         exact SC.skip ((wq rfl))
      ·rintro y1654 h4
       obtain ⟨r1661, hq1660, h4⟩ := ob h4
       refine sr (s1 (lod (v := .d (eApiEntry y1654)) rfl (ld_box ts42 ta42 rfl rfl)) (c0 (ref09_Gone_ok y1654 _ hq1660) wf rfl rfl rfl cb19 rfl (fun _ => rfl) (fun _ => rfl) (s1 (nt rfl) (sn (cB h4 rfl (fun h4 => ?_) (fun h4 => ?_))))))
       ·obtain ⟨hg1662, h4⟩ := gd h4; have q := si h4; subst q
        exact SC.region (sm rfl (s1 (lod (v := .d (eApiEntry y1654)) rfl (ld_box ts42 ta42 rfl rfl)) (s1 (bsn (k := 5) (ds := List.map eApiEntry [y1654]) (off := 0) (l' := [y1654].length) rfl un31 ei42 rfl rfl (by rfl) rfl rfl rfl) (s1 (app rfl rfl rfl rfl bc31 (aF (f := eApiEntry) (xs := y1633) (k := 6) rfl un31 ei42 rfl (el_full (xs := [y1654]) rfl) hg1662 rfl)) (sa rfl (SO.nil (lf (wc [0, 1, 2, 6] [0, 1, 0, 2, 6] (by kernel_rfl) rfl (by kernel_rfl)))))))))
       ·have q := si h4; subst q
        exact SC.skip (lf (wc [0, 1, 2, 3] [0, 1, 0, 2, 3] (by kernel_rfl) rfl (by kernel_rfl)))
   ·rintro ⟨y1617, y1618⟩ h3
    have q := si h3; subst q
    exact SC.region (sm rfl (s1 (bi rfl rfl q_i64_add) (sa rfl (SO.nil (lf (wq rfl))))))
  ·have q := si h3; subst q; have q : _ = _ := hv3; subst q; have q := si h1; subst q
   exact SC.exit ((wc [0, 1, 3] [0, 1, 0, 3] (by kernel_rfl) rfl (by kernel_rfl)))
 ·rintro y1386 h0
  have q := si h0; subst q
  exact SC.region (sm rfl (sm rfl (s1 (nkr rfl) (s1 (far (k := 0) rfl fo33_0 ts31 rfl) (s0 (sto rfl rfl (sB (d' := .agg [.slc 2 6 0 y1386.length none]) ts31 rfl rfl rfl rfl rfl rfl rfl)) (SO.nil (finN (Wk.refl _) lresN rfl)))))))
noncomputable def raw_Entries (p0 : List ApiEntry) (p1 : List ApiEntry) : Option Bool :=
 bif ((p0.length : Int) != (p1.length : Int)) then
 some false
 else
 bindE (Y := Unit) (E := Bool)
 (Option.bind (α := Unit ⊕ Bool)
 (loop (Y := Int) (W := Unit ⊕ Bool) (fun y62 =>
 bif (decide (y62 < (p0.length : Int))) then
 Option.bind (getI p0 y62) fun v68 =>
 Option.bind (getI p1 y62) fun v69 =>
 bif (!(eqApiEntry v68 v69)) then
 some (Sum.inr (Sum.inr false))
 else
 some (Sum.inl (w64 (y62 + (1 : Int))))
 else
 some (Sum.inr (Sum.inl ()))) (0 : Int))
 (Sum.elim (fun e => some (Sum.inl e)) (fun e => some (Sum.inr e))))
 (fun _ =>
 some true)
 (fun e => some e)
theorem raw_Entries_ok (p0 : List ApiEntry) (p1 : List ApiEntry) (r : Bool) (h0 : raw_Entries p0 p1 = some r) : CallAt Tryd.prog 14 [.d ((eL 6 eApiEntry) p0), .d ((eL 6 eApiEntry) p1)] [] (.d (eB r)) [] := by
 unfold raw_Entries at h0
 refine fn0 [0, 1] Tryd.func14 rfl rfl rfl rfl rfl ?_
 refine sr (sa rfl (sn (sq (sr (sm rfl (s1 (len rfl rfl rfl (len_lst un31)) (sm rfl (s1 (len rfl rfl rfl (len_lst un31)) (s1 (bi rfl rfl q_i64_neq) ?_)))))))))
 refine sn (cB h0 rfl (fun h0 => ?_) (fun h0 => ?_))
 ·have q := si h0; subst q
  exact sr (sa rfl (sn (SC.ret (finR (Wk.refl _) (lresT rfl lresN) rfl))))
 ·refine sk (SC.seqB h0 (fun y => ⟨mk 26 [], []⟩) ?_ ?_)
  ·intro u1_59 h1 h0
   obtain ⟨u2_67, h2, h1⟩ := ob h1
   refine sr (sa rfl (sn (SC.blk (SC.loopB h2 (fun y => ⟨mk 26 [(0, .d ((eL 6 eApiEntry) p0)), (1, .d ((eL 6 eApiEntry) p1)), (5, .d (eI y))], []⟩) (wq rfl) ?_))))
   intro n70
   rintro y62 w2_66 h3 hv3
   refine sq (sr (sm rfl (sm rfl (s1 (len rfl rfl rfl (len_lst un31)) (s1 (bi rfl rfl q_i64_lss) (sn (cB h3 rfl (fun h3 => ?_) (fun h3 => ?_))))))))
   ·obtain ⟨v68, hv68, h3⟩ := ob h3; obtain ⟨v69, hv69, h3⟩ := ob h3
    refine sk (sq (SC.blk (sd (by kernel_rfl) (t1 ([], false) (mv rfl) rfl (t1 ([], false) (mv rfl) rfl (t1 ([], false) (ial rfl rfl un31 ts42 (getI_some hv68).1 (map_get (getI_some hv68).2) rfl) rfl (t1 ([], false) (lod (v := .d (eApiEntry v68)) rfl (ld_rop ts42 ta42 rfl)) rfl (t1 ([], false) (mv rfl) rfl (t1 ([], false) (mv rfl) rfl ?_)))))))))
    refine t1 ([], false) (ial rfl rfl un31 ts42 (getI_some hv69).1 (map_get (getI_some hv69).2) rfl) rfl (t1 ([], false) (lod (v := .d (eApiEntry v69)) rfl (ld_rop ts42 ta42 rfl)) rfl (t1 ([], false) (bi (v := .d (eB (!(eqApiEntry v68 v69)))) rfl rfl (fun X Y => eqApiEntry_neq_42 X Y v68 v69)) rfl (tn (by decide +kernel) (cB h3 rfl (fun h3 => ?_) (fun h3 => ?_)))))
    ·have q := si h3; subst q; have q : _ = _ := hv3; subst q; have q := si h1; subst q; have q := si h0; subst q
     exact sr (sa rfl (sn (SC.ret (finR (Wk.refl _) (lresT rfl lresN) rfl))))
    ·refine SC.skip ?_
     change SC _ _ _ _ _
     have q := si h3; subst q
     exact SC.region (sm rfl (s1 (bi rfl rfl q_i64_add) (sa rfl (SO.nil (lf (wq rfl))))))
   ·have q := si h3; subst q; have q : _ = _ := hv3; subst q; have q := si h1; subst q
    exact SC.exit (lf (wq rfl))
  ·intro _ h0
   have q := si h0; subst q
   exact sr (sa rfl (sn (SC.ret (finR (Wk.refl _) (lresT rfl lresN) rfl))))
end Lv
