/- Part of the proof of a law: functions and their walks. -/
import Derived.Test.YtddopjhkmkoicaaDoorXFn2
namespace Lv
open Go Go.Proofs
set_option linter.unusedVariables false
set_option linter.unusedSimpArgs false
set_option linter.unusedSectionVars false
set_option maxRecDepth 100000
variable [BaseTab] [TabOk]
noncomputable def raw_Entries (p0 : List ApiEntry) (p1 : List ApiEntry) : Option Bool :=
 bif ((p0.length : Int) != (p1.length : Int)) then
 some false
 else
 bindE (Y := Unit) (E := Bool)
 (Option.bind (α := Unit ⊕ Bool)
 (loop (Y := Int) (W := Unit ⊕ Bool) (fun y62 =>
 bif (decide (y62 < (p0.length : Int))) then
 Option.bind (getI p0 y62) fun v68 =>
 Option.bind (getI p1 y62) fun v69 =>
 bif (!(eqApiEntry v68 v69)) then
 some (Sum.inr (Sum.inr false))
 else
 some (Sum.inl (w64 (y62 + (1 : Int))))
 else
 some (Sum.inr (Sum.inl ()))) (0 : Int))
 (Sum.elim (fun e => some (Sum.inl e)) (fun e => some (Sum.inr e))))
 (fun _ =>
 some true)
 (fun e => some e)
theorem raw_Entries_ok (p0 : List ApiEntry) (p1 : List ApiEntry) (r : Bool) (h0 : raw_Entries p0 p1 = some r) : CallAt Tryd.prog 13 [.d ((eL 6 eApiEntry) p0), .d ((eL 6 eApiEntry) p1)] [] (.d (eB r)) [] := by
 unfold raw_Entries at h0
 refine fn0 [0, 1] Tryd.func13 rfl rfl rfl rfl rfl ?_
 refine sr (sa rfl (sn (sq (sr (sm rfl (s1 (len rfl rfl rfl (len_lst un34)) (sm rfl (s1 (len rfl rfl rfl (len_lst un34)) (s1 (bi rfl rfl q_i64_neq) ?_)))))))))
 refine sn (cB h0 rfl (fun h0 => ?_) (fun h0 => ?_))
 ·have q := si h0; subst q
  exact sr (sa rfl (sn (SC.ret (finR (Wk.refl _) (lresT rfl lresN) rfl))))
 ·refine sk (SC.seqB h0 (fun y => ⟨mk 26 [], []⟩) ?_ ?_)
  ·intro u1_59 h1 h0
   obtain ⟨u2_67, h2, h1⟩ := ob h1
   refine sr (sa rfl (sn (SC.blk (SC.loopB h2 (fun y => ⟨mk 26 [(0, .d ((eL 6 eApiEntry) p0)), (1, .d ((eL 6 eApiEntry) p1)), (5, .d (eI y))], []⟩) (wq rfl) ?_))))
   intro n70
   rintro y62 w2_66 h3 hv3
   refine sq (sr (sm rfl (sm rfl (s1 (len rfl rfl rfl (len_lst un34)) (s1 (bi rfl rfl q_i64_lss) (sn (cB h3 rfl (fun h3 => ?_) (fun h3 => ?_))))))))
   ·obtain ⟨v68, hv68, h3⟩ := ob h3; obtain ⟨v69, hv69, h3⟩ := ob h3
    refine sk (sq (SC.blk (sd (by kernel_rfl) (t1 ([], false) (mv rfl) rfl (t1 ([], false) (mv rfl) rfl (t1 ([], false) (ial rfl rfl un34 ts103 (getI_some hv68).1 (map_get (getI_some hv68).2) rfl) rfl (t1 ([], false) (lod (v := .d (eApiEntry v68)) rfl (ld_rop ts103 ta103 rfl)) rfl (t1 ([], false) (mv rfl) rfl (t1 ([], false) (mv rfl) rfl ?_)))))))))
    refine t1 ([], false) (ial rfl rfl un34 ts103 (getI_some hv69).1 (map_get (getI_some hv69).2) rfl) rfl (t1 ([], false) (lod (v := .d (eApiEntry v69)) rfl (ld_rop ts103 ta103 rfl)) rfl (t1 ([], false) (bi (v := .d (eB (!(eqApiEntry v68 v69)))) rfl rfl (fun X Y => eqApiEntry_neq_103 X Y v68 v69)) rfl (tn (by decide +kernel) (cB h3 rfl (fun h3 => ?_) (fun h3 => ?_)))))
    ·have q := si h3; subst q; have q : _ = _ := hv3; subst q; have q := si h1; subst q; have q := si h0; subst q
     exact sr (sa rfl (sn (SC.ret (finR (Wk.refl _) (lresT rfl lresN) rfl))))
    ·refine SC.skip ?_
     change SC _ _ _ _ _
     have q := si h3; subst q
     exact SC.region (sm rfl (s1 (bi rfl rfl q_i64_add) (sa rfl (SO.nil (lf (wq rfl))))))
   ·have q := si h3; subst q; have q : _ = _ := hv3; subst q; have q := si h1; subst q
    exact SC.exit (lf (wq rfl))
  ·intro _ h0
   have q := si h0; subst q
   exact sr (sa rfl (sn (SC.ret (finR (Wk.refl _) (lresT rfl lresN) rfl))))
noncomputable def law19_holds (p0 : List Granarylaw19Tree) (p1 : ApiTable) (p2 : List FanBuilt) (p3 : List (List ApiValue)) (pp : List (Nat × List ApiEntry)) : Option Bool :=
 bindE (Y := Unit) (E := Bool)
 (Option.bind (α := Unit ⊕ Bool)
 (loop (Y := Int) (W := Unit ⊕ Bool) (fun y8830 =>
 bif (decide (y8830 < (p0.length : Int))) then
 bindE (Y := Unit) (E := Bool)
 (bindE (Y := (List ApiEntry)) (E := Bool)
 (Option.bind (α := ((List ApiEntry)) ⊕ Bool)
 (loop (Y := Int × (List ApiEntry)) (W := ((List ApiEntry)) ⊕ Bool) (fun (y10052, y10053) =>
 bif (decide (y10052 < (p3.length : Int))) then
 bindE (Y := (List ApiEntry)) (E := Bool)
 (Option.bind (getI p3 y10052) fun v10137 =>
 Option.bind (schema_Primary p1 v10137) fun (r10139, r10140) =>
 Option.bind (getI p3 y10052) fun v10141 =>
 Option.bind (row_Encode p1.Cols v10141) fun (r10143, r10144) =>
 Option.bind (α := Bool)
 (bif (r10140 != (0 : Int)) then
 some true
 else
 some (r10144 != (0 : Int)))
 fun y10145 =>
 bif y10145 then
 some (Sum.inr false)
 else
 bif (y8830 == (0 : Int)) then
 Option.bind (ref11_Tree_Inject_1 (ApiMsg.mk (0 : UInt64) (1 : Int) r10139 (0 : UInt64) r10143 (0 : Int) (0 : UInt64)) y10053) fun r10148 =>
 some (Sum.inl r10148)
 else
 Option.bind (getI p1.Indexes (w64 (y8830 - (1 : Int)))) fun v10149 =>
 Option.bind (α := Bool)
 (bif (!v10149.Ready) then
 Option.bind (getI p2 (w64 (y8830 - (1 : Int)))) fun v10154 =>
 bif (!v10154.Any) then
 some true
 else
 Option.bind (getI p2 (w64 (y8830 - (1 : Int)))) fun v10155 =>
 some (!(ltS r10139 v10155.Key || r10139 == v10155.Key))
 else
 some false)
 fun y10152 =>
 bif y10152 then
 some (Sum.inl y10053)
 else
 Option.bind (getI p3 y10052) fun v10156 =>
 Option.bind (schema_Entry p1 v10149 v10156) fun (r10158, r10159) =>
 bif (r10158 != (0 : Int)) then
 some (Sum.inr false)
 else
 Option.bind (ref11_Tree_Inject_1 (ApiMsg.mk (0 : UInt64) (1 : Int) r10159.Key (0 : UInt64) r10159.Val (0 : Int) (0 : UInt64)) y10053) fun r10161 =>
 some (Sum.inl r10161))
 (fun y10135 =>
 some (Sum.inl ((w64 (y10052 + (1 : Int))), y10135)))
 (fun e => some (Sum.inr (Sum.inr e)))
 else
 some (Sum.inr (Sum.inl y10053))) ((0 : Int), ([] : List ApiEntry)))
 (Sum.elim (fun e => some (Sum.inl e)) (fun e => some (Sum.inr e))))
 (fun y9998 =>
 Option.bind (getI p0 y8830) fun v10164 =>
 Option.bind (pget pp v10164.t) fun v10165 =>
 Option.bind (raw_Entries v10165 y9998) fun r10167 =>
 bif (!r10167) then
 some (Sum.inr false)
 else
 some (Sum.inl ()))
 (fun e => some (Sum.inr e)))
 (fun _ =>
 some (Sum.inl (w64 (y8830 + (1 : Int)))))
 (fun e => some (Sum.inr (Sum.inr e)))
 else
 some (Sum.inr (Sum.inl ()))) (0 : Int))
 (Sum.elim (fun e => some (Sum.inl e)) (fun e => some (Sum.inr e))))
 (fun _ =>
 some true)
 (fun e => some e)
theorem law19_holds_ok (p0 : List Granarylaw19Tree) (p1 : ApiTable) (p2 : List FanBuilt) (p3 : List (List ApiValue)) (pp : List (Nat × List ApiEntry)) (r : Bool) (h0 : law19_holds p0 p1 p2 p3 pp = some r) : CallPR Tryd.prog 12 [.d ((eL 2 eGranarylaw19Tree) p0), .d (eApiTable p1), .d ((eL 2 eFanBuilt) p2), .d ((eL 1 (eL 3 eApiValue)) p3)] ((plM (eL 6 eApiEntry)) pp) r := by
 unfold law19_holds at h0
 refine fno [0, 1, 2, 3] Tryd.func12 rfl rfl rfl rfl rfl ?_
 refine srp (s1 (bxo (k := 0) rfl rfl rfl) (sa rfl (snp (SCp.seqB h0 (fun y => (⟨mk 125 [], []⟩, (plM (eL 6 eApiEntry)) pp)) ?_ ?_))))
 ·intro u1_8474 h1 h0
  obtain ⟨u2_9500, h2, h1⟩ := ob h1
  refine srp (sa rfl (snp (SCp.blk (SCp.loopB h2 (fun y => (⟨mk 125 [(0, .d ((eL 2 eGranarylaw19Tree) p0)), (2, .d ((eL 2 eFanBuilt) p2)), (3, .d ((eL 1 (eL 3 eApiValue)) p3)), (5, .ref 0 0 0), (9, .d (eI y))], [.box (.d (eApiTable p1))]⟩, (plM (eL 6 eApiEntry)) pp)) (WkP.of (wq rfl) rfl) ?_))))
  intro n10168
  rintro y8830 w2_9499 h3 hv3
  refine sqp (srp (sm rfl (sm rfl (s1 (len rfl rfl rfl (len_lst un39)) (s1 (bi rfl rfl q_i64_lss) (snp (cBp h3 rfl (fun h3 => ?_) (fun h3 => ?_))))))))
  ·refine skp (SCp.seqB h3 (fun y => (⟨mk 125 [(0, .d ((eL 2 eGranarylaw19Tree) p0)), (2, .d ((eL 2 eFanBuilt) p2)), (3, .d ((eL 1 (eL 3 eApiValue)) p3)), (5, .ref 0 0 0), (9, .d (eI y8830))], [.box (.d (eApiTable p1))]⟩, (plM (eL 6 eApiEntry)) pp)) ?_ ?_)
   ·intro u4_9834 h4 h3
    refine SCp.blk (srp (s1 (bld rfl (bd36_ )) (s1 (bxo (k := 1) rfl rfl rfl) (sa rfl (snp (SCp.seqB h4 (fun y => (⟨mk 125 [(0, .d ((eL 2 eGranarylaw19Tree) p0)), (2, .d ((eL 2 eFanBuilt) p2)), (3, .d ((eL 1 (eL 3 eApiValue)) p3)), (5, .ref 0 0 0), (9, .d (eI y8830)), (10, .ref 1 0 0)], [.box (.d (eApiTable p1)), .box (.agg [.slc 2 6 0 y.length none]), .row 6 (List.map eApiEntry y) true]⟩, (plM (eL 6 eApiEntry)) pp)) ?_ ?_))))))
    ·intro u5_9999 h5 h4
     obtain ⟨u6_10109, h6, h5⟩ := ob h5
     refine srp (sa rfl (snp (SCp.blk (SCp.loopB h6 (fun y => (⟨mk 125 [(0, .d ((eL 2 eGranarylaw19Tree) p0)), (2, .d ((eL 2 eFanBuilt) p2)), (3, .d ((eL 1 (eL 3 eApiValue)) p3)), (5, .ref 0 0 0), (9, .d (eI y8830)), (10, .ref 1 0 0), (11, .d (eI y.1))], [.box (.d (eApiTable p1)), .box (.agg [.slc 2 6 0 y.2.length none]), .row 6 (List.map eApiEntry y.2) true]⟩, (plM (eL 6 eApiEntry)) pp)) (WkP.of (Wk.trans (Wk.pushE (σ' := [.box (.d (eApiTable p1)), .box (.d (.agg [.nils])), .row 6 (List.map eApiEntry ([] : List ApiEntry)) true]) (.row 6 [] true) (fun _ hh => by cases hh) rfl) (Wk.trans (Wk.boxE (id := 1) (y := .agg [.slc 2 6 0 (([] : List ApiEntry).length) none]) (σ' := [.box (.d (eApiTable p1)), .box (.agg [.slc 2 6 0 (([] : List ApiEntry).length) none]), .row 6 (List.map eApiEntry ([] : List ApiEntry)) true]) rfl (AWs.cons (AW.slcn _ _ _) AWs.nil) rfl) (wq rfl))) rfl) ?_))))
     intro n10162
     rintro ⟨y10052, y10053⟩ w6_10108 h7 hv7
     refine sqp (srp (sm rfl (sm rfl (s1 (len rfl rfl rfl (len_lst un28)) (s1 (bi rfl rfl q_i64_lss) (snp (cBp h7 rfl (fun h7 => ?_) (fun h7 => ?_))))))))
     ·refine skp (SCp.seqB h7 (fun y => (⟨mk 125 [(0, .d ((eL 2 eGranarylaw19Tree) p0)), (2, .d ((eL 2 eFanBuilt) p2)), (3, .d ((eL 1 (eL 3 eApiValue)) p3)), (5, .ref 0 0 0), (9, .d (eI y8830)), (10, .ref 1 0 0), (11, .d (eI y10052))], [.box (.d (eApiTable p1)), .box (.agg [.slc 2 6 0 y.length none]), .row 6 (List.map eApiEntry y) true]⟩, (plM (eL 6 eApiEntry)) pp)) ?_ ?_)
      ·intro u8_10136 h8 h7
       obtain ⟨v10137, hv10137, h8⟩ := ob h8; obtain ⟨⟨r10139, r10140⟩, hq10138, h8⟩ := ob h8; obtain ⟨v10141, hv10141, h8⟩ := ob h8; obtain ⟨⟨r10143, r10144⟩, hq10142, h8⟩ := ob h8
       refine SCp.blk (sdp (by kernel_rfl) (t1 ([0], false) (lod (v := .d (eApiTable p1)) rfl (ld_box ts26 ta26 rfl rfl)) rfl (t1 ([], false) (mv rfl) rfl (t1 ([], false) (mv rfl) rfl (t1 ([], false) (ial rfl rfl un28 ts43 (getI_some hv10137).1 (map_get (getI_some hv10137).2) rfl) rfl (t1 ([], false) (lod rfl (ld_rop ts43 ta43 rfl)) rfl (tc0 (schema_Primary_ok p1 v10137 _ hq10138) wf rfl rfl rfl cb9 rfl (fun _ => rfl) (fun _ => rfl) (t1 ([], false) (mv rfl) rfl (t1 ([], false) (ext rfl rfl) rfl ?_)))))))))
       refine t1 ([], false) (ext rfl rfl) rfl (t1 ([], false) (asg rfl) rfl (t1 ([], false) (asg rfl) rfl (tnp (by decide +kernel) (sdp (by kernel_rfl) (t1 ([], false) (far (k := 1) rfl fo26_1 ts22 rfl) rfl (t1 ([0], false) (lod rfl (ld_box ts22 ta22 rfl rfl)) rfl (t1 ([], false) (mv rfl) rfl (t1 ([], false) (mv rfl) rfl (t1 ([], false) (ial rfl rfl un28 ts43 (getI_some hv10141).1 (map_get (getI_some hv10141).2) rfl) rfl ?_)))))))))
       refine t1 ([], false) (lod rfl (ld_rop ts43 ta43 rfl)) rfl (tc0 (row_Encode_ok p1.Cols v10141 _ hq10142) wf rfl rfl rfl cb28 rfl (fun _ => rfl) (fun _ => rfl) (t1 ([], false) (mv rfl) rfl (t1 ([], false) (ext rfl rfl) rfl (t1 ([], false) (ext rfl rfl) rfl (t1 ([], false) (asg rfl) rfl (t1 ([], false) (asg rfl) rfl (tnp (by decide +kernel) (sqp (SCp.seqP h8 (fun y => (⟨mk 125 [(0, .d ((eL 2 eGranarylaw19Tree) p0)), (2, .d ((eL 2 eFanBuilt) p2)), (3, .d ((eL 1 (eL 3 eApiValue)) p3)), (5, .ref 0 0 0), (9, .d (eI y8830)), (10, .ref 1 0 0), (11, .d (eI y10052)), (12, .d (eS r10139)), (14, .d (eS r10143)), (56, .d (eB y))], [.box (.d (eApiTable p1)), .box (.agg [.slc 2 6 0 y10053.length none]), .row 6 (List.map eApiEntry y10053) true]⟩, (plM (eL 6 eApiEntry)) pp)) ?_ ?_)))))))))
       ·intro u9_10146 h9
        refine SCp.region (sm rfl (s1 (bi rfl rfl q_i64_neq) (sm rfl (sp h9 (fun h9 => ?_) (fun h9 => ?_)))))
        ·have q := si h9; subst q
         exact kw rfl (kw rfl (s1 (pkt rfl rfl) (SO.nil (WkP.of (wq rfl) rfl))))
        ·have q := si h9; subst q
         exact gw rfl (mv rfl) (gw rfl (bi rfl rfl q_i64_neq) (s1 (pkf rfl rfl) (SO.nil (WkP.of (wq rfl) rfl))))
       ·rintro y10145 h8
        refine cBp h8 rfl (fun h8 => ?_) (fun h8 => ?_)
        ·have q := si h8; subst q; have q := si h7; subst q; have q : _ = _ := hv7; subst q; have q := si h5; subst q; have q := si h4; subst q; have q := si h3; subst q; have q : _ = _ := hv3; subst q; have q := si h1; subst q; have q := si h0; subst q
         exact srp (sa rfl (snp (SCp.ret (finRp (wc (e' := [(8, .d (eB false))]) [] [] (by kernel_rfl) rfl (by kernel_rfl)) (lresT rfl lresN) rfl rfl))))
        ·refine skp (sqp (srp (sm rfl (s1 (bi rfl rfl q_i64_eql) (snp (cBp h8 rfl (fun h8 => ?_) (fun h8 => ?_)))))))
         ·obtain ⟨r10148, hq10147, h8⟩ := ob h8; have q := si h8; subst q
          exact srp (sm rfl (sm rfl (sm rfl (s1 (bld rfl (bd61_1_2_4 (1 : Int) r10139 r10143)) (cq [1, 2] [3] (ref11_Tree_Inject_1_ok1 (ApiMsg.mk (0 : UInt64) (1 : Int) r10139 (0 : UInt64) r10143 (0 : Int) (0 : UInt64)) y10053 _ hq10147) wf rfl rfl rfl cb31 rfl rfl rfl rfl rfl rfl rfl rfl (snp (SCp.exit (lfp (wc [0, 1, 3] [0, 1] (by kernel_rfl) rfl (by kernel_rfl)) rfl))))))))
         ·obtain ⟨v10149, hv10149, h8⟩ := ob h8
          refine skp (srp (s1 (far (k := 3) rfl fo26_3 ts24 rfl) (s1 (lod rfl (ld_box ts24 ta24 rfl rfl)) (sm rfl (s1 (bi rfl rfl q_i64_sub) (s1 (ial rfl rfl un24 ts42 (getI_some hv10149).1 (map_get (getI_some hv10149).2) rfl) (s1 (lod (v := .d (eApiIndex v10149)) rfl (ld_rop ts42 ta42 rfl)) (s1 (alo (k := 3) zo42 rfl) (s0 (sto rfl rfl (sB (d' := .d (eApiIndex v10149)) ts42 rfl rfl rfl rfl rfl rfl rfl)) ?_)))))))))
          refine snp (sqp (SCp.seqP h8 (fun y => (⟨mk 125 [(0, .d ((eL 2 eGranarylaw19Tree) p0)), (2, .d ((eL 2 eFanBuilt) p2)), (3, .d ((eL 1 (eL 3 eApiValue)) p3)), (5, .ref 0 0 0), (9, .d (eI y8830)), (10, .ref 1 0 0), (11, .d (eI y10052)), (16, .ref 2 0 0), (91, .d (eB y))], [.box (.d (eApiTable p1)), .box (.agg [.slc 3 6 0 y10053.length none]), .box (.d (eApiIndex v10149)), .row 6 (List.map eApiEntry y10053) true]⟩, (plM (eL 6 eApiEntry)) pp)) ?_ ?_))
          ·intro u9_10153 h9
           refine SCp.region (s1 (far (k := 4) rfl fo42_4 ts4 rfl) (s1 (lod rfl (ld_box ts4 ta4 rfl rfl)) (s1 (nt rfl) (sm rfl (sp h9 (fun h9 => ?_) (fun h9 => ?_))))))
           ·obtain ⟨v10154, hv10154, h9⟩ := ob h9
            refine gw rfl (mv rfl) (gw rfl (mv rfl) (gw rfl (bi rfl rfl q_i64_sub) (gw rfl (ial rfl rfl un27 ts95 (getI_some hv10154).1 (map_get (getI_some hv10154).2) rfl) (gw rfl (fap rfl fo95_1 ts4 rfl) (gw rfl (lod rfl (ld_rop ts4 ta4 rfl)) (gw rfl (nt rfl) (gw rfl (mv rfl) (sp h9 (fun h9 => ?_) (fun h9 => ?_)))))))))
            ·have q := si h9; subst q
             refine kw rfl (kw rfl (kw rfl (kw rfl (kw rfl (kw rfl (kw rfl (kw rfl (gw rfl (pkt rfl rfl) (s1 (pkt rfl rfl) ?_)))))))))
             exact SO.nil (WkP.of (wc [0, 1, 3, 2] [0, 1, 3] (by kernel_rfl) rfl (by kernel_rfl)) rfl)
            ·obtain ⟨v10155, hv10155, h9⟩ := ob h9; have q := si h9; subst q
             refine gw rfl (mv rfl) (gw rfl (mv rfl) (gw rfl (mv rfl) (gw rfl (bi rfl rfl q_i64_sub) (gw rfl (ial rfl rfl un27 ts95 (getI_some hv10155).1 (map_get (getI_some hv10155).2) rfl) (gw rfl (fap rfl fo95_0 ts9 rfl) (gw rfl (lod rfl (ld_rop ts9 ta9 rfl)) (gw rfl (bi rfl rfl q_str_gtr) (gw rfl (pkf rfl rfl) (s1 (pkt rfl rfl) ?_)))))))))
             exact SO.nil (WkP.of (wc [0, 1, 3, 2] [0, 1, 3] (by kernel_rfl) rfl (by kernel_rfl)) rfl)
           ·have q := si h9; subst q
            refine kw rfl (kw rfl (kw rfl (kw rfl (kw rfl (kw rfl (kw rfl (kw rfl (kw rfl (kw rfl ?_)))))))))
            exact kw rfl (kw rfl (kw rfl (kw rfl (kw rfl (kw rfl (kw rfl (s1 (pkf rfl rfl) (SO.nil (WkP.of (wc [0, 1, 3, 2] [0, 1, 3] (by kernel_rfl) rfl (by kernel_rfl)) rfl)))))))))
          ·rintro y10152 h8
           refine cBp h8 rfl (fun h8 => ?_) (fun h8 => ?_)
           ·have q := si h8; subst q
            exact SCp.exit (lfp (wc [0, 1, 3] [0, 1] (by kernel_rfl) rfl (by kernel_rfl)) rfl)
           ·obtain ⟨v10156, hv10156, h8⟩ := ob h8; obtain ⟨⟨r10158, r10159⟩, hq10157, h8⟩ := ob h8
            refine skp (sdp (by kernel_rfl) (t1 ([0], false) (lod (v := .d (eApiTable p1)) rfl (ld_box ts26 ta26 rfl rfl)) rfl (t1 ([2], false) (lod (v := .d (eApiIndex v10149)) rfl (ld_box ts42 ta42 rfl rfl)) rfl (t1 ([], false) (mv rfl) rfl (t1 ([], false) (mv rfl) rfl (t1 ([], false) (ial rfl rfl un28 ts43 (getI_some hv10156).1 (map_get (getI_some hv10156).2) rfl) rfl (t1 ([], false) (lod rfl (ld_rop ts43 ta43 rfl)) rfl (tq [] [4] ([4], true) (schema_Entry_ok p1 v10149 v10156 _ hq10157) wf rfl rfl rfl cb32 rfl rfl rfl rfl rfl rfl rfl rfl rfl (t1 ([], false) (mv rfl) rfl ?_)))))))))
            refine t1 ([], false) (ext rfl rfl) rfl (t1 ([], false) (ext rfl rfl) rfl (t1 ([5], true) (alo (k := 5) zo99 rfl) rfl (t0 ([5], true) (sto rfl rfl (sB (d' := .d (eApiPair r10159)) ts99 rfl rfl rfl rfl rfl rfl rfl)) rfl (t1 ([], false) (asg rfl) rfl (tnp (by decide +kernel) (sqp (srp (sm rfl (s1 (bi rfl rfl q_i64_neq) ?_)))))))))
            refine snp (cBp h8 rfl (fun h8 => ?_) (fun h8 => ?_))
            ·have q := si h8; subst q; have q := si h7; subst q; have q : _ = _ := hv7; subst q; have q := si h5; subst q; have q := si h4; subst q; have q := si h3; subst q; have q : _ = _ := hv3; subst q; have q := si h1; subst q; have q := si h0; subst q
             exact srp (sa rfl (snp (SCp.ret (finRp (wc (e' := [(8, .d (eB false))]) [] [] (by kernel_rfl) rfl (by kernel_rfl)) (lresT rfl lresN) rfl rfl))))
            ·obtain ⟨r10161, hq10160, h8⟩ := ob h8; have q := si h8; subst q
             refine skp (SCp.region (sm rfl (s1 (far (k := 0) rfl fo99_0 ts9 rfl) (s1 (lod rfl (ld_box ts9 ta9 rfl rfl)) (s1 (far (k := 1) rfl fo99_1 ts9 rfl) (s1 (lod rfl (ld_box ts9 ta9 rfl rfl)) (s1 (bld rfl (bd61_1_2_4 (1 : Int) r10159.Key r10159.Val)) (cq [1, 3] [6] (ref11_Tree_Inject_1_ok1 (ApiMsg.mk (0 : UInt64) (1 : Int) r10159.Key (0 : UInt64) r10159.Val (0 : Int) (0 : UInt64)) y10053 _ hq10160) wf rfl rfl rfl cb31 rfl rfl rfl rfl rfl rfl rfl rfl (SO.nil ?_)))))))))
             exact lfp (wc [0, 1, 6] [0, 1] (by kernel_rfl) rfl (by kernel_rfl)) rfl
      ·rintro y10135 h7
       have q := si h7; subst q
       exact SCp.region (sm rfl (s1 (bi rfl rfl q_i64_add) (sa rfl (SO.nil (lfp (wq rfl) rfl)))))
     ·have q := si h7; subst q; have q : _ = _ := hv7; subst q; have q := si h5; subst q
      exact SCp.exit (lfp (wq rfl) rfl)
    ·rintro y9998 h4
     obtain ⟨v10164, hv10164, h4⟩ := ob h4; obtain ⟨v10165, hv10165, h4⟩ := ob h4; obtain ⟨r10167, hq10166, h4⟩ := ob h4
     refine sdQ 12 mixO (by kernel_rfl) (yq (mv rfl) rfl (yq (mv rfl) rfl (yq (ial rfl rfl un39 ts38 (getI_some hv10164).1 (map_get (getI_some hv10164).2) rfl) rfl (yq (fap rfl fo38_1 ts33 rfl) rfl (yq (lod rfl (ld_rop ts33 ta33 rfl)) rfl (zq (StOp.nil rfl) (zq (StOp.fld rfl fz36_0) (zq (StOp.ld rfl (plM_mem hv10165) ts34 ta34) (yq (mv rfl) rfl ?_)))))))))
     refine yq (nkr rfl) rfl (yq (far (k := 0) rfl fo36_0 ts34 rfl) rfl (yq (lod rfl (ld_box ts34 ta34 rfl rfl)) rfl (StC.nil (sgQ 12 rfl (by intro j w hh; cases hh <;> decide) (cq (args' := [.d ((eL 6 eApiEntry) v10165), .slc 0 6 0 y9998.length none]) (σc := [.row 6 (List.map eApiEntry y9998) true]) [2] [] (CallAt.frz (ArgF.keep (ArgF.frz (fF rfl rfl rfl) (ArgF.nil _))) (fq [] [] (raw_Entries_ok v10165 y9998 _ hq10166) rfl rfl rfl rfl rfl rfl rfl rfl)) wf rfl rfl rfl cb13 rfl rfl rfl rfl rfl rfl rfl rfl (SO.nil (sgQ 13 rfl (by intro j w hh; cases hh <;> decide) (s1 (nt rfl) (SO.nil ?_)))))))))
     refine SOp.nil (cBp h4 rfl (fun h4 => ?_) (fun h4 => ?_))
     ·have q := si h4; subst q; have q := si h3; subst q; have q : _ = _ := hv3; subst q; have q := si h1; subst q; have q := si h0; subst q
      exact srp (sa rfl (snp (SCp.ret (finRp (wc (e' := [(8, .d (eB false))]) [] [] (by kernel_rfl) rfl (by kernel_rfl)) (lresT rfl lresN) rfl rfl))))
     ·have q := si h4; subst q
      exact SCp.skip (lfp (wc [0] [0] (by kernel_rfl) rfl (by kernel_rfl)) rfl)
   ·intro _ h3
    have q := si h3; subst q
    exact SCp.region (sm rfl (s1 (bi rfl rfl q_i64_add) (sa rfl (SO.nil (lfp (wq rfl) rfl)))))
  ·have q := si h3; subst q; have q : _ = _ := hv3; subst q; have q := si h1; subst q
   exact SCp.exit (lfp (wc [] [] (by kernel_rfl) rfl (by kernel_rfl)) rfl)
 ·intro _ h0
  have q := si h0; subst q
  exact srp (sa rfl (snp (SCp.ret (finRp (Wk.refl _) (lresT rfl lresN) rfl rfl))))
noncomputable def law19_FanHolds (p0 : ApiTable) (p1 : List FanBuilt) (p2 : List (List ApiValue)) : Option Bool :=
 Option.bind law19_awake fun r2343 =>
 bif (!r2343) then
 some false
 else
 Option.bind (α := Bool)
 (Option.bind (ref17_Check p0) fun r2349 =>
 bif (r2349 != (0 : Int)) then
 some true
 else
 some ((p1.length : Int) != (p0.Indexes.length : Int)))
 fun y2346 =>
 bif y2346 then
 some true
 else
 Option.bind (ref17_Copy p0) fun r2351 =>
 dem ([] : List (Nat × List ApiEntry)) (fun b2352 =>
 cps (Y := (List (Nat × List ApiEntry)) × (List Granarylaw19Tree) × (List ApiIndex)) (fun κ =>
 loopD (Y := (List (Nat × List ApiEntry)) × (List Granarylaw19Tree) × Int × (List ApiIndex)) (fun ρ =>
 fun (y2376, y2377, y2378, y2379) =>
 bif (decide (y2378 < (y2379.length : Int))) then
 Option.bind (getI y2379 y2378) fun v2387 =>
 dem y2376 (fun b2388 =>
 bif decide ((y2377.length + [(Granarylaw19Tree.mk (w64 ((101 : Int) + y2378)) b2388)].length) * 16 ≤ room) then
 ρ ((y2376 ++ [(b2388, ([] : List ApiEntry))]), (y2377 ++ [(Granarylaw19Tree.mk (w64 ((101 : Int) + y2378)) b2388)]), (w64 (y2378 + (1 : Int))), (List.set y2379 y2378.toNat (ApiIndex.mk v2387.Name v2387.Parts v2387.Extra v2387.Unique v2387.Ready (w64 ((101 : Int) + y2378)))))
 else none)
 else
 κ (y2376, y2377, y2379)) 1000 ((([] : List (Nat × List ApiEntry)) ++ [(b2352, ([] : List ApiEntry))]), [(Granarylaw19Tree.mk (100 : Int) b2352)], (0 : Int), r2351))
 (fun (y2370, y2371, y2372) =>
 bindE (Y := (List (Nat × List ApiEntry))) (E := Bool)
 (Option.bind (α := ((List (Nat × List ApiEntry))) ⊕ Bool)
 (loop (Y := (List (Nat × List ApiEntry)) × (List (List ApiValue)) × Int) (W := ((List (Nat × List ApiEntry))) ⊕ Bool) (fun (y3021, y3022, y3023) =>
 Option.bind (α := Bool)
 (bif (decide (y3023 < (p2.length : Int))) then
 some (decide (y3023 < (30 : Int)))
 else
 some false)
 fun y3270 =>
 bif y3270 then
 bindE (Y := (List (Nat × List ApiEntry)) × (List (List ApiValue))) (E := Bool)
 (Option.bind (getI p2 y3023) fun v3393 =>
 Option.bind (schema_Primary (ApiTable.mk p0.Name (([] : List ApiColumn) ++ p0.Cols) (([] : List Int) ++ p0.Primary) y2372 (100 : Int)) v3393) fun (r3395, r3396) =>
 bif (r3396 != (0 : Int)) then
 some (Sum.inl (y3021, y3022))
 else
 Option.bind (α := Int)
 (Option.bind (α := Int)
 (loop (Y := Int × Int) (W := Int) (fun (y3446, y3447) =>
 bif (decide (y3447 < (y3022.length : Int))) then
 Option.bind (α := Int)
 (Option.bind (getI y3022 y3447) fun v3468 =>
 Option.bind (schema_Primary (ApiTable.mk p0.Name (([] : List ApiColumn) ++ p0.Cols) (([] : List Int) ++ p0.Primary) y2372 (100 : Int)) v3468) fun (r3470, r3471) =>
 bif (r3470 == r3395) then
 some y3447
 else
 some y3446)
 fun y3466 =>
 some (Sum.inl (y3466, (w64 (y3447 + (1 : Int)))))
 else
 some (Sum.inr y3446)) ((-1 : Int), (0 : Int)))
 (fun e => some e))
 fun y3434 =>
 Option.bind (α := (List (List ApiValue)) × (List ApiValue) × (List ApiValue))
 (bif (decide (y3434 ≥ (0 : Int))) then
 Option.bind (getI y3022 y3434) fun v3484 =>
 bif decide (0 ≤ y3434 ∧ y3434 ≤ (y3022.length : Int)) then
 bif decide (0 + y3434.toNat ≤ y3022.length) then
 bif decide ((([] : List (List ApiValue)).length + (List.take y3434.toNat (List.drop 0 y3022)).length) * 24 ≤ room) then
 bif decide (0 ≤ (w64 (y3434 + (1 : Int))) ∧ (w64 (y3434 + (1 : Int))) ≤ (y3022.length : Int)) then
 bif decide ((0 + (w64 (y3434 + (1 : Int))).toNat) + (y3022.length - (w64 (y3434 + (1 : Int))).toNat) ≤ y3022.length) then
 bif decide (((([] : List (List ApiValue)) ++ (List.take y3434.toNat (List.drop 0 y3022))).length + (List.take (y3022.length - (w64 (y3434 + (1 : Int))).toNat) (List.drop (0 + (w64 (y3434 + (1 : Int))).toNat) y3022)).length) * 24 ≤ room) then
 bif ((Int.tmod y3023 (3 : Int)) == (0 : Int)) then
 some (((([] : List (List ApiValue)) ++ (List.take y3434.toNat (List.drop 0 y3022))) ++ (List.take (y3022.length - (w64 (y3434 + (1 : Int))).toNat) (List.drop (0 + (w64 (y3434 + (1 : Int))).toNat) y3022))), ([] : List ApiValue), v3484)
 else
 some (((([] : List (List ApiValue)) ++ (List.take y3434.toNat (List.drop 0 y3022))) ++ (List.take (y3022.length - (w64 (y3434 + (1 : Int))).toNat) (List.drop (0 + (w64 (y3434 + (1 : Int))).toNat) y3022))), v3393, v3484)
 else none
 else none
 else none
 else none
 else none
 else none
 else
 some (y3022, v3393, ([] : List ApiValue)))
 fun (y3480, y3481, y3482) =>
 Option.bind (fan_Change (ApiTable.mk p0.Name (([] : List ApiColumn) ++ p0.Cols) (([] : List Int) ++ p0.Primary) y2372 (100 : Int)) p1 y3482 y3481) fun (r3492, r3493, r3494, r3495) =>
 Option.bind (α := (List (Nat × List ApiEntry)) × Bool)
 (bif (r3492 != (0 : Int)) then
 some (y3021, true)
 else
 Option.bind (law19_run y2371 r3493 y3021) fun (r3503, r3504) =>
 some (r3503, (!r3504)))
 fun (y3499, y3500) =>
 bif y3500 then
 some (Sum.inr false)
 else
 Option.bind (α := (List (List ApiValue)))
 (bif (decide ((y3481.length : Int) > (0 : Int))) then
 bif decide ((y3480.length + [y3481].length) * 24 ≤ room) then
 some (y3480 ++ [y3481])
 else none
 else
 some y3480)
 fun y3506 =>
 Option.bind (law19_holds y2371 (ApiTable.mk p0.Name (([] : List ApiColumn) ++ p0.Cols) (([] : List Int) ++ p0.Primary) y2372 (100 : Int)) p1 y3506 y3499) fun r3510 =>
 bif (!r3510) then
 some (Sum.inr false)
 else
 some (Sum.inl (y3499, y3506)))
 (fun (y3390, y3391) =>
 some (Sum.inl (y3390, y3391, (w64 (y3023 + (1 : Int))))))
 (fun e => some (Sum.inr (Sum.inr e)))
 else
 some (Sum.inr (Sum.inl y3021))) (y2370, ([] : List (List ApiValue)), (0 : Int)))
 (Sum.elim (fun e => some (Sum.inl e)) (fun e => some (Sum.inr e))))
 (fun y2950 =>
 some true)
 (fun e => some e)))
theorem law19_FanHolds_ok (p0 : ApiTable) (p1 : List FanBuilt) (p2 : List (List ApiValue)) (r : Bool) (h0 : law19_FanHolds p0 p1 p2 = some r) : CallAt Tryd.prog 3 [.d (eApiTable p0), .d ((eL 2 eFanBuilt) p1), .d ((eL 1 (eL 3 eApiValue)) p2)] [] (.d (eB r)) [] := by
 unfold law19_FanHolds at h0
 refine fnr [0, 1, 2] Tryd.func3 rfl rfl rfl rfl rfl ?_
 obtain ⟨r2343, hq2342, h0⟩ := ob h0
 refine srp (s1 (bxo (k := 0) rfl rfl rfl) (sa rfl (snp (sqp (srp (c0 (law19_awake_ok _ hq2342) wf rfl rfl rfl cb6 rfl (fun _ => rfl) (fun _ => rfl) (s1 (nt rfl) (snp (cBp h0 rfl (fun h0 => ?_) (fun h0 => ?_))))))))))
 ·have q := si h0; subst q
  exact srp (sa rfl (snp (SCp.ret (finRr (wc (e' := [(6, .d (eB false))]) [] [] (by kernel_rfl) rfl (by kernel_rfl)) (lresT rfl lresN) rfl))))
 ·refine skp (sqp (SCp.seqP h0 (fun y => (⟨mk 152 [(1, .d ((eL 2 eFanBuilt) p1)), (2, .d ((eL 1 (eL 3 eApiValue)) p2)), (3, .ref 0 0 0), (32, .d (eB y))], [.box (.d (eApiTable p0))]⟩, (plM (eL 6 eApiEntry)) ([] : List (Nat × List ApiEntry)))) ?_ ?_))
  ·intro u1_2347 h1
   obtain ⟨r2349, hq2348, h1⟩ := ob h1
   refine SCp.region (s1 (lod (v := .d (eApiTable p0)) rfl (ld_box ts26 ta26 rfl rfl)) (c0 (ref17_Check_ok p0 _ hq2348) wf rfl rfl rfl cb7 rfl (fun _ => rfl) (fun _ => rfl) (s1 (bi rfl rfl q_i64_neq) (sm rfl (sp h1 (fun h1 => ?_) (fun h1 => ?_))))))
   ·have q := si h1; subst q
    exact kw rfl (kw rfl (kw rfl (kw rfl (kw rfl (kw rfl (s1 (pkt rfl rfl) (SO.nil (WkP.of (wq rfl) rfl))))))))
   ·have q := si h1; subst q
    exact gw rfl (mv rfl) (gw rfl (len rfl rfl rfl (len_lst un27)) (gw rfl (far (k := 3) rfl fo26_3 ts24 rfl) (gw rfl (lod rfl (ld_box ts24 ta24 rfl rfl)) (gw rfl (len rfl rfl rfl (len_lst un24)) (gw rfl (bi rfl rfl q_i64_neq) (s1 (pkf rfl rfl) (SO.nil (WkP.of (wq rfl) rfl))))))))
  ·rintro y2346 h0
   refine cBp h0 rfl (fun h0 => ?_) (fun h0 => ?_)
   ·have q := si h0; subst q
    exact srp (sa rfl (snp (SCp.ret (finRr (wc (e' := [(6, .d (eB true))]) [] [] (by kernel_rfl) rfl (by kernel_rfl)) (lresT rfl lresN) rfl))))
   ·obtain ⟨r2351, hq2350, h0⟩ := ob h0
    refine skp (srp (s1 (lod (v := .d (eApiTable p0)) rfl (ld_box ts26 ta26 rfl rfl)) (cq [] [1, 2, 3, 4] (ref17_Copy_ok p0 _ hq2350) wf rfl rfl rfl cb8 rfl rfl rfl rfl rfl rfl rfl rfl (s0 (sto rfl rfl (sB (d' := .agg [.d (eS p0.Name), .slc 2 7 0 ((([] : List ApiColumn) ++ p0.Cols).length) none, .slc 3 1 0 ((([] : List Int) ++ p0.Primary).length) none, .slc 4 6 0 r2351.length none, .d (eI p0.Tree)]) ts26 rfl rfl rfl rfl rfl rfl rfl)) (snp (srp (s1 (far (k := 4) rfl fo26_4 ts3 rfl) (s0 (sto (b := .d (eI (100 : Int))) rfl rfl (sB (d' := .agg [.d (eS p0.Name), .slc 2 7 0 ((([] : List ApiColumn) ++ p0.Cols).length) none, .slc 3 1 0 ((([] : List Int) ++ p0.Primary).length) none, .slc 4 6 0 r2351.length none, .d (eI (100 : Int))]) ts3 rfl rfl rfl rfl rfl rfl rfl)) (snp ?_)))))))))
    refine srQ (sgQ 0 rfl (by intro j w hh; cases hh <;> decide) (s1 (bld rfl (bd36_ )) (SO.nil (sgQ 1 rfl (by intro j w hh; cases hh <;> decide) (s1 (bxo (k := 5) rfl rfl rfl) (SO.nil ?_))))))
    (refine plR (f := (eL 6 eApiEntry)) (z := ([] : List ApiEntry)) (k := 5) (σ := [.box (.agg [.d (eS p0.Name), .slc 2 7 0 ((([] : List ApiColumn) ++ p0.Cols).length) none, .slc 3 1 0 ((([] : List Int) ++ p0.Primary).length) none, .slc 4 6 0 r2351.length none, .d (eI (100 : Int))]), .box (.agg [.d (eS p0.Name), .slc 2 7 0 ((([] : List ApiColumn) ++ p0.Cols).length) none, .slc 3 1 0 ((([] : List Int) ++ p0.Primary).length) none, .slc 4 6 0 r2351.length none, .d (eI p0.Tree)]), .row 7 (List.map eApiColumn (([] : List ApiColumn) ++ p0.Cols)) true, .row 1 (List.map eI (([] : List Int) ++ p0.Primary)) true, .row 6 (List.map eApiIndex r2351) true]) (v := .d (.agg [.nils])) h0 rfl rfl rfl (AWs.cons (AW.nl _) AWs.nil) rfl rfl (fun b2352 h0 => ?_))
    refine sgQ 2 rfl (by intro j w hh; cases hh <;> decide) (s1 (bld rfl (bd38_0_1 (100 : Int) b2352)) (SO.nil (sgQ 3 rfl (by intro j w hh; cases hh <;> decide) (s1 (bsn (k := 5) (ds := List.map eGranarylaw19Tree [(Granarylaw19Tree.mk (100 : Int) b2352)]) (off := 0) (l' := [(Granarylaw19Tree.mk (100 : Int) b2352)].length) rfl un39 ei38 rfl rfl (by rfl) rfl rfl rfl) (SO.nil (sgQ 4 rfl (by intro j w hh; cases hh <;> decide) (sa rfl (SO.nil (SOp.nil ?_)))))))))
    refine SCp.seqC h0 (fun y => (⟨mk 152 [(1, .d ((eL 2 eFanBuilt) p1)), (2, .d ((eL 1 (eL 3 eApiValue)) p2)), (3, .ref 0 0 0), (7, .slc 1 2 0 y.2.1.length none)], [.box (.agg [.d (eS p0.Name), .slc 2 7 0 ((([] : List ApiColumn) ++ p0.Cols).length) none, .slc 3 1 0 ((([] : List Int) ++ p0.Primary).length) none, .slc 4 6 0 y.2.2.length none, .d (eI (100 : Int))]), .row 2 (List.map eGranarylaw19Tree y.2.1) true, .row 7 (List.map eApiColumn (([] : List ApiColumn) ++ p0.Cols)) true, .row 1 (List.map eI (([] : List Int) ++ p0.Primary)) true, .row 6 (List.map eApiIndex y.2.2) true]⟩, (plM (eL 6 eApiEntry)) y.1)) ?_ ?_
    ·intro κ h0
     refine srp (sa rfl (snp (SCp.blk (SCp.loopC h0 (fun y => (⟨mk 152 [(1, .d ((eL 2 eFanBuilt) p1)), (2, .d ((eL 1 (eL 3 eApiValue)) p2)), (3, .ref 0 0 0), (7, .slc 1 2 0 y.2.1.length none), (8, .d (eI y.2.2.1))], [.box (.agg [.d (eS p0.Name), .slc 2 7 0 ((([] : List ApiColumn) ++ p0.Cols).length) none, .slc 3 1 0 ((([] : List Int) ++ p0.Primary).length) none, .slc 4 6 0 y.2.2.2.length none, .d (eI (100 : Int))]), .row 2 (List.map eGranarylaw19Tree y.2.1) true, .row 7 (List.map eApiColumn (([] : List ApiColumn) ++ p0.Cols)) true, .row 1 (List.map eI (([] : List Int) ++ p0.Primary)) true, .row 6 (List.map eApiIndex y.2.2.2) true]⟩, (plM (eL 6 eApiEntry)) y.1)) (WkP.of (wc [0, 5, 2, 3, 4] [0, 5] (by kernel_rfl) rfl (by kernel_rfl)) rfl) ?_))))
     intro ρ
     rintro ⟨y2376, y2377, y2378, y2379⟩ h0
     refine sqp (srp (sm rfl (s1 (far (k := 3) rfl fo26_3 ts24 rfl) (s1 (lod rfl (ld_box ts24 ta24 rfl rfl)) (s1 (len rfl rfl rfl (len_slc un24)) (s1 (bi rfl rfl q_i64_lss) (snp (cBp h0 rfl (fun h0 => ?_) (fun h0 => ?_)))))))))
     ·obtain ⟨v2387, hv2387, h0⟩ := ob h0
      refine skp (sqp (SCp.blk (srp (s1 (far (k := 3) rfl fo26_3 ts24 rfl) (s1 (lod rfl (ld_box ts24 ta24 rfl rfl)) (sm rfl (sm rfl (s1 (bi rfl rfl q_i64_add) (s1 (iaz rfl rfl un24 ts42 (getI_lt hv2387)) ?_)))))))))
      refine s1 (far (k := 5) rfl fo42_5 ts3 rfl) (s0 (sto (b := .d (eI (w64 ((101 : Int) + y2378)))) rfl rfl (sF (f := eApiIndex) (v := (ApiIndex.mk v2387.Name v2387.Parts v2387.Extra v2387.Unique v2387.Ready (w64 ((101 : Int) + y2378)))) (ds := [(eI (w64 ((101 : Int) + y2378)))]) ts3 rfl rfl rfl rfl (getI_some hv2387).2 rfl rfl rfl rfl)) (snp (SCp.regionQ (sgQ 0 rfl (by intro j w hh; cases hh <;> decide) (sm rfl (SO.nil (sgQ 1 rfl (by intro j w hh; cases hh <;> decide) (sm rfl (SO.nil ?_)))))))))
      refine sgQ 2 rfl (by intro j w hh; cases hh <;> decide) (s1 (bi rfl rfl q_i64_add) (SO.nil (sgQ 3 rfl (by intro j w hh; cases hh <;> decide) (s1 (bld rfl (bd36_ )) (SO.nil (sgQ 4 rfl (by intro j w hh; cases hh <;> decide) (s1 (bxo (k := 5) rfl rfl rfl) (SO.nil ?_))))))))
      (refine plR (f := (eL 6 eApiEntry)) (z := ([] : List ApiEntry)) (k := 5) (σ := [.box (.agg [.d (eS p0.Name), .slc 2 7 0 ((([] : List ApiColumn) ++ p0.Cols).length) none, .slc 3 1 0 ((([] : List Int) ++ p0.Primary).length) none, .slc 4 6 0 y2379.length none, .d (eI (100 : Int))]), .row 2 (List.map eGranarylaw19Tree y2377) true, .row 7 (List.map eApiColumn (([] : List ApiColumn) ++ p0.Cols)) true, .row 1 (List.map eI (([] : List Int) ++ p0.Primary)) true, .row 6 (List.map eApiIndex (List.set y2379 y2378.toNat (ApiIndex.mk v2387.Name v2387.Parts v2387.Extra v2387.Unique v2387.Ready (w64 ((101 : Int) + y2378))))) true]) (v := .d (.agg [.nils])) h0 rfl rfl rfl (AWs.cons (AW.nl _) AWs.nil) rfl rfl (fun b2388 h0 => ?_))
      obtain ⟨hg2389, h0⟩ := gd h0
      refine sgQ 5 rfl (by intro j w hh; cases hh <;> decide) (s1 (bld rfl (bd38_0_1 (w64 ((101 : Int) + y2378)) b2388)) (SO.nil (sgQ 6 rfl (by intro j w hh; cases hh <;> decide) (s1 (bsn (k := 5) (ds := List.map eGranarylaw19Tree [(Granarylaw19Tree.mk (w64 ((101 : Int) + y2378)) b2388)]) (off := 0) (l' := [(Granarylaw19Tree.mk (w64 ((101 : Int) + y2378)) b2388)].length) rfl un39 ei38 rfl rfl (by rfl) rfl rfl rfl) (SO.nil (sgQ 7 rfl (by intro j w hh; cases hh <;> decide) (s1 (app rfl rfl rfl rfl bc39 (aF (f := eGranarylaw19Tree) (xs := y2377) (k := 6) rfl un39 ei38 rfl (el_full (xs := [(Granarylaw19Tree.mk (w64 ((101 : Int) + y2378)) b2388)]) rfl) hg2389 rfl)) (SO.nil (sgQ 8 rfl (by intro j w hh; cases hh <;> decide) ?_)))))))))
      refine sa rfl (SO.nil (SOp.nil ?_))
      change SCp _ _ _ _ _ _
      exact SCp.region (sm rfl (s1 (bi rfl rfl q_i64_add) (sa rfl (SO.nil (lfc h0 (Wk.trans (wq (e' := [(1, .d ((eL 2 eFanBuilt) p1)), (2, .d ((eL 1 (eL 3 eApiValue)) p2)), (3, .ref 0 0 0), (7, .slc 6 2 0 ((y2377 ++ [(Granarylaw19Tree.mk (w64 ((101 : Int) + y2378)) b2388)]).length) none), (8, .d (eI (w64 (y2378 + (1 : Int)))))]) rfl) (Wk.trans (Wk.boxE (id := 0) (y := .agg [.d (eS p0.Name), .slc 2 7 0 ((([] : List ApiColumn) ++ p0.Cols).length) none, .slc 3 1 0 ((([] : List Int) ++ p0.Primary).length) none, .slc 4 6 0 ((List.set y2379 y2378.toNat (ApiIndex.mk v2387.Name v2387.Parts v2387.Extra v2387.Unique v2387.Ready (w64 ((101 : Int) + y2378)))).length) none, .d (eI (100 : Int))]) (σ' := [.box (.agg [.d (eS p0.Name), .slc 2 7 0 ((([] : List ApiColumn) ++ p0.Cols).length) none, .slc 3 1 0 ((([] : List Int) ++ p0.Primary).length) none, .slc 4 6 0 ((List.set y2379 y2378.toNat (ApiIndex.mk v2387.Name v2387.Parts v2387.Extra v2387.Unique v2387.Ready (w64 ((101 : Int) + y2378)))).length) none, .d (eI (100 : Int))]), .dead, .row 7 (List.map eApiColumn (([] : List ApiColumn) ++ p0.Cols)) true, .row 1 (List.map eI (([] : List Int) ++ p0.Primary)) true, .row 6 (List.map eApiIndex (List.set y2379 y2378.toNat (ApiIndex.mk v2387.Name v2387.Parts v2387.Extra v2387.Unique v2387.Ready (w64 ((101 : Int) + y2378))))) true, .row 2 (List.map eGranarylaw19Tree [(Granarylaw19Tree.mk (w64 ((101 : Int) + y2378)) b2388)]) true, .row 2 (List.map eGranarylaw19Tree (y2377 ++ [(Granarylaw19Tree.mk (w64 ((101 : Int) + y2378)) b2388)])) true]) rfl (AWs.cons (AW.refl _) (AWs.cons (AW.refl _) (AWs.cons (AW.refl _) (AWs.cons (AW.slc rfl (by simp)) (AWs.cons (AW.refl _) AWs.nil))))) rfl) (wc [0, 6, 2, 3, 4] [0, 6] (by kernel_rfl) rfl (by kernel_rfl)))) rfl)))))
     ·exact SCp.exit (lfc h0 (wq rfl) rfl)
    ·rintro ⟨y2370, y2371, y2372⟩ h0
     refine srp (s1 (asg (v := .d .nils) rfl) (snp (SCp.seqB h0 (fun y => (⟨mk 152 [], []⟩, (plM (eL 6 eApiEntry)) y)) ?_ ?_)))
     ·intro u1_2951 h1 h0
      obtain ⟨u2_3269, h2, h1⟩ := ob h1
      refine srp (sa rfl (snp (SCp.blk (SCp.loopB h2 (fun y => (⟨mk 152 [(1, .d ((eL 2 eFanBuilt) p1)), (2, .d ((eL 1 (eL 3 eApiValue)) p2)), (3, .ref 0 0 0), (7, .slc 1 2 0 y2371.length none), (9, .slc 2 1 0 y.2.1.length none), (10, .d (eI y.2.2))], [.box (.agg [.d (eS p0.Name), .slc 3 7 0 ((([] : List ApiColumn) ++ p0.Cols).length) none, .slc 4 1 0 ((([] : List Int) ++ p0.Primary).length) none, .slc 5 6 0 y2372.length none, .d (eI (100 : Int))]), .row 2 (List.map eGranarylaw19Tree y2371) false, .row 1 (List.map (eL 3 eApiValue) y.2.1) true, .row 7 (List.map eApiColumn (([] : List ApiColumn) ++ p0.Cols)) false, .row 1 (List.map eI (([] : List Int) ++ p0.Primary)) false, .row 6 (List.map eApiIndex y2372) false]⟩, (plM (eL 6 eApiEntry)) y.1)) (WkP.of (Wk.trans (Wk.pushE (σ' := [.box (.agg [.d (eS p0.Name), .slc 2 7 0 ((([] : List ApiColumn) ++ p0.Cols).length) none, .slc 3 1 0 ((([] : List Int) ++ p0.Primary).length) none, .slc 4 6 0 y2372.length none, .d (eI (100 : Int))]), .row 2 (List.map eGranarylaw19Tree y2371) true, .row 7 (List.map eApiColumn (([] : List ApiColumn) ++ p0.Cols)) true, .row 1 (List.map eI (([] : List Int) ++ p0.Primary)) true, .row 6 (List.map eApiIndex y2372) true, .row 1 (List.map (eL 3 eApiValue) ([] : List (List ApiValue))) true]) (.row 1 [] true) (fun _ hh => by cases hh) rfl) (Wk.trans (Wk.env (e' := [(1, .d ((eL 2 eFanBuilt) p1)), (2, .d ((eL 1 (eL 3 eApiValue)) p2)), (3, .ref 0 0 0), (7, .slc 1 2 0 y2371.length none), (9, .slc 5 1 0 (([] : List (List ApiValue)).length) none), (10, .d (eI (0 : Int)))]) (EW.cons (AW.refl _) (EW.cons (AW.refl _) (EW.cons (AW.refl _) (EW.cons (AW.refl _) (EW.cons (AW.slcn _ _ _) (EW.cons (AW.refl _) EW.nil))))))) (Wk.trans (wq (e' := [(1, .d ((eL 2 eFanBuilt) p1)), (2, .d ((eL 1 (eL 3 eApiValue)) p2)), (3, .ref 0 0 0), (7, .slc 1 2 0 y2371.length none), (9, .slc 5 1 0 (([] : List (List ApiValue)).length) none), (10, .d (eI (0 : Int)))]) rfl) (Wk.trans (fro 1 rfl rfl) (Wk.trans (fro 2 rfl rfl) (Wk.trans (fro 3 rfl rfl) (Wk.trans (fro 4 rfl rfl) (wc [0, 1, 5, 2, 3, 4] [0, 1, 5] (by kernel_rfl) rfl (by kernel_rfl))))))))) rfl) ?_))))
      intro n3511
      rintro ⟨y3021, y3022, y3023⟩ w2_3268 h3 hv3
      refine sqp (SCp.seqP h3 (fun y => (⟨mk 152 [(1, .d ((eL 2 eFanBuilt) p1)), (2, .d ((eL 1 (eL 3 eApiValue)) p2)), (3, .ref 0 0 0), (7, .slc 1 2 0 y2371.length none), (9, .slc 2 1 0 y3022.length none), (10, .d (eI y3023)), (69, .d (eB y))], [.box (.agg [.d (eS p0.Name), .slc 3 7 0 ((([] : List ApiColumn) ++ p0.Cols).length) none, .slc 4 1 0 ((([] : List Int) ++ p0.Primary).length) none, .slc 5 6 0 y2372.length none, .d (eI (100 : Int))]), .row 2 (List.map eGranarylaw19Tree y2371) false, .row 1 (List.map (eL 3 eApiValue) y3022) true, .row 7 (List.map eApiColumn (([] : List ApiColumn) ++ p0.Cols)) false, .row 1 (List.map eI (([] : List Int) ++ p0.Primary)) false, .row 6 (List.map eApiIndex y2372) false]⟩, (plM (eL 6 eApiEntry)) y3021)) ?_ ?_)
      ·intro u4_3271 h4
       refine SCp.region (sm rfl (sm rfl (s1 (len rfl rfl rfl (len_lst un28)) (s1 (bi rfl rfl q_i64_lss) (sm rfl (sp h4 (fun h4 => ?_) (fun h4 => ?_)))))))
       ·have q := si h4; subst q
        exact gw rfl (mv rfl) (gw rfl (bi rfl rfl q_i64_lss) (s1 (pkt rfl rfl) (SO.nil (WkP.of (wq rfl) rfl))))
       ·have q := si h4; subst q
        exact kw rfl (kw rfl (s1 (pkf rfl rfl) (SO.nil (WkP.of (wq rfl) rfl))))
      ·rintro y3270 h3
       refine cBp h3 rfl (fun h3 => ?_) (fun h3 => ?_)
       ·refine skp (SCp.seqB h3 (fun y => (⟨mk 152 [(1, .d ((eL 2 eFanBuilt) p1)), (2, .d ((eL 1 (eL 3 eApiValue)) p2)), (3, .ref 0 0 0), (7, .slc 1 2 0 y2371.length none), (9, .slc 2 1 0 y.2.length none), (10, .d (eI y3023))], [.box (.agg [.d (eS p0.Name), .slc 3 7 0 ((([] : List ApiColumn) ++ p0.Cols).length) none, .slc 4 1 0 ((([] : List Int) ++ p0.Primary).length) none, .slc 5 6 0 y2372.length none, .d (eI (100 : Int))]), .row 2 (List.map eGranarylaw19Tree y2371) false, .row 1 (List.map (eL 3 eApiValue) y.2) true, .row 7 (List.map eApiColumn (([] : List ApiColumn) ++ p0.Cols)) false, .row 1 (List.map eI (([] : List Int) ++ p0.Primary)) false, .row 6 (List.map eApiIndex y2372) false]⟩, (plM (eL 6 eApiEntry)) y.1)) ?_ ?_)
        ·intro u4_3392 h4 h3
         obtain ⟨v3393, hv3393, h4⟩ := ob h4; obtain ⟨⟨r3395, r3396⟩, hq3394, h4⟩ := ob h4
         refine SCp.blk (srp (sm rfl (sm rfl (s1 (ial rfl rfl un28 ts43 (getI_some hv3393).1 (map_get (getI_some hv3393).2) rfl) (s1 (lod rfl (ld_rop ts43 ta43 rfl)) (sa rfl (snp (srp (s1 (lod (v := .agg [.d (eS p0.Name), .slc 3 7 0 ((([] : List ApiColumn) ++ p0.Cols).length) none, .slc 4 1 0 ((([] : List Int) ++ p0.Primary).length) none, .slc 5 6 0 y2372.length none, .d (eI (100 : Int))]) rfl (ld_box ts26 ta26 rfl rfl)) ?_)))))))))
         refine sm rfl (cq (args' := [.agg [.d (eS p0.Name), .slc 0 7 0 ((([] : List ApiColumn) ++ p0.Cols).length) none, .slc 1 1 0 ((([] : List Int) ++ p0.Primary).length) none, .slc 2 6 0 y2372.length none, .d (eI (100 : Int))], .d ((eL 3 eApiValue) v3393)]) (σc := [.row 7 (List.map eApiColumn (([] : List ApiColumn) ++ p0.Cols)) false, .row 1 (List.map eI (([] : List Int) ++ p0.Primary)) false, .row 6 (List.map eApiIndex y2372) false]) [3, 4, 5] [] (CallAt.frz (ArgF.frzw (y := .d (eApiTable (ApiTable.mk p0.Name (([] : List ApiColumn) ++ p0.Cols) (([] : List Int) ++ p0.Primary) y2372 (100 : Int)))) rfl (frzs_d rfl (frzs_slc (fF rfl rfl rfl) (frzs_slc (fF rfl rfl rfl) (frzs_slc (fF rfl rfl rfl) (frzs_d rfl frzs_nil))))) (AW.aggd rfl (AWs.cons (AW.refl _) (AWs.cons (AW.refl _) (AWs.cons (AW.refl _) (AWs.cons (AW.refl _) (AWs.cons (AW.refl _) AWs.nil)))))) (ArgF.keep (ArgF.nil _))) (fq [] [] (schema_Primary_ok (ApiTable.mk p0.Name (([] : List ApiColumn) ++ p0.Cols) (([] : List Int) ++ p0.Primary) y2372 (100 : Int)) v3393 _ hq3394) rfl rfl rfl rfl rfl rfl rfl rfl)) wf rfl rfl rfl cb9 rfl rfl rfl rfl rfl rfl rfl rfl (sm rfl (s1 (ext rfl rfl) (s1 (ext rfl rfl) (sa rfl (sa rfl (snp (sqp (srp ?_)))))))))
         refine sm rfl (s1 (bi rfl rfl q_i64_neq) (snp (cBp h4 rfl (fun h4 => ?_) (fun h4 => ?_))))
         ·have q := si h4; subst q
          exact SCp.exit (lfp (wq rfl) rfl)
         ·refine skp (srp (sa rfl (snp (SCp.seqP h4 (fun y => (⟨mk 152 [(1, .d ((eL 2 eFanBuilt) p1)), (2, .d ((eL 1 (eL 3 eApiValue)) p2)), (3, .ref 0 0 0), (7, .slc 1 2 0 y2371.length none), (9, .slc 2 1 0 y3022.length none), (10, .d (eI y3023)), (11, .d ((eL 3 eApiValue) v3393)), (14, .d (eI y))], [.box (.agg [.d (eS p0.Name), .slc 3 7 0 ((([] : List ApiColumn) ++ p0.Cols).length) none, .slc 4 1 0 ((([] : List Int) ++ p0.Primary).length) none, .slc 5 6 0 y2372.length none, .d (eI (100 : Int))]), .row 2 (List.map eGranarylaw19Tree y2371) false, .row 1 (List.map (eL 3 eApiValue) y3022) true, .row 7 (List.map eApiColumn (([] : List ApiColumn) ++ p0.Cols)) false, .row 1 (List.map eI (([] : List Int) ++ p0.Primary)) false, .row 6 (List.map eApiIndex y2372) false]⟩, (plM (eL 6 eApiEntry)) y3021)) ?_ ?_))))
          ·intro u5_3435 h5
           obtain ⟨u6_3461, h6, h5⟩ := ob h5
           refine srp (sa rfl (snp (SCp.blk (SCp.loopB h6 (fun y => (⟨mk 152 [(1, .d ((eL 2 eFanBuilt) p1)), (2, .d ((eL 1 (eL 3 eApiValue)) p2)), (3, .ref 0 0 0), (7, .slc 1 2 0 y2371.length none), (9, .slc 2 1 0 y3022.length none), (10, .d (eI y3023)), (11, .d ((eL 3 eApiValue) v3393)), (12, .d (eS r3395)), (14, .d (eI y.1)), (15, .d (eI y.2))], [.box (.agg [.d (eS p0.Name), .slc 3 7 0 ((([] : List ApiColumn) ++ p0.Cols).length) none, .slc 4 1 0 ((([] : List Int) ++ p0.Primary).length) none, .slc 5 6 0 y2372.length none, .d (eI (100 : Int))]), .row 2 (List.map eGranarylaw19Tree y2371) false, .row 1 (List.map (eL 3 eApiValue) y3022) true, .row 7 (List.map eApiColumn (([] : List ApiColumn) ++ p0.Cols)) false, .row 1 (List.map eI (([] : List Int) ++ p0.Primary)) false, .row 6 (List.map eApiIndex y2372) false]⟩, (plM (eL 6 eApiEntry)) y3021)) (WkP.of (wq rfl) rfl) ?_))))
           intro n3472
           rintro ⟨y3446, y3447⟩ w6_3460 h7 hv7
           refine sqp (srp (sm rfl (sm rfl (s1 (len rfl rfl rfl (len_slc un28)) (s1 (bi rfl rfl q_i64_lss) (snp (cBp h7 rfl (fun h7 => ?_) (fun h7 => ?_))))))))
           ·refine skp (SCp.seqP h7 (fun y => (⟨mk 152 [(1, .d ((eL 2 eFanBuilt) p1)), (2, .d ((eL 1 (eL 3 eApiValue)) p2)), (3, .ref 0 0 0), (7, .slc 1 2 0 y2371.length none), (9, .slc 2 1 0 y3022.length none), (10, .d (eI y3023)), (11, .d ((eL 3 eApiValue) v3393)), (12, .d (eS r3395)), (14, .d (eI y)), (15, .d (eI y3447))], [.box (.agg [.d (eS p0.Name), .slc 3 7 0 ((([] : List ApiColumn) ++ p0.Cols).length) none, .slc 4 1 0 ((([] : List Int) ++ p0.Primary).length) none, .slc 5 6 0 y2372.length none, .d (eI (100 : Int))]), .row 2 (List.map eGranarylaw19Tree y2371) false, .row 1 (List.map (eL 3 eApiValue) y3022) true, .row 7 (List.map eApiColumn (([] : List ApiColumn) ++ p0.Cols)) false, .row 1 (List.map eI (([] : List Int) ++ p0.Primary)) false, .row 6 (List.map eApiIndex y2372) false]⟩, (plM (eL 6 eApiEntry)) y3021)) ?_ ?_)
            ·intro u8_3467 h8
             obtain ⟨v3468, hv3468, h8⟩ := ob h8; obtain ⟨⟨r3470, r3471⟩, hq3469, h8⟩ := ob h8
             refine SCp.blk (sdp (by kernel_rfl) (t1 ([0], false) (lod (v := .agg [.d (eS p0.Name), .slc 3 7 0 ((([] : List ApiColumn) ++ p0.Cols).length) none, .slc 4 1 0 ((([] : List Int) ++ p0.Primary).length) none, .slc 5 6 0 y2372.length none, .d (eI (100 : Int))]) rfl (ld_box ts26 ta26 rfl rfl)) rfl (t1 ([], false) (mv rfl) rfl (t1 ([], false) (mv rfl) rfl (t1 ([], false) (iaz rfl rfl un28 ts43 (getI_lt hv3468)) rfl (t1 ([2], false) (lod rfl (ld_row ts43 ta43 rfl (map_get (getI_some hv3468).2) rfl)) rfl (tqr (args' := [.agg [.d (eS p0.Name), .slc 0 7 0 ((([] : List ApiColumn) ++ p0.Cols).length) none, .slc 1 1 0 ((([] : List Int) ++ p0.Primary).length) none, .slc 2 6 0 y2372.length none, .d (eI (100 : Int))], .d ((eL 3 eApiValue) v3468)]) (σc := [.row 7 (List.map eApiColumn (([] : List ApiColumn) ++ p0.Cols)) false, .row 1 (List.map eI (([] : List Int) ++ p0.Primary)) false, .row 6 (List.map eApiIndex y2372) false]) [3, 4, 5] [3, 4, 5] (CallAt.frz (ArgF.frzw (y := .d (eApiTable (ApiTable.mk p0.Name (([] : List ApiColumn) ++ p0.Cols) (([] : List Int) ++ p0.Primary) y2372 (100 : Int)))) rfl (frzs_d rfl (frzs_slc (fF rfl rfl rfl) (frzs_slc (fF rfl rfl rfl) (frzs_slc (fF rfl rfl rfl) (frzs_d rfl frzs_nil))))) (AW.aggd rfl (AWs.cons (AW.refl _) (AWs.cons (AW.refl _) (AWs.cons (AW.refl _) (AWs.cons (AW.refl _) (AWs.cons (AW.refl _) AWs.nil)))))) (ArgF.keep (ArgF.nil _))) (fq [] [] (schema_Primary_ok (ApiTable.mk p0.Name (([] : List ApiColumn) ++ p0.Cols) (([] : List Int) ++ p0.Primary) y2372 (100 : Int)) v3468 _ hq3469) rfl rfl rfl rfl rfl rfl rfl rfl)) wf rfl rfl rfl cb9 rfl rfl rfl rfl rfl rfl rfl rfl ?_)))))))
             refine t1 ([], false) (mv rfl) rfl (t1 ([], false) (ext rfl rfl) rfl (t1 ([], false) (ext rfl rfl) rfl (t1 ([], false) (asg rfl) rfl (t1 ([], false) (asg rfl) rfl (tnp (by decide +kernel) (srp (sm rfl (sm rfl (s1 (bi rfl rfl q_str_eql) ?_)))))))))
             refine snp (cBp h8 rfl (fun h8 => ?_) (fun h8 => ?_))
             ·have q := si h8; subst q
              exact SCp.region (sm rfl (sa rfl (SO.nil (WkP.of (wq rfl) rfl))))
             ·have q := si h8; subst q
              exact SCp.skip (WkP.of (wq rfl) rfl)
            ·rintro y3466 h7
             have q := si h7; subst q
             exact SCp.region (sm rfl (s1 (bi rfl rfl q_i64_add) (sa rfl (SO.nil (lfp (wq rfl) rfl)))))
           ·have q := si h7; subst q; have q : _ = _ := hv7; subst q; have q := si h5; subst q
            exact SCp.exit (WkP.of (wq rfl) rfl)
          ·rintro y3434 h4
           refine srp (s1 (asg (v := .d .nils) rfl) (snp (SCp.seqP h4 (fun y => (⟨mk 152 [(1, .d ((eL 2 eFanBuilt) p1)), (2, .d ((eL 1 (eL 3 eApiValue)) p2)), (3, .ref 0 0 0), (7, .slc 1 2 0 y2371.length none), (9, .slc 2 1 0 y.1.length none), (10, .d (eI y3023)), (11, .d ((eL 3 eApiValue) y.2.1)), (18, .d ((eL 3 eApiValue) y.2.2))], [.box (.agg [.d (eS p0.Name), .slc 3 7 0 ((([] : List ApiColumn) ++ p0.Cols).length) none, .slc 4 1 0 ((([] : List Int) ++ p0.Primary).length) none, .slc 5 6 0 y2372.length none, .d (eI (100 : Int))]), .row 2 (List.map eGranarylaw19Tree y2371) false, .row 1 (List.map (eL 3 eApiValue) y.1) true, .row 7 (List.map eApiColumn (([] : List ApiColumn) ++ p0.Cols)) false, .row 1 (List.map eI (([] : List Int) ++ p0.Primary)) false, .row 6 (List.map eApiIndex y2372) false]⟩, (plM (eL 6 eApiEntry)) y3021)) ?_ ?_)))
           ·intro u5_3483 h5
            refine srp (sm rfl (s1 (bi rfl rfl q_i64_geq) (snp (cBp h5 rfl (fun h5 => ?_) (fun h5 => ?_)))))
            ·obtain ⟨v3484, hv3484, h5⟩ := ob h5; obtain ⟨hg3485, h5⟩ := gd h5; obtain ⟨hg3486, h5⟩ := gd h5; obtain ⟨hg3487, h5⟩ := gd h5; obtain ⟨hg3488, h5⟩ := gd h5; obtain ⟨hg3489, h5⟩ := gd h5; obtain ⟨hg3490, h5⟩ := gd h5
             refine srp (sm rfl (sm rfl (s1 (iaz rfl rfl un28 ts43 (getI_lt hv3484)) (s1 (lod rfl (ld_row ts43 ta43 rfl (map_get (getI_some hv3484).2) rfl)) (sa rfl (snp (sdp (by kernel_rfl) (t1 ([6], true) (bsn (k := 6) (ds := List.map (eL 3 eApiValue) ([] : List (List ApiValue))) (off := 0) (l' := ([] : List (List ApiValue)).length) rfl un28 ei43 rfl rfl rfl rfl rfl rfl) rfl (t1 ([], false) (mv rfl) rfl ?_)))))))))
             refine t1 ([], false) (mv rfl) rfl (t1 ([], false) (slo rfl rfl rfl rfl (sl_slc_hi un28 ts43 hg3485)) rfl (t1 ([6, 2, 7], true) (app rfl rfl rfl rfl bc28 (aF (f := (eL 3 eApiValue)) (xs := ([] : List (List ApiValue))) (k := 7) rfl un28 ei43 rfl (el_slc (xs := y3022) rfl hg3486) hg3487 rfl)) rfl (t1 ([], false) (mv rfl) rfl (t1 ([], false) (mv rfl) rfl (t1 ([], false) (bi rfl rfl q_i64_add) rfl (t1 ([], false) (slo rfl rfl rfl rfl (sl_slc_lo un28 ts43 hg3488)) rfl (t1 ([7, 2, 8], true) (app rfl rfl rfl rfl bc28 (aF (f := (eL 3 eApiValue)) (xs := (([] : List (List ApiValue)) ++ (List.take y3434.toNat (List.drop 0 y3022)))) (k := 8) rfl un28 ei43 rfl (el_slc (xs := y3022) rfl hg3489) hg3490 rfl)) rfl (t1 ([], false) (asg rfl) rfl (tnp (by decide +kernel) ?_)))))))))
             refine srp (sm rfl (s1 (bi (v := .d (eI (Int.tmod y3023 (3 : Int)))) rfl rfl (fun X Y => b_i64_rem _ X Y y3023 (3 : Int) (by decide))) (s1 (bi rfl rfl q_i64_eql) (snp (cBp h5 rfl (fun h5 => ?_) (fun h5 => ?_))))))
             ·have q := si h5; subst q
              exact SCp.region (s1 (asg (v := .d .nils) rfl) (SO.nil (WkP.of (Wk.trans (Wk.env (e' := [(1, .d ((eL 2 eFanBuilt) p1)), (2, .d ((eL 1 (eL 3 eApiValue)) p2)), (3, .ref 0 0 0), (7, .slc 1 2 0 y2371.length none), (9, .slc 8 1 0 (((([] : List (List ApiValue)) ++ (List.take y3434.toNat (List.drop 0 y3022))) ++ (List.take (y3022.length - (w64 (y3434 + (1 : Int))).toNat) (List.drop (0 + (w64 (y3434 + (1 : Int))).toNat) y3022))).length) none), (10, .d (eI y3023)), (11, .d ((eL 3 eApiValue) ([] : List ApiValue))), (18, .d ((eL 3 eApiValue) v3484))]) (EW.cons (AW.refl _) (EW.cons (AW.refl _) (EW.cons (AW.refl _) (EW.cons (AW.refl _) (EW.cons (AW.refl _) (EW.cons (AW.refl _) (EW.cons (AW.nl _) (EW.cons (AW.refl _) EW.nil))))))))) (wc [0, 1, 8, 3, 4, 5] [0, 1, 8] (by kernel_rfl) rfl (by kernel_rfl))) rfl)))
             ·have q := si h5; subst q
              exact SCp.skip (WkP.of (wc [0, 1, 8, 3, 4, 5] [0, 1, 8] (by kernel_rfl) rfl (by kernel_rfl)) rfl)
            ·have q := si h5; subst q
             exact SCp.skip (WkP.of (Wk.env (EW.cons (AW.refl _) (EW.cons (AW.refl _) (EW.cons (AW.refl _) (EW.cons (AW.refl _) (EW.cons (AW.refl _) (EW.cons (AW.refl _) (EW.cons (AW.refl _) (EW.cons (AW.nl _) EW.nil))))))))) rfl)
           ·rintro ⟨y3480, y3481, y3482⟩ h4
            obtain ⟨⟨r3492, r3493, r3494, r3495⟩, hq3491, h4⟩ := ob h4
            refine srp (s1 (lod (v := .agg [.d (eS p0.Name), .slc 3 7 0 ((([] : List ApiColumn) ++ p0.Cols).length) none, .slc 4 1 0 ((([] : List Int) ++ p0.Primary).length) none, .slc 5 6 0 y2372.length none, .d (eI (100 : Int))]) rfl (ld_box ts26 ta26 rfl rfl)) (sm rfl (sm rfl (sm rfl (cq (args' := [.agg [.d (eS p0.Name), .slc 0 7 0 ((([] : List ApiColumn) ++ p0.Cols).length) none, .slc 1 1 0 ((([] : List Int) ++ p0.Primary).length) none, .slc 2 6 0 y2372.length none, .d (eI (100 : Int))], .d ((eL 2 eFanBuilt) p1), .d ((eL 3 eApiValue) y3482), .d ((eL 3 eApiValue) y3481)]) (σc := [.row 7 (List.map eApiColumn (([] : List ApiColumn) ++ p0.Cols)) false, .row 1 (List.map eI (([] : List Int) ++ p0.Primary)) false, .row 6 (List.map eApiIndex y2372) false]) [3, 4, 5] [6, 7, 8, 9] (CallAt.frz (ArgF.frzw (y := .d (eApiTable (ApiTable.mk p0.Name (([] : List ApiColumn) ++ p0.Cols) (([] : List Int) ++ p0.Primary) y2372 (100 : Int)))) rfl (frzs_d rfl (frzs_slc (fF rfl rfl rfl) (frzs_slc (fF rfl rfl rfl) (frzs_slc (fF rfl rfl rfl) (frzs_d rfl frzs_nil))))) (AW.aggd rfl (AWs.cons (AW.refl _) (AWs.cons (AW.refl _) (AWs.cons (AW.refl _) (AWs.cons (AW.refl _) (AWs.cons (AW.refl _) AWs.nil)))))) (ArgF.keep (ArgF.keep (ArgF.keep (ArgF.nil _))))) (fq [] [3, 4, 5, 6] (fan_Change_ok (ApiTable.mk p0.Name (([] : List ApiColumn) ++ p0.Cols) (([] : List Int) ++ p0.Primary) y2372 (100 : Int)) p1 y3482 y3481 _ hq3491) rfl rfl rfl rfl rfl rfl rfl rfl)) wf rfl rfl rfl cb10 rfl rfl rfl rfl rfl rfl rfl rfl ?_)))))
            refine sm rfl (s1 (ext rfl rfl) (s1 (ext rfl rfl) (s1 (alo (k := 10) zo50 rfl) (s0 (sto rfl rfl (sB (d' := .agg [.slc 7 9 0 r3493.length none, .slc 8 5 0 r3494.length none, .slc 9 4 0 r3495.length none]) ts50 rfl rfl rfl rfl rfl rfl rfl)) (sa rfl (snp (sqp (SCp.seqP h4 (fun y => (⟨mk 152 [(1, .d ((eL 2 eFanBuilt) p1)), (2, .d ((eL 1 (eL 3 eApiValue)) p2)), (3, .ref 0 0 0), (7, .slc 1 2 0 y2371.length none), (9, .slc 2 1 0 y3480.length none), (10, .d (eI y3023)), (11, .d ((eL 3 eApiValue) y3481)), (138, .d (eB y.2))], [.box (.agg [.d (eS p0.Name), .slc 3 7 0 ((([] : List ApiColumn) ++ p0.Cols).length) none, .slc 4 1 0 ((([] : List Int) ++ p0.Primary).length) none, .slc 5 6 0 y2372.length none, .d (eI (100 : Int))]), .row 2 (List.map eGranarylaw19Tree y2371) false, .row 1 (List.map (eL 3 eApiValue) y3480) true, .row 7 (List.map eApiColumn (([] : List ApiColumn) ++ p0.Cols)) false, .row 1 (List.map eI (([] : List Int) ++ p0.Primary)) false, .row 6 (List.map eApiIndex y2372) false]⟩, (plM (eL 6 eApiEntry)) y.1)) ?_ ?_))))))))
            ·intro u5_3501 h5
             refine SCp.regionQ (sgQ 0 rfl (by intro j w hh; cases hh <;> decide) (sm rfl (SO.nil (sgQ 1 rfl (by intro j w hh; cases hh <;> decide) (s1 (bi rfl rfl q_i64_neq) (SO.nil (sgQ 2 rfl (by intro j w hh; cases hh <;> decide) (sm rfl (SO.nil ?_)))))))))
             refine spp h5 (fun h5 => ?_) (fun h5 => ?_)
             ·have q := si h5; subst q
              refine sgQ 3 rfl (by intro j w hh; cases hh <;> decide) (kw rfl (SO.nil (sgQ 4 rfl (by intro j w hh; cases hh <;> decide) (kw rfl (SO.nil (sgQ 5 rfl (by intro j w hh; cases hh <;> decide) (kw rfl (SO.nil (sgQ 6 rfl (by intro j w hh; cases hh <;> decide) ?_)))))))))
              exact kw rfl (SO.nil (sgQ 7 rfl (by intro j w hh; cases hh <;> decide) (kw rfl (SO.nil (sgQ 8 rfl (by intro j w hh; cases hh <;> decide) (s1 (pkt rfl rfl) (SO.nil (SOp.nil (WkP.of (wc [0, 1, 2, 3, 4, 5] [0, 1, 2] (by kernel_rfl) rfl (by kernel_rfl)) rfl)))))))))
             ·obtain ⟨⟨r3503, r3504⟩, hq3502, h5⟩ := ob h5; have q := si h5; subst q
              refine sgQ 3 rfl (by intro j w hh; cases hh <;> decide) (gw rfl (mv rfl) (SO.nil (sgQ 4 rfl (by intro j w hh; cases hh <;> decide) (gw rfl (far (k := 0) rfl fo50_0 ts46 rfl) (SO.nil (sgQ 5 rfl (by intro j w hh; cases hh <;> decide) (gw rfl (lod rfl (ld_box ts46 ta46 rfl rfl)) (SO.nil (SOp.wk (Wk.frz (i := 133) (x := .slc 1 2 0 y2371.length none) rfl rfl (fF rfl rfl rfl)) ?_)))))))))
              exact SOp.wk (Wk.frz (i := 135) (x := .slc 7 9 0 r3493.length none) rfl rfl (fF rfl rfl rfl)) (pcQ (law19_run_ok y2371 r3493 y3021 _ hq3502) (ww rfl) rfl rfl rfl cb11 rfl rfl id (sgQ 7 rfl (by intro j w hh; cases hh <;> decide) (gw rfl (nt rfl) (SO.nil (sgQ 8 rfl (by intro j w hh; cases hh <;> decide) (s1 (pkf rfl rfl) (SO.nil (SOp.nil (WkP.of (wc [0, 1, 2, 3, 4, 5] [0, 1, 2] (by kernel_rfl) rfl (by kernel_rfl)) rfl)))))))))
            ·rintro ⟨y3499, y3500⟩ h4
             refine cBp h4 rfl (fun h4 => ?_) (fun h4 => ?_)
             ·have q := si h4; subst q; have q := si h3; subst q; have q : _ = _ := hv3; subst q; have q := si h1; subst q; have q := si h0; subst q
              exact srp (sa rfl (snp (SCp.ret (finRr (wc (e' := [(6, .d (eB false))]) [] [] (by kernel_rfl) rfl (by kernel_rfl)) (lresT rfl lresN) rfl))))
             ·refine skp (SCp.seqP h4 (fun y => (⟨mk 152 [(1, .d ((eL 2 eFanBuilt) p1)), (2, .d ((eL 1 (eL 3 eApiValue)) p2)), (3, .ref 0 0 0), (7, .slc 1 2 0 y2371.length none), (9, .slc 2 1 0 y.length none), (10, .d (eI y3023))], [.box (.agg [.d (eS p0.Name), .slc 3 7 0 ((([] : List ApiColumn) ++ p0.Cols).length) none, .slc 4 1 0 ((([] : List Int) ++ p0.Primary).length) none, .slc 5 6 0 y2372.length none, .d (eI (100 : Int))]), .row 2 (List.map eGranarylaw19Tree y2371) false, .row 1 (List.map (eL 3 eApiValue) y) true, .row 7 (List.map eApiColumn (([] : List ApiColumn) ++ p0.Cols)) false, .row 1 (List.map eI (([] : List Int) ++ p0.Primary)) false, .row 6 (List.map eApiIndex y2372) false]⟩, (plM (eL 6 eApiEntry)) y3499)) ?_ ?_)
              ·intro u5_3507 h5
               refine srp (sm rfl (s1 (len rfl rfl rfl (len_lst un43)) (s1 (bi rfl rfl q_i64_gtr) (snp (cBp h5 rfl (fun h5 => ?_) (fun h5 => ?_))))))
               ·obtain ⟨hg3508, h5⟩ := gd h5; have q := si h5; subst q
                exact SCp.region (sm rfl (sm rfl (s1 (bsn (k := 6) (ds := List.map (eL 3 eApiValue) [y3481]) (off := 0) (l' := [y3481].length) rfl un28 ei43 rfl rfl (by rfl) rfl rfl rfl) (s1 (app rfl rfl rfl rfl bc28 (aF (f := (eL 3 eApiValue)) (xs := y3480) (k := 7) rfl un28 ei43 rfl (el_full (xs := [y3481]) rfl) hg3508 rfl)) (sa rfl (SO.nil (WkP.of (wc [0, 1, 7, 3, 4, 5] [0, 1, 7] (by kernel_rfl) rfl (by kernel_rfl)) rfl)))))))
               ·have q := si h5; subst q
                exact SCp.skip (WkP.of (wq rfl) rfl)
              ·rintro y3506 h4
               obtain ⟨r3510, hq3509, h4⟩ := ob h4
               refine srQ (sgQ 0 rfl (by intro j w hh; cases hh <;> decide) (sm rfl (SO.nil (sgQ 1 rfl (by intro j w hh; cases hh <;> decide) (s1 (lod (v := .agg [.d (eS p0.Name), .slc 3 7 0 ((([] : List ApiColumn) ++ p0.Cols).length) none, .slc 4 1 0 ((([] : List Int) ++ p0.Primary).length) none, .slc 5 6 0 y2372.length none, .d (eI (100 : Int))]) rfl (ld_box ts26 ta26 rfl rfl)) (SO.nil (sgQ 2 rfl (by intro j w hh; cases hh <;> decide) (sm rfl (SO.nil ?_)))))))))
               refine sgQ 3 rfl (by intro j w hh; cases hh <;> decide) (sm rfl (SO.nil (prQ (args := [.slc 1 2 0 y2371.length none, .agg [.d (eS p0.Name), .slc 3 7 0 ((([] : List ApiColumn) ++ p0.Cols).length) none, .slc 4 1 0 ((([] : List Int) ++ p0.Primary).length) none, .slc 5 6 0 y2372.length none, .d (eI (100 : Int))], .d ((eL 2 eFanBuilt) p1), .slc 2 1 0 y3506.length none]) (law19_holds_ok y2371 (ApiTable.mk p0.Name (([] : List ApiColumn) ++ p0.Cols) (([] : List Int) ++ p0.Primary) y2372 (100 : Int)) p1 y3506 y3499 _ hq3509) (ArgF.frz (fF rfl rfl rfl) (ArgF.frzw (y := .d (eApiTable (ApiTable.mk p0.Name (([] : List ApiColumn) ++ p0.Cols) (([] : List Int) ++ p0.Primary) y2372 (100 : Int)))) rfl (frzs_d rfl (frzs_slc (fF rfl rfl rfl) (frzs_slc (fF rfl rfl rfl) (frzs_slc (fF rfl rfl rfl) (frzs_d rfl frzs_nil))))) (AW.aggd rfl (AWs.cons (AW.refl _) (AWs.cons (AW.refl _) (AWs.cons (AW.refl _) (AWs.cons (AW.refl _) (AWs.cons (AW.refl _) AWs.nil)))))) (ArgF.keep (ArgF.frz (fF rfl rfl rfl) (ArgF.nil _))))) wf rfl rfl rfl cb12 rfl (sgQ 5 rfl (by intro j w hh; cases hh <;> decide) (s1 (nt rfl) (SO.nil (SOp.nil (cBp h4 rfl (fun h4 => ?_) (fun h4 => ?_)))))))))
               ·have q := si h4; subst q; have q := si h3; subst q; have q : _ = _ := hv3; subst q; have q := si h1; subst q; have q := si h0; subst q
                exact srp (sa rfl (snp (SCp.ret (finRr (wc (e' := [(6, .d (eB false))]) [] [] (by kernel_rfl) rfl (by kernel_rfl)) (lresT rfl lresN) rfl))))
               ·have q := si h4; subst q
                exact SCp.skip (lfp (wq rfl) rfl)
        ·rintro ⟨y3390, y3391⟩ h3
         have q := si h3; subst q
         exact SCp.region (sm rfl (s1 (bi rfl rfl q_i64_add) (sa rfl (SO.nil (lfp (wq rfl) rfl)))))
       ·have q := si h3; subst q; have q : _ = _ := hv3; subst q; have q := si h1; subst q
        exact SCp.exit (lfp (wc [] [] (by kernel_rfl) rfl (by kernel_rfl)) rfl)
     ·rintro y2950 h0
      have q := si h0; subst q
      exact srp (sa rfl (snp (SCp.ret (finRr (Wk.refl _) (lresT rfl lresN) rfl))))
end Lv
