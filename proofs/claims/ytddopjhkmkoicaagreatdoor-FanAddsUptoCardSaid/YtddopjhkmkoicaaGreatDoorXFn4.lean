/- Part of the proof of a law: functions and their walks. -/
import Derived.Test.YtddopjhkmkoicaaGreatDoorXFn3
namespace Lv
open Go Go.Proofs
set_option linter.unusedVariables false
set_option linter.unusedSimpArgs false
set_option linter.unusedSectionVars false
set_option maxRecDepth 100000
variable [BaseTab] [TabOk]
noncomputable def ref19_Add (p0 : ApiTable) (p1 : List ApiValue) (p2 : Int) (p3 : UInt64) : Option (Int × (List Granaryref14Op) × (List ApiLock)) :=
 Option.bind (ref08_Fits p0.Cols p1) fun r89 =>
 bif (r89 != (0 : Int)) then
 some (r89, ([] : List Granaryref14Op), ([] : List ApiLock))
 else
 Option.bind (α := Bool)
 (bif (decide (p2 < (0 : Int))) then
 some true
 else
 some (decide (p2 ≥ (p1.length : Int))))
 fun y91 =>
 bif y91 then
 some ((1 : Int), ([] : List Granaryref14Op), ([] : List ApiLock))
 else
 Option.bind (α := Bool)
 (Option.bind (getI p1 p2) fun v97 =>
 bif (v97.Kind != (1 : Int)) then
 Option.bind (getI p1 p2) fun v98 =>
 some (v98.Kind != (2 : Int))
 else
 some false)
 fun y95 =>
 bif y95 then
 some ((8 : Int), ([] : List Granaryref14Op), ([] : List ApiLock))
 else
 Option.bind (ref17_Has p0.Primary p2) fun r99 =>
 Option.bind (α := Bool)
 (Option.bind (α := Bool)
 (loop (Y := Bool × Int) (W := Bool) (fun (y142, y143) =>
 bif (decide (y143 < (p0.Indexes.length : Int))) then
 bif y142 then
 some (Sum.inl (true, (w64 (y143 + (1 : Int)))))
 else
 Option.bind (getI p0.Indexes y143) fun v156 =>
 Option.bind (ref17_Cols v156.Parts) fun r157 =>
 Option.bind (ref17_Has r157 p2) fun r159 =>
 bif r159 then
 some (Sum.inl (true, (w64 (y143 + (1 : Int)))))
 else
 Option.bind (getI p0.Indexes y143) fun v161 =>
 Option.bind (ref17_Has v161.Extra p2) fun r162 =>
 some (Sum.inl (r162, (w64 (y143 + (1 : Int)))))
 else
 some (Sum.inr y142)) (r99, (0 : Int)))
 (fun e => some e))
 fun y132 =>
 bif y132 then
 some ((11 : Int), ([] : List Granaryref14Op), ([] : List ApiLock))
 else
 Option.bind (ref08_Bytes p1) fun r165 =>
 Option.bind (ref08_Place p0.Cols r165 p2) fun (r167, r168) =>
 Option.bind (ref17_Primary p0 p1) fun r170 =>
 Option.bind (ref19_Work_own p0.Tree r170) fun _ =>
 bif decide ([(Granaryref14Op.mk (1 : Int) p0.Tree (ApiMsg.mk (0 : UInt64) (3 : Int) r170 (0 : UInt64) ([] : List UInt8) r167 p3))].length * 88 ≤ room) then
 some ((0 : Int), [(Granaryref14Op.mk (1 : Int) p0.Tree (ApiMsg.mk (0 : UInt64) (3 : Int) r170 (0 : UInt64) ([] : List UInt8) r167 p3))], [(ApiLock.mk p0.Tree (ApiSpan.mk r170 (r170 ++ ([0] : List UInt8)) false) true)])
 else none
theorem ref19_Add_ok (p0 : ApiTable) (p1 : List ApiValue) (p2 : Int) (p3 : UInt64) (r : Int × (List Granaryref14Op) × (List ApiLock)) (h0 : ref19_Add p0 p1 p2 p3 = some r) : CallAt Tryz.prog 16 [.d (eApiTable p0), .d ((eL 3 eApiValue) p1), .d (eI p2), .d (eU64 p3)] [] (.tuple [.agg [.slc 1 9 0 r.2.1.length none, .slc 2 5 0 r.2.2.length none, .d .nils], .d (eI r.1)]) [.box (.agg [.slc 1 9 0 r.2.1.length none, .slc 2 5 0 r.2.2.length none, .d .nils]), .row 9 (List.map eGranaryref14Op r.2.1) true, .row 5 (List.map eApiLock r.2.2) true] := by
 unfold ref19_Add at h0
 refine fn0 [0, 1, 2, 3] Tryz.func16 rfl rfl rfl rfl rfl ?_
 obtain ⟨r89, hq90, h0⟩ := ob h0
 refine sr (s1 (bxo (k := 0) rfl rfl rfl) (s1 (alo (k := 1) zo46 rfl) (sa rfl (sn (sr (s1 (far (k := 1) rfl fo26_1 ts22 rfl) (s1 (lod rfl (ld_box ts22 ta22 rfl rfl)) (sm rfl (c0 (ref08_Fits_ok p0.Cols p1 _ hq90) wf rfl rfl rfl cb36 rfl (fun _ => rfl) (fun _ => rfl) ?_)))))))))
 refine sa rfl (sn (sq (sr (sm rfl (s1 (bi rfl rfl q_i64_neq) (sn (cB h0 rfl (fun h0 => ?_) (fun h0 => ?_))))))))
 ·have q := si h0; subst q
  exact sr (s1 (bld rfl (bd46_ )) (sm rfl (s0 (sto rfl rfl (sB (d' := .d (.agg [.nils, .nils, .nils])) ts46 rfl rfl rfl rfl rfl rfl rfl)) (sa rfl (sn (SC.ret (finR (Wk.trans (Wk.pushE (σ' := [.box (.d (eApiTable p0)), .box (.d (.agg [.nils, .nils, .nils])), .row 9 (List.map eGranaryref14Op ([] : List Granaryref14Op)) true]) (.row 9 [] true) (fun _ hh => by cases hh) rfl) (Wk.trans (Wk.boxE (id := 1) (y := .agg [.slc 2 9 0 (([] : List Granaryref14Op).length) none, .d .nils, .d .nils]) (σ' := [.box (.d (eApiTable p0)), .box (.agg [.slc 2 9 0 (([] : List Granaryref14Op).length) none, .d .nils, .d .nils]), .row 9 (List.map eGranaryref14Op ([] : List Granaryref14Op)) true]) rfl (AWs.cons (AW.slcn _ _ _) (AWs.cons (AW.refl _) (AWs.cons (AW.refl _) AWs.nil))) rfl) (Wk.trans (Wk.pushE (σ' := [.box (.d (eApiTable p0)), .box (.agg [.slc 2 9 0 (([] : List Granaryref14Op).length) none, .d .nils, .d .nils]), .row 9 (List.map eGranaryref14Op ([] : List Granaryref14Op)) true, .row 5 (List.map eApiLock ([] : List ApiLock)) true]) (.row 5 [] true) (fun _ hh => by cases hh) rfl) (Wk.trans (Wk.boxE (id := 1) (y := .agg [.slc 2 9 0 (([] : List Granaryref14Op).length) none, .slc 3 5 0 (([] : List ApiLock).length) none, .d .nils]) (σ' := [.box (.d (eApiTable p0)), .box (.agg [.slc 2 9 0 (([] : List Granaryref14Op).length) none, .slc 3 5 0 (([] : List ApiLock).length) none, .d .nils]), .row 9 (List.map eGranaryref14Op ([] : List Granaryref14Op)) true, .row 5 (List.map eApiLock ([] : List ApiLock)) true]) rfl (AWs.cons (AW.refl _) (AWs.cons (AW.slcn _ _ _) (AWs.cons (AW.refl _) AWs.nil))) rfl) (wc (e' := [(8, .ref 0 0 0), (9, .d (eI r89))]) [1, 2, 3] [1] (by kernel_rfl) rfl (by kernel_rfl)))))) (lresC rfl (ld_box ts46 ta46 rfl rfl) (lresT rfl lresN)) rfl)))))))
 ·refine sk (sq (SC.seqP h0 (fun y => ⟨mk 114 [(1, .d ((eL 3 eApiValue) p1)), (2, .d (eI p2)), (3, .d (eU64 p3)), (4, .ref 0 0 0), (8, .ref 1 0 0), (32, .d (eB y))], [.box (.d (eApiTable p0)), .box (.d (.agg [.nils, .nils, .nils]))]⟩) ?_ ?_))
  ·intro u1_92 h1
   refine SC.region (sm rfl (s1 (bi rfl rfl q_i64_lss) (sm rfl (sp h1 (fun h1 => ?_) (fun h1 => ?_)))))
   ·have q := si h1; subst q
    exact kw rfl (kw rfl (kw rfl (kw rfl (s1 (pkt rfl rfl) (SO.nil ((wq rfl)))))))
   ·have q := si h1; subst q
    exact gw rfl (mv rfl) (gw rfl (mv rfl) (gw rfl (len rfl rfl rfl (len_lst un28)) (gw rfl (bi rfl rfl q_i64_geq) (s1 (pkf rfl rfl) (SO.nil ((wq rfl)))))))
  ·rintro y91 h0
   refine cB h0 rfl (fun h0 => ?_) (fun h0 => ?_)
   ·have q := si h0; subst q
    exact sr (s1 (bld rfl (bd46_ )) (s0 (sto rfl rfl (sB (d' := .d (.agg [.nils, .nils, .nils])) ts46 rfl rfl rfl rfl rfl rfl rfl)) (sa rfl (sn (SC.ret (finR (Wk.trans (Wk.pushE (σ' := [.box (.d (eApiTable p0)), .box (.d (.agg [.nils, .nils, .nils])), .row 9 (List.map eGranaryref14Op ([] : List Granaryref14Op)) true]) (.row 9 [] true) (fun _ hh => by cases hh) rfl) (Wk.trans (Wk.boxE (id := 1) (y := .agg [.slc 2 9 0 (([] : List Granaryref14Op).length) none, .d .nils, .d .nils]) (σ' := [.box (.d (eApiTable p0)), .box (.agg [.slc 2 9 0 (([] : List Granaryref14Op).length) none, .d .nils, .d .nils]), .row 9 (List.map eGranaryref14Op ([] : List Granaryref14Op)) true]) rfl (AWs.cons (AW.slcn _ _ _) (AWs.cons (AW.refl _) (AWs.cons (AW.refl _) AWs.nil))) rfl) (Wk.trans (Wk.pushE (σ' := [.box (.d (eApiTable p0)), .box (.agg [.slc 2 9 0 (([] : List Granaryref14Op).length) none, .d .nils, .d .nils]), .row 9 (List.map eGranaryref14Op ([] : List Granaryref14Op)) true, .row 5 (List.map eApiLock ([] : List ApiLock)) true]) (.row 5 [] true) (fun _ hh => by cases hh) rfl) (Wk.trans (Wk.boxE (id := 1) (y := .agg [.slc 2 9 0 (([] : List Granaryref14Op).length) none, .slc 3 5 0 (([] : List ApiLock).length) none, .d .nils]) (σ' := [.box (.d (eApiTable p0)), .box (.agg [.slc 2 9 0 (([] : List Granaryref14Op).length) none, .slc 3 5 0 (([] : List ApiLock).length) none, .d .nils]), .row 9 (List.map eGranaryref14Op ([] : List Granaryref14Op)) true, .row 5 (List.map eApiLock ([] : List ApiLock)) true]) rfl (AWs.cons (AW.refl _) (AWs.cons (AW.slcn _ _ _) (AWs.cons (AW.refl _) AWs.nil))) rfl) (wc (e' := [(8, .ref 0 0 0), (9, .d (eI (1 : Int)))]) [1, 2, 3] [1] (by kernel_rfl) rfl (by kernel_rfl)))))) (lresC rfl (ld_box ts46 ta46 rfl rfl) (lresT rfl lresN)) rfl))))))
   ·refine sk (sq (SC.seqP h0 (fun y => ⟨mk 114 [(1, .d ((eL 3 eApiValue) p1)), (2, .d (eI p2)), (3, .d (eU64 p3)), (4, .ref 0 0 0), (8, .ref 1 0 0), (47, .d (eB y))], [.box (.d (eApiTable p0)), .box (.d (.agg [.nils, .nils, .nils]))]⟩) ?_ ?_))
    ·intro u1_96 h1
     obtain ⟨v97, hv97, h1⟩ := ob h1
     refine SC.region (sm rfl (sm rfl (s1 (ial rfl rfl un28 ts68 (getI_some hv97).1 (map_get (getI_some hv97).2) rfl) (s1 (fap rfl fo68_0 ts3 rfl) (s1 (lod rfl (ld_rop ts3 ta3 rfl)) (s1 (bi rfl rfl q_i64_neq) (sm rfl (sp h1 (fun h1 => ?_) (fun h1 => ?_)))))))))
     ·obtain ⟨v98, hv98, h1⟩ := ob h1; have q := si h1; subst q
      exact gw rfl (mv rfl) (gw rfl (mv rfl) (gw rfl (ial rfl rfl un28 ts68 (getI_some hv98).1 (map_get (getI_some hv98).2) rfl) (gw rfl (fap rfl fo68_0 ts3 rfl) (gw rfl (lod rfl (ld_rop ts3 ta3 rfl)) (gw rfl (bi rfl rfl q_i64_neq) (s1 (pkt rfl rfl) (SO.nil ((wq rfl)))))))))
     ·have q := si h1; subst q
      exact kw rfl (kw rfl (kw rfl (kw rfl (kw rfl (kw rfl (s1 (pkf rfl rfl) (SO.nil ((wq rfl)))))))))
    ·rintro y95 h0
     refine cB h0 rfl (fun h0 => ?_) (fun h0 => ?_)
     ·have q := si h0; subst q
      exact sr (s1 (bld rfl (bd46_ )) (s0 (sto rfl rfl (sB (d' := .d (.agg [.nils, .nils, .nils])) ts46 rfl rfl rfl rfl rfl rfl rfl)) (sa rfl (sn (SC.ret (finR (Wk.trans (Wk.pushE (σ' := [.box (.d (eApiTable p0)), .box (.d (.agg [.nils, .nils, .nils])), .row 9 (List.map eGranaryref14Op ([] : List Granaryref14Op)) true]) (.row 9 [] true) (fun _ hh => by cases hh) rfl) (Wk.trans (Wk.boxE (id := 1) (y := .agg [.slc 2 9 0 (([] : List Granaryref14Op).length) none, .d .nils, .d .nils]) (σ' := [.box (.d (eApiTable p0)), .box (.agg [.slc 2 9 0 (([] : List Granaryref14Op).length) none, .d .nils, .d .nils]), .row 9 (List.map eGranaryref14Op ([] : List Granaryref14Op)) true]) rfl (AWs.cons (AW.slcn _ _ _) (AWs.cons (AW.refl _) (AWs.cons (AW.refl _) AWs.nil))) rfl) (Wk.trans (Wk.pushE (σ' := [.box (.d (eApiTable p0)), .box (.agg [.slc 2 9 0 (([] : List Granaryref14Op).length) none, .d .nils, .d .nils]), .row 9 (List.map eGranaryref14Op ([] : List Granaryref14Op)) true, .row 5 (List.map eApiLock ([] : List ApiLock)) true]) (.row 5 [] true) (fun _ hh => by cases hh) rfl) (Wk.trans (Wk.boxE (id := 1) (y := .agg [.slc 2 9 0 (([] : List Granaryref14Op).length) none, .slc 3 5 0 (([] : List ApiLock).length) none, .d .nils]) (σ' := [.box (.d (eApiTable p0)), .box (.agg [.slc 2 9 0 (([] : List Granaryref14Op).length) none, .slc 3 5 0 (([] : List ApiLock).length) none, .d .nils]), .row 9 (List.map eGranaryref14Op ([] : List Granaryref14Op)) true, .row 5 (List.map eApiLock ([] : List ApiLock)) true]) rfl (AWs.cons (AW.refl _) (AWs.cons (AW.slcn _ _ _) (AWs.cons (AW.refl _) AWs.nil))) rfl) (wc (e' := [(8, .ref 0 0 0), (9, .d (eI (8 : Int)))]) [1, 2, 3] [1] (by kernel_rfl) rfl (by kernel_rfl)))))) (lresC rfl (ld_box ts46 ta46 rfl rfl) (lresT rfl lresN)) rfl))))))
     ·obtain ⟨r99, hq100, h0⟩ := ob h0
      refine sk (sr (s1 (far (k := 2) rfl fo26_2 ts23 rfl) (s1 (lod rfl (ld_box ts23 ta23 rfl rfl)) (sm rfl (c0 (ref17_Has_ok p0.Primary p2 _ hq100) wf rfl rfl rfl cb52 rfl (fun _ => rfl) (fun _ => rfl) (sa rfl (sn (SC.seqP h0 (fun y => ⟨mk 114 [(1, .d ((eL 3 eApiValue) p1)), (2, .d (eI p2)), (3, .d (eU64 p3)), (4, .ref 0 0 0), (8, .ref 1 0 0), (11, .d (eB y))], [.box (.d (eApiTable p0)), .box (.d (.agg [.nils, .nils, .nils]))]⟩) ?_ ?_))))))))
      ·intro u1_133 h1
       obtain ⟨u2_155, h2, h1⟩ := ob h1
       refine sr (sa rfl (sn (SC.blk (SC.loopB h2 (fun y => ⟨mk 114 [(1, .d ((eL 3 eApiValue) p1)), (2, .d (eI p2)), (3, .d (eU64 p3)), (4, .ref 0 0 0), (8, .ref 1 0 0), (11, .d (eB y.1)), (12, .d (eI y.2))], [.box (.d (eApiTable p0)), .box (.d (.agg [.nils, .nils, .nils]))]⟩) (wq rfl) ?_))))
       intro n164
       rintro ⟨y142, y143⟩ w2_154 h3 hv3
       refine sq (sr (sm rfl (s1 (far (k := 3) rfl fo26_3 ts24 rfl) (s1 (lod rfl (ld_box ts24 ta24 rfl rfl)) (s1 (len rfl rfl rfl (len_lst un24)) (s1 (bi rfl rfl q_i64_lss) (sn (cB h3 rfl (fun h3 => ?_) (fun h3 => ?_)))))))))
       ·refine sk (sq (SC.blk (SC.region (sm rfl (sm rfl (sp h3 (fun h3 => ?_) (fun h3 => ?_)))))))
        ·refine kw rfl (kw rfl (kw rfl (kw rfl (kw rfl (kw rfl (kw rfl (kw rfl (kw rfl (s1 (pkt rfl rfl) ?_)))))))))
         refine sm rfl (kw rfl (kw rfl (kw rfl (kw rfl (kw rfl (kw rfl (kw rfl (kw rfl (s1 (pkt rfl rfl) ?_)))))))))
         refine sa rfl (SO.nil ?_)
         change SC _ _ _ _ _
         have q := si h3; subst q
         exact SC.region (sm rfl (s1 (bi rfl rfl q_i64_add) (sa rfl (SO.nil (lf (wq rfl))))))
        ·obtain ⟨v156, hv156, h3⟩ := ob h3; obtain ⟨r157, hq158, h3⟩ := ob h3; obtain ⟨r159, hq160, h3⟩ := ob h3
         refine gw rfl (far (k := 3) rfl fo26_3 ts24 rfl) (gw rfl (lod rfl (ld_box ts24 ta24 rfl rfl)) (gw rfl (mv rfl) (gw rfl (ial rfl rfl un24 ts82 (getI_some hv156).1 (map_get (getI_some hv156).2) rfl) (gw rfl (fap rfl fo82_1 ts80 rfl) (gw rfl (lod rfl (ld_rop ts80 ta80 rfl)) (c0 (ref17_Cols_ok v156.Parts _ hq158) (ww rfl) rfl rfl rfl cb53 rfl (fun _ => rfl) (fun _ => rfl) (gw rfl (mv rfl) (c0 (ref17_Has_ok r157 p2 _ hq160) (ww rfl) rfl rfl rfl cb52 rfl (fun _ => rfl) (fun _ => rfl) (s1 (pkf rfl rfl) ?_)))))))))
         refine sm rfl (sp h3 (fun h3 => ?_) (fun h3 => ?_))
         ·refine kw rfl (kw rfl (kw rfl (kw rfl (kw rfl (kw rfl (kw rfl (kw rfl (s1 (pkt rfl rfl) (sa rfl ?_)))))))))
          refine SO.nil ?_
          change SC _ _ _ _ _
          have q := si h3; subst q
          exact SC.region (sm rfl (s1 (bi rfl rfl q_i64_add) (sa rfl (SO.nil (lf (wq rfl))))))
         ·obtain ⟨v161, hv161, h3⟩ := ob h3; obtain ⟨r162, hq163, h3⟩ := ob h3
          refine gw rfl (far (k := 3) rfl fo26_3 ts24 rfl) (gw rfl (lod rfl (ld_box ts24 ta24 rfl rfl)) (gw rfl (mv rfl) (gw rfl (ial rfl rfl un24 ts82 (getI_some hv161).1 (map_get (getI_some hv161).2) rfl) (gw rfl (fap rfl fo82_2 ts23 rfl) (gw rfl (lod rfl (ld_rop ts23 ta23 rfl)) (gw rfl (mv rfl) (c0 (ref17_Has_ok v161.Extra p2 _ hq163) (ww rfl) rfl rfl rfl cb52 rfl (fun _ => rfl) (fun _ => rfl) (s1 (pkf rfl rfl) (sa rfl ?_)))))))))
          refine SO.nil ?_
          change SC _ _ _ _ _
          have q := si h3; subst q
          exact SC.region (sm rfl (s1 (bi rfl rfl q_i64_add) (sa rfl (SO.nil (lf (wq rfl))))))
       ·have q := si h3; subst q; have q : _ = _ := hv3; subst q; have q := si h1; subst q
        exact SC.exit ((wq rfl))
      ·rintro y132 h0
       refine sq (sr (sm rfl (sn (cB h0 rfl (fun h0 => ?_) (fun h0 => ?_)))))
       ·have q := si h0; subst q
        exact sr (s1 (bld rfl (bd46_ )) (s0 (sto rfl rfl (sB (d' := .d (.agg [.nils, .nils, .nils])) ts46 rfl rfl rfl rfl rfl rfl rfl)) (sa rfl (sn (SC.ret (finR (Wk.trans (Wk.pushE (σ' := [.box (.d (eApiTable p0)), .box (.d (.agg [.nils, .nils, .nils])), .row 9 (List.map eGranaryref14Op ([] : List Granaryref14Op)) true]) (.row 9 [] true) (fun _ hh => by cases hh) rfl) (Wk.trans (Wk.boxE (id := 1) (y := .agg [.slc 2 9 0 (([] : List Granaryref14Op).length) none, .d .nils, .d .nils]) (σ' := [.box (.d (eApiTable p0)), .box (.agg [.slc 2 9 0 (([] : List Granaryref14Op).length) none, .d .nils, .d .nils]), .row 9 (List.map eGranaryref14Op ([] : List Granaryref14Op)) true]) rfl (AWs.cons (AW.slcn _ _ _) (AWs.cons (AW.refl _) (AWs.cons (AW.refl _) AWs.nil))) rfl) (Wk.trans (Wk.pushE (σ' := [.box (.d (eApiTable p0)), .box (.agg [.slc 2 9 0 (([] : List Granaryref14Op).length) none, .d .nils, .d .nils]), .row 9 (List.map eGranaryref14Op ([] : List Granaryref14Op)) true, .row 5 (List.map eApiLock ([] : List ApiLock)) true]) (.row 5 [] true) (fun _ hh => by cases hh) rfl) (Wk.trans (Wk.boxE (id := 1) (y := .agg [.slc 2 9 0 (([] : List Granaryref14Op).length) none, .slc 3 5 0 (([] : List ApiLock).length) none, .d .nils]) (σ' := [.box (.d (eApiTable p0)), .box (.agg [.slc 2 9 0 (([] : List Granaryref14Op).length) none, .slc 3 5 0 (([] : List ApiLock).length) none, .d .nils]), .row 9 (List.map eGranaryref14Op ([] : List Granaryref14Op)) true, .row 5 (List.map eApiLock ([] : List ApiLock)) true]) rfl (AWs.cons (AW.refl _) (AWs.cons (AW.slcn _ _ _) (AWs.cons (AW.refl _) AWs.nil))) rfl) (wc (e' := [(8, .ref 0 0 0), (9, .d (eI (11 : Int)))]) [1, 2, 3] [1] (by kernel_rfl) rfl (by kernel_rfl)))))) (lresC rfl (ld_box ts46 ta46 rfl rfl) (lresT rfl lresN)) rfl))))))
       ·obtain ⟨r165, hq166, h0⟩ := ob h0; obtain ⟨⟨r167, r168⟩, hq169, h0⟩ := ob h0; obtain ⟨r170, hq171, h0⟩ := ob h0; obtain ⟨_, hq172, h0⟩ := ob h0; obtain ⟨hg173, h0⟩ := gd h0; have q := si h0; subst q
        refine sk (sd (by kernel_rfl) (t1 ([], false) (far (k := 1) rfl fo26_1 ts22 rfl) rfl (t1 ([0], false) (lod rfl (ld_box ts22 ta22 rfl rfl)) rfl (t1 ([], false) (mv rfl) rfl (tc0 (ref08_Bytes_ok p1 _ hq166) wf rfl rfl rfl cb18 rfl (fun _ => rfl) (fun _ => rfl) (t1 ([], false) (mv rfl) rfl (tc0 (ref08_Place_ok p0.Cols r165 p2 _ hq169) wf rfl rfl rfl cb54 rfl (fun _ => rfl) (fun _ => rfl) (t1 ([], false) (mv rfl) rfl (t1 ([], false) (ext rfl rfl) rfl ?_)))))))))
        refine t1 ([], false) (ext rfl rfl) rfl (t1 ([], false) (asg rfl) rfl (t1 ([], false) (asg rfl) rfl (tn (by decide +kernel) (sr (s1 (bld rfl (bd46_ )) (s1 (alo (k := 2) zo46 rfl) (s0 (sto rfl rfl (sB (d' := .d (.agg [.nils, .nils, .nils])) ts46 rfl rfl rfl rfl rfl rfl rfl)) (sn (sr ?_)))))))))
        refine s1 (lod (v := .d (eApiTable p0)) rfl (ld_box ts26 ta26 rfl rfl)) (sm rfl (c0 (ref17_Primary_ok p0 p1 _ hq171) wf rfl rfl rfl cb37 rfl (fun _ => rfl) (fun _ => rfl) (sa rfl (sn (sr (s1 (far (k := 4) rfl fo26_4 ts3 rfl) (s1 (lod rfl (ld_box ts3 ta3 rfl rfl)) (sm rfl (cq [2] [3] (ref19_Work_own_ok p0.Tree r170 _ hq172) wf rfl rfl rfl cb38 rfl rfl rfl rfl rfl rfl rfl rfl ?_)))))))))
        refine sn (sr (s1 (far (k := 0) rfl fo46_0 ts43 rfl) (s1 (lod rfl (ld_box ts43 ta43 rfl rfl)) (s1 (far (k := 4) rfl fo26_4 ts3 rfl) (s1 (lod rfl (ld_box ts3 ta3 rfl rfl)) (sm rfl (sm rfl (sm rfl (s1 (bld rfl (bd63_1_2_5_6 (3 : Int) r170 r167 p3)) ?_)))))))))
        refine s1 (bld rfl (bd108_0_1_2 (1 : Int) p0.Tree (ApiMsg.mk (0 : UInt64) (3 : Int) r170 (0 : UInt64) ([] : List UInt8) r167 p3))) (s1 (bsn (k := 4) (ds := List.map eGranaryref14Op [(Granaryref14Op.mk (1 : Int) p0.Tree (ApiMsg.mk (0 : UInt64) (3 : Int) r170 (0 : UInt64) ([] : List UInt8) r167 p3))]) (off := 0) (l' := [(Granaryref14Op.mk (1 : Int) p0.Tree (ApiMsg.mk (0 : UInt64) (3 : Int) r170 (0 : UInt64) ([] : List UInt8) r167 p3))].length) rfl un43 ei108 rfl rfl (by rfl) rfl rfl rfl) (s1 (app rfl rfl rfl rfl bc43 (aN (f := eGranaryref14Op) (k := 5) un43 ei108 (el_full (xs := [(Granaryref14Op.mk (1 : Int) p0.Tree (ApiMsg.mk (0 : UInt64) (3 : Int) r170 (0 : UInt64) ([] : List UInt8) r167 p3))]) rfl) hg173 rfl)) (s1 (far (k := 0) rfl fo46_0 ts43 rfl) (s0 (sto rfl rfl (sB (d' := .agg [.slc 5 9 0 ([(Granaryref14Op.mk (1 : Int) p0.Tree (ApiMsg.mk (0 : UInt64) (3 : Int) r170 (0 : UInt64) ([] : List UInt8) r167 p3))].length) none, .slc 3 5 0 ([(ApiLock.mk p0.Tree (ApiSpan.mk r170 (r170 ++ ([0] : List UInt8)) false) true)].length) none, .d .nils]) ts43 rfl rfl rfl rfl rfl rfl rfl)) (sn (sr (s1 (lod (v := .agg [.slc 5 9 0 ([(Granaryref14Op.mk (1 : Int) p0.Tree (ApiMsg.mk (0 : UInt64) (3 : Int) r170 (0 : UInt64) ([] : List UInt8) r167 p3))].length) none, .slc 3 5 0 ([(ApiLock.mk p0.Tree (ApiSpan.mk r170 (r170 ++ ([0] : List UInt8)) false) true)].length) none, .d .nils]) rfl (ld_box ts46 ta46 rfl rfl)) (s0 (sto rfl rfl (sB (d' := .agg [.slc 5 9 0 ([(Granaryref14Op.mk (1 : Int) p0.Tree (ApiMsg.mk (0 : UInt64) (3 : Int) r170 (0 : UInt64) ([] : List UInt8) r167 p3))].length) none, .slc 3 5 0 ([(ApiLock.mk p0.Tree (ApiSpan.mk r170 (r170 ++ ([0] : List UInt8)) false) true)].length) none, .d .nils]) ts46 rfl rfl rfl rfl rfl rfl rfl)) ?_))))))))
        exact sa rfl (sn (SC.ret (finR (wc (e' := [(8, .ref 0 0 0), (9, .d (eI (0 : Int)))]) [1, 5, 3] [1] (by kernel_rfl) rfl (by kernel_rfl)) (lresC rfl (ld_box ts46 ta46 rfl rfl) (lresT rfl lresN)) rfl)))
noncomputable def raw_Locks (p0 : List ApiLock) (p1 : List ApiLock) : Option Bool :=
 bif ((p0.length : Int) != (p1.length : Int)) then
 some false
 else
 bindE (Y := Unit) (E := Bool)
 (Option.bind (α := Unit ⊕ Bool)
 (loop (Y := Int) (W := Unit ⊕ Bool) (fun y39 =>
 bif (decide (y39 < (p0.length : Int))) then
 Option.bind (getI p0 y39) fun v45 =>
 Option.bind (getI p1 y39) fun v46 =>
 bif (!(eqApiLock v45 v46)) then
 some (Sum.inr (Sum.inr false))
 else
 some (Sum.inl (w64 (y39 + (1 : Int))))
 else
 some (Sum.inr (Sum.inl ()))) (0 : Int))
 (Sum.elim (fun e => some (Sum.inl e)) (fun e => some (Sum.inr e))))
 (fun _ =>
 some true)
 (fun e => some e)
theorem raw_Locks_ok (p0 : List ApiLock) (p1 : List ApiLock) (r : Bool) (h0 : raw_Locks p0 p1 = some r) : CallAt Tryz.prog 43 [.d ((eL 5 eApiLock) p0), .d ((eL 5 eApiLock) p1)] [] (.d (eB r)) [] := by
 unfold raw_Locks at h0
 refine fn0 [0, 1] Tryz.func43 rfl rfl rfl rfl rfl ?_
 refine sr (sa rfl (sn (sq (sr (sm rfl (s1 (len rfl rfl rfl (len_lst un37)) (sm rfl (s1 (len rfl rfl rfl (len_lst un37)) (s1 (bi rfl rfl q_i64_neq) ?_)))))))))
 refine sn (cB h0 rfl (fun h0 => ?_) (fun h0 => ?_))
 ·have q := si h0; subst q
  exact sr (sa rfl (sn (SC.ret (finR (Wk.refl _) (lresT rfl lresN) rfl))))
 ·refine sk (SC.seqB h0 (fun y => ⟨mk 26 [], []⟩) ?_ ?_)
  ·intro u1_36 h1 h0
   obtain ⟨u2_44, h2, h1⟩ := ob h1
   refine sr (sa rfl (sn (SC.blk (SC.loopB h2 (fun y => ⟨mk 26 [(0, .d ((eL 5 eApiLock) p0)), (1, .d ((eL 5 eApiLock) p1)), (5, .d (eI y))], []⟩) (wq rfl) ?_))))
   intro n47
   rintro y39 w2_43 h3 hv3
   refine sq (sr (sm rfl (sm rfl (s1 (len rfl rfl rfl (len_lst un37)) (s1 (bi rfl rfl q_i64_lss) (sn (cB h3 rfl (fun h3 => ?_) (fun h3 => ?_))))))))
   ·obtain ⟨v45, hv45, h3⟩ := ob h3; obtain ⟨v46, hv46, h3⟩ := ob h3
    refine sk (sq (SC.blk (sd (by kernel_rfl) (t1 ([], false) (mv rfl) rfl (t1 ([], false) (mv rfl) rfl (t1 ([], false) (ial rfl rfl un37 ts137 (getI_some hv45).1 (map_get (getI_some hv45).2) rfl) rfl (t1 ([], false) (lod (v := .d (eApiLock v45)) rfl (ld_rop ts137 ta137 rfl)) rfl (t1 ([], false) (mv rfl) rfl (t1 ([], false) (mv rfl) rfl ?_)))))))))
    refine t1 ([], false) (ial rfl rfl un37 ts137 (getI_some hv46).1 (map_get (getI_some hv46).2) rfl) rfl (t1 ([], false) (lod (v := .d (eApiLock v46)) rfl (ld_rop ts137 ta137 rfl)) rfl (t1 ([], false) (bi (v := .d (eB (!(eqApiLock v45 v46)))) rfl rfl (fun X Y => eqApiLock_neq_137 X Y v45 v46)) rfl (tn (by decide +kernel) (cB h3 rfl (fun h3 => ?_) (fun h3 => ?_)))))
    ·have q := si h3; subst q; have q : _ = _ := hv3; subst q; have q := si h1; subst q; have q := si h0; subst q
     exact sr (sa rfl (sn (SC.ret (finR (Wk.refl _) (lresT rfl lresN) rfl))))
    ·refine SC.skip ?_
     change SC _ _ _ _ _
     have q := si h3; subst q
     exact SC.region (sm rfl (s1 (bi rfl rfl q_i64_add) (sa rfl (SO.nil (lf (wq rfl))))))
   ·have q := si h3; subst q; have q : _ = _ := hv3; subst q; have q := si h1; subst q
    exact SC.exit (lf (wq rfl))
  ·intro _ h0
   have q := si h0; subst q
   exact sr (sa rfl (sn (SC.ret (finR (Wk.refl _) (lresT rfl lresN) rfl))))
noncomputable def law19_same (p0 : FanWork) (p1 : Granaryref19Work) : Option Bool :=
 Option.bind (α := Bool)
 (bif ((p0.Ops.length : Int) != (p1.Ops.length : Int)) then
 some true
 else
 Option.bind (raw_Locks p0.Locks p1.Locks) fun r178 =>
 bif (!r178) then
 some true
 else
 some ((p0.Probes.length : Int) != (p1.Probes.length : Int)))
 fun y176 =>
 bif y176 then
 some false
 else
 bindE (Y := Unit) (E := Bool)
 (Option.bind (α := Unit ⊕ Bool)
 (loop (Y := Int) (W := Unit ⊕ Bool) (fun y242 =>
 bif (decide (y242 < (p0.Ops.length : Int))) then
 Option.bind (α := Bool)
 (Option.bind (getI p0.Ops y242) fun v268 =>
 Option.bind (getI p1.Ops y242) fun v269 =>
 bif (v268.Kind != v269.Kind) then
 some true
 else
 Option.bind (getI p0.Ops y242) fun v270 =>
 Option.bind (getI p1.Ops y242) fun v271 =>
 bif (v270.Tree != v271.Tree) then
 some true
 else
 Option.bind (getI p0.Ops y242) fun v272 =>
 Option.bind (getI p1.Ops y242) fun v273 =>
 some (!(eqApiMsg v272.Msg v273.Msg)))
 fun y266 =>
 bif y266 then
 some (Sum.inr (Sum.inr false))
 else
 some (Sum.inl (w64 (y242 + (1 : Int))))
 else
 some (Sum.inr (Sum.inl ()))) (0 : Int))
 (Sum.elim (fun e => some (Sum.inl e)) (fun e => some (Sum.inr e))))
 (fun _ =>
 bindE (Y := Unit) (E := Bool)
 (Option.bind (α := Unit ⊕ Bool)
 (loop (Y := Int) (W := Unit ⊕ Bool) (fun y321 =>
 bif (decide (y321 < (p0.Probes.length : Int))) then
 Option.bind (α := Bool)
 (Option.bind (getI p0.Probes y321) fun v341 =>
 Option.bind (getI p1.Probes y321) fun v342 =>
 bif (v341.Tree != v342.Tree) then
 some true
 else
 Option.bind (getI p0.Probes y321) fun v343 =>
 Option.bind (getI p1.Probes y321) fun v344 =>
 some (!(eqApiSpan v343.Span v344.Span)))
 fun y339 =>
 bif y339 then
 some (Sum.inr (Sum.inr false))
 else
 some (Sum.inl (w64 (y321 + (1 : Int))))
 else
 some (Sum.inr (Sum.inl ()))) (0 : Int))
 (Sum.elim (fun e => some (Sum.inl e)) (fun e => some (Sum.inr e))))
 (fun _ =>
 some true)
 (fun e => some e))
 (fun e => some e)
theorem law19_same_ok (p0 : FanWork) (p1 : Granaryref19Work) (r : Bool) (h0 : law19_same p0 p1 = some r) : CallAt Tryz.prog 13 [.d (eFanWork p0), .d (eGranaryref19Work p1)] [] (.d (eB r)) [] := by
 unfold law19_same at h0
 refine fn0 [0, 1] Tryz.func13 rfl rfl rfl rfl rfl ?_
 refine sr (s1 (bxo (k := 0) rfl rfl rfl) (s1 (bxo (k := 1) rfl rfl rfl) (sa rfl (sn (sq (SC.seqP h0 (fun y => ⟨mk 116 [(2, .ref 0 0 0), (3, .ref 1 0 0), (30, .d (eB y))], [.box (.d (eFanWork p0)), .box (.d (eGranaryref19Work p1))]⟩) ?_ ?_))))))
 ·intro u1_177 h1
  refine SC.region (s1 (far (k := 0) rfl fo40_0 ts36 rfl) (s1 (lod rfl (ld_box ts36 ta36 rfl rfl)) (s1 (len rfl rfl rfl (len_lst un36)) (s1 (far (k := 0) rfl fo46_0 ts43 rfl) (s1 (lod rfl (ld_box ts43 ta43 rfl rfl)) (s1 (len rfl rfl rfl (len_lst un43)) (s1 (bi rfl rfl q_i64_neq) (sm rfl (sp h1 (fun h1 => ?_) (fun h1 => ?_))))))))))
  ·have q := si h1; subst q
   refine kw rfl (kw rfl (kw rfl (kw rfl (kw rfl (kw rfl (s1 (pkt rfl rfl) (sm rfl (kw rfl (kw rfl ?_)))))))))
   exact kw rfl (kw rfl (kw rfl (kw rfl (kw rfl (s1 (pkt rfl rfl) (SO.nil ((wq rfl))))))))
  ·obtain ⟨r178, hq179, h1⟩ := ob h1
   refine gw rfl (far (k := 1) rfl fo40_1 ts37 rfl) (gw rfl (lod rfl (ld_box ts37 ta37 rfl rfl)) (gw rfl (far (k := 1) rfl fo46_1 ts37 rfl) (gw rfl (lod rfl (ld_box ts37 ta37 rfl rfl)) (c0 (raw_Locks_ok p0.Locks p1.Locks _ hq179) (ww rfl) rfl rfl rfl cb43 rfl (fun _ => rfl) (fun _ => rfl) (gw rfl (nt rfl) (s1 (pkf rfl rfl) (sm rfl (sp h1 (fun h1 => ?_) (fun h1 => ?_)))))))))
   ·have q := si h1; subst q
    exact kw rfl (kw rfl (kw rfl (kw rfl (kw rfl (kw rfl (kw rfl (s1 (pkt rfl rfl) (SO.nil ((wq rfl))))))))))
   ·have q := si h1; subst q
    exact gw rfl (far (k := 2) rfl fo40_2 ts38 rfl) (gw rfl (lod rfl (ld_box ts38 ta38 rfl rfl)) (gw rfl (len rfl rfl rfl (len_lst un38)) (gw rfl (far (k := 2) rfl fo46_2 ts44 rfl) (gw rfl (lod rfl (ld_box ts44 ta44 rfl rfl)) (gw rfl (len rfl rfl rfl (len_lst un44)) (gw rfl (bi rfl rfl q_i64_neq) (s1 (pkf rfl rfl) (SO.nil ((wq rfl))))))))))
 ·rintro y176 h0
  refine cB h0 rfl (fun h0 => ?_) (fun h0 => ?_)
  ·have q := si h0; subst q
   exact sr (sa rfl (sn (SC.ret (finR (wc (e' := [(4, .d (eB false))]) [] [] (by kernel_rfl) rfl (by kernel_rfl)) (lresT rfl lresN) rfl))))
  ·refine sk (SC.seqB h0 (fun y => ⟨mk 116 [(2, .ref 0 0 0), (3, .ref 1 0 0)], [.box (.d (eFanWork p0)), .box (.d (eGranaryref19Work p1))]⟩) ?_ ?_)
   ·intro u1_227 h1 h0
    obtain ⟨u2_259, h2, h1⟩ := ob h1
    refine sr (sa rfl (sn (SC.blk (SC.loopB h2 (fun y => ⟨mk 116 [(2, .ref 0 0 0), (3, .ref 1 0 0), (5, .d (eI y))], [.box (.d (eFanWork p0)), .box (.d (eGranaryref19Work p1))]⟩) (wq rfl) ?_))))
    intro n274
    rintro y242 w2_258 h3 hv3
    refine sq (sr (sm rfl (s1 (far (k := 0) rfl fo40_0 ts36 rfl) (s1 (lod rfl (ld_box ts36 ta36 rfl rfl)) (s1 (len rfl rfl rfl (len_lst un36)) (s1 (bi rfl rfl q_i64_lss) (sn (cB h3 rfl (fun h3 => ?_) (fun h3 => ?_)))))))))
    ·refine sk (sq (SC.blk (SC.seqP h3 (fun y => ⟨mk 116 [(2, .ref 0 0 0), (3, .ref 1 0 0), (5, .d (eI y242)), (80, .d (eB y))], [.box (.d (eFanWork p0)), .box (.d (eGranaryref19Work p1))]⟩) ?_ ?_)))
     ·intro u4_267 h4
      obtain ⟨v268, hv268, h4⟩ := ob h4; obtain ⟨v269, hv269, h4⟩ := ob h4
      refine SC.draws (by kernel_rfl) (t1 ([], false) (far (k := 0) rfl fo40_0 ts36 rfl) rfl (t1 ([0], false) (lod rfl (ld_box ts36 ta36 rfl rfl)) rfl (t1 ([], false) (mv rfl) rfl (t1 ([], false) (ial rfl rfl un36 ts65 (getI_some hv268).1 (map_get (getI_some hv268).2) rfl) rfl (t1 ([], false) (fap rfl fo65_0 ts3 rfl) rfl (t1 ([], false) (lod rfl (ld_rop ts3 ta3 rfl)) rfl (t1 ([], false) (far (k := 0) rfl fo46_0 ts43 rfl) rfl (t1 ([1], false) (lod rfl (ld_box ts43 ta43 rfl rfl)) rfl (t1 ([], false) (mv rfl) rfl ?_)))))))))
      refine t1 ([], false) (ial rfl rfl un43 ts108 (getI_some hv269).1 (map_get (getI_some hv269).2) rfl) rfl (t1 ([], false) (fap rfl fo108_0 ts3 rfl) rfl (t1 ([], false) (lod rfl (ld_rop ts3 ta3 rfl)) rfl (t1 ([], false) (bi rfl rfl q_i64_neq) rfl (t1 ([], false) (mv rfl) rfl (tp h4 (fun h4 => ?_) (fun h4 => ?_))))))
      ·have q := si h4; subst q
       refine jw rfl (jw rfl (jw rfl (jw rfl (jw rfl (jw rfl (jw rfl (jw rfl (jw rfl (jw rfl ?_)))))))))
       refine jw rfl (jw rfl (jw rfl (t1 ([], false) (pkt rfl rfl) rfl (t1 ([], false) (mv rfl) rfl (jw rfl (jw rfl (jw rfl (jw rfl (jw rfl ?_)))))))))
       refine jw rfl (jw rfl (jw rfl (jw rfl (jw rfl (jw rfl (jw rfl (jw rfl (t1 ([], false) (pkt rfl rfl) rfl (ST.nil (And.intro (by decide +kernel) ?_))))))))))
       exact (wq rfl)
      ·obtain ⟨v270, hv270, h4⟩ := ob h4; obtain ⟨v271, hv271, h4⟩ := ob h4
       refine u1 ([], false) (ww rfl) (far (k := 0) rfl fo40_0 ts36 rfl) rfl (u1 ([0], false) (ww rfl) (lod rfl (ld_box ts36 ta36 rfl rfl)) rfl (u1 ([], false) (ww rfl) (mv rfl) rfl (u1 ([], false) (ww rfl) (ial rfl rfl un36 ts65 (getI_some hv270).1 (map_get (getI_some hv270).2) rfl) rfl (u1 ([], false) (ww rfl) (fap rfl fo65_1 ts3 rfl) rfl (u1 ([], false) (ww rfl) (lod rfl (ld_rop ts3 ta3 rfl)) rfl (u1 ([], false) (ww rfl) (far (k := 0) rfl fo46_0 ts43 rfl) rfl (u1 ([1], false) (ww rfl) (lod rfl (ld_box ts43 ta43 rfl rfl)) rfl (u1 ([], false) (ww rfl) (mv rfl) rfl (u1 ([], false) (ww rfl) (ial rfl rfl un43 ts108 (getI_some hv271).1 (map_get (getI_some hv271).2) rfl) rfl ?_)))))))))
       refine u1 ([], false) (ww rfl) (fap rfl fo108_1 ts3 rfl) rfl (u1 ([], false) (ww rfl) (lod rfl (ld_rop ts3 ta3 rfl)) rfl (u1 ([], false) (ww rfl) (bi rfl rfl q_i64_neq) rfl (t1 ([], false) (pkf rfl rfl) rfl (t1 ([], false) (mv rfl) rfl (tp h4 (fun h4 => ?_) (fun h4 => ?_))))))
       ·have q := si h4; subst q
        refine jw rfl (jw rfl (jw rfl (jw rfl (jw rfl (jw rfl (jw rfl (jw rfl (jw rfl (jw rfl ?_)))))))))
        refine jw rfl (jw rfl (jw rfl (t1 ([], false) (pkt rfl rfl) rfl (ST.nil (And.intro (by decide +kernel) ?_)))))
        exact (wq rfl)
       ·obtain ⟨v272, hv272, h4⟩ := ob h4; obtain ⟨v273, hv273, h4⟩ := ob h4; have q := si h4; subst q
        refine u1 ([], false) (ww rfl) (far (k := 0) rfl fo40_0 ts36 rfl) rfl (u1 ([0], false) (ww rfl) (lod rfl (ld_box ts36 ta36 rfl rfl)) rfl (u1 ([], false) (ww rfl) (mv rfl) rfl (u1 ([], false) (ww rfl) (ial rfl rfl un36 ts65 (getI_some hv272).1 (map_get (getI_some hv272).2) rfl) rfl (u1 ([], false) (ww rfl) (fap rfl fo65_2 ts63 rfl) rfl (u1 ([], false) (ww rfl) (lod (v := .d (eApiMsg v272.Msg)) rfl (ld_rop ts63 ta63 rfl)) rfl (u1 ([], false) (ww rfl) (far (k := 0) rfl fo46_0 ts43 rfl) rfl (u1 ([1], false) (ww rfl) (lod rfl (ld_box ts43 ta43 rfl rfl)) rfl (u1 ([], false) (ww rfl) (mv rfl) rfl (u1 ([], false) (ww rfl) (ial rfl rfl un43 ts108 (getI_some hv273).1 (map_get (getI_some hv273).2) rfl) rfl ?_)))))))))
        refine u1 ([], false) (ww rfl) (fap rfl fo108_2 ts63 rfl) rfl (u1 ([], false) (ww rfl) (lod (v := .d (eApiMsg v273.Msg)) rfl (ld_rop ts63 ta63 rfl)) rfl (u1 ([], false) (ww rfl) (bi (v := .d (eB (!(eqApiMsg v272.Msg v273.Msg)))) rfl rfl (fun X Y => eqApiMsg_neq_63 X Y v272.Msg v273.Msg)) rfl (t1 ([], false) (pkf rfl rfl) rfl (ST.nil (And.intro (by decide +kernel) ?_)))))
        exact (wq rfl)
     ·rintro y266 h3
      refine cB h3 rfl (fun h3 => ?_) (fun h3 => ?_)
      ·have q := si h3; subst q; have q : _ = _ := hv3; subst q; have q := si h1; subst q; have q := si h0; subst q
       exact sr (sa rfl (sn (SC.ret (finR (wc (e' := [(4, .d (eB false))]) [] [] (by kernel_rfl) rfl (by kernel_rfl)) (lresT rfl lresN) rfl))))
      ·refine SC.skip ?_
       change SC _ _ _ _ _
       have q := si h3; subst q
       exact SC.region (sm rfl (s1 (bi rfl rfl q_i64_add) (sa rfl (SO.nil (lf (wq rfl))))))
    ·have q := si h3; subst q; have q : _ = _ := hv3; subst q; have q := si h1; subst q
     exact SC.exit (lf (wq rfl))
   ·intro _ h0
    refine SC.seqB h0 (fun y => ⟨mk 116 [], []⟩) ?_ ?_
    ·intro u1_310 h1 h0
     obtain ⟨u2_334, h2, h1⟩ := ob h1
     refine sr (sa rfl (sn (SC.blk (SC.loopB h2 (fun y => ⟨mk 116 [(2, .ref 0 0 0), (3, .ref 1 0 0), (6, .d (eI y))], [.box (.d (eFanWork p0)), .box (.d (eGranaryref19Work p1))]⟩) (wq rfl) ?_))))
     intro n345
     rintro y321 w2_333 h3 hv3
     refine sq (sr (sm rfl (s1 (far (k := 2) rfl fo40_2 ts38 rfl) (s1 (lod rfl (ld_box ts38 ta38 rfl rfl)) (s1 (len rfl rfl rfl (len_lst un38)) (s1 (bi rfl rfl q_i64_lss) (sn (cB h3 rfl (fun h3 => ?_) (fun h3 => ?_)))))))))
     ·refine sk (sq (SC.blk (SC.seqP h3 (fun y => ⟨mk 116 [(2, .ref 0 0 0), (3, .ref 1 0 0), (6, .d (eI y321)), (115, .d (eB y))], [.box (.d (eFanWork p0)), .box (.d (eGranaryref19Work p1))]⟩) ?_ ?_)))
      ·intro u4_340 h4
       obtain ⟨v341, hv341, h4⟩ := ob h4; obtain ⟨v342, hv342, h4⟩ := ob h4
       refine SC.draws (by kernel_rfl) (t1 ([], false) (far (k := 2) rfl fo40_2 ts38 rfl) rfl (t1 ([0], false) (lod rfl (ld_box ts38 ta38 rfl rfl)) rfl (t1 ([], false) (mv rfl) rfl (t1 ([], false) (ial rfl rfl un38 ts110 (getI_some hv341).1 (map_get (getI_some hv341).2) rfl) rfl (t1 ([], false) (fap rfl fo110_0 ts3 rfl) rfl (t1 ([], false) (lod rfl (ld_rop ts3 ta3 rfl)) rfl (t1 ([], false) (far (k := 2) rfl fo46_2 ts44 rfl) rfl (t1 ([1], false) (lod rfl (ld_box ts44 ta44 rfl rfl)) rfl (t1 ([], false) (mv rfl) rfl ?_)))))))))
       refine t1 ([], false) (ial rfl rfl un44 ts111 (getI_some hv342).1 (map_get (getI_some hv342).2) rfl) rfl (t1 ([], false) (fap rfl fo111_0 ts3 rfl) rfl (t1 ([], false) (lod rfl (ld_rop ts3 ta3 rfl)) rfl (t1 ([], false) (bi rfl rfl q_i64_neq) rfl (t1 ([], false) (mv rfl) rfl (tp h4 (fun h4 => ?_) (fun h4 => ?_))))))
       ·have q := si h4; subst q
        refine jw rfl (jw rfl (jw rfl (jw rfl (jw rfl (jw rfl (jw rfl (jw rfl (jw rfl (jw rfl ?_)))))))))
        refine jw rfl (jw rfl (jw rfl (t1 ([], false) (pkt rfl rfl) rfl (ST.nil (And.intro (by decide +kernel) ?_)))))
        exact (wq rfl)
       ·obtain ⟨v343, hv343, h4⟩ := ob h4; obtain ⟨v344, hv344, h4⟩ := ob h4; have q := si h4; subst q
        refine u1 ([], false) (ww rfl) (far (k := 2) rfl fo40_2 ts38 rfl) rfl (u1 ([0], false) (ww rfl) (lod rfl (ld_box ts38 ta38 rfl rfl)) rfl (u1 ([], false) (ww rfl) (mv rfl) rfl (u1 ([], false) (ww rfl) (ial rfl rfl un38 ts110 (getI_some hv343).1 (map_get (getI_some hv343).2) rfl) rfl (u1 ([], false) (ww rfl) (fap rfl fo110_1 ts31 rfl) rfl (u1 ([], false) (ww rfl) (lod (v := .d (eApiSpan v343.Span)) rfl (ld_rop ts31 ta31 rfl)) rfl (u1 ([], false) (ww rfl) (far (k := 2) rfl fo46_2 ts44 rfl) rfl (u1 ([1], false) (ww rfl) (lod rfl (ld_box ts44 ta44 rfl rfl)) rfl (u1 ([], false) (ww rfl) (mv rfl) rfl (u1 ([], false) (ww rfl) (ial rfl rfl un44 ts111 (getI_some hv344).1 (map_get (getI_some hv344).2) rfl) rfl ?_)))))))))
        refine u1 ([], false) (ww rfl) (fap rfl fo111_1 ts31 rfl) rfl (u1 ([], false) (ww rfl) (lod (v := .d (eApiSpan v344.Span)) rfl (ld_rop ts31 ta31 rfl)) rfl (u1 ([], false) (ww rfl) (bi (v := .d (eB (!(eqApiSpan v343.Span v344.Span)))) rfl rfl (fun X Y => eqApiSpan_neq_31 X Y v343.Span v344.Span)) rfl (t1 ([], false) (pkf rfl rfl) rfl (ST.nil (And.intro (by decide +kernel) ?_)))))
        exact (wq rfl)
      ·rintro y339 h3
       refine cB h3 rfl (fun h3 => ?_) (fun h3 => ?_)
       ·have q := si h3; subst q; have q : _ = _ := hv3; subst q; have q := si h1; subst q; have q := si h0; subst q
        exact sr (sa rfl (sn (SC.ret (finR (wc (e' := [(4, .d (eB false))]) [] [] (by kernel_rfl) rfl (by kernel_rfl)) (lresT rfl lresN) rfl))))
       ·refine SC.skip ?_
        change SC _ _ _ _ _
        have q := si h3; subst q
        exact SC.region (sm rfl (s1 (bi rfl rfl q_i64_add) (sa rfl (SO.nil (lf (wq rfl))))))
     ·have q := si h3; subst q; have q : _ = _ := hv3; subst q; have q := si h1; subst q
      exact SC.exit (lf (wc [] [] (by kernel_rfl) rfl (by kernel_rfl)))
    ·intro _ h0
     have q := si h0; subst q
     exact sr (sa rfl (sn (SC.ret (finR (Wk.refl _) (lresT rfl lresN) rfl))))
noncomputable def ref09_changed (p0 : Granaryref09Val) (p1 : ApiMsg) : Option Granaryref09Val :=
 bindE (Y := Unit) (E := Granaryref09Val)
 (bif (p1.Kind == (1 : Int)) then
 some (Sum.inr (Granaryref09Val.mk true p1.Val))
 else
 bif (p1.Kind == (2 : Int)) then
 some (Sum.inr (Granaryref09Val.mk false ([] : List UInt8)))
 else
 bif (p1.Kind == (3 : Int)) then
 Option.bind (α := Bool)
 (bif (!p0.has) then
 some true
 else
 bif (decide (p1.Off < (0 : Int))) then
 some true
 else
 some (decide (p1.Off > (w64 ((p0.s.length : Int) - (8 : Int))))))
 fun y145 =>
 bif y145 then
 some (Sum.inr p0)
 else
 Option.bind (α := (List UInt8))
 (Option.bind (α := (List UInt8))
 (loop (Y := (List UInt8) × Int × Int) (W := (List UInt8)) (fun (y170, y171, y172) =>
 bif (decide (y172 ≥ (0 : Int))) then
 Option.bind (getI y170 (w64 (p1.Off + y172))) fun v181 =>
 bif decide (0 ≤ (w64 ((56 : Int) - (w64 ((8 : Int) * y172))))) then
 Option.bind (getI y170 (w64 (p1.Off + y172))) fun v183 =>
 some (Sum.inl ((List.set y170 ((w64 (p1.Off + y172)).toNat) (u8i (w64 ((w64 ((v181.toNat : Int) + (((shr64 p1.Num ((w64 ((56 : Int) - (w64 ((8 : Int) * y172)))).toNat)).toUInt8).toNat : Int))) + y171)))), (w64 (Int.tdiv (w64 ((w64 ((v181.toNat : Int) + (((shr64 p1.Num ((w64 ((56 : Int) - (w64 ((8 : Int) * y172)))).toNat)).toUInt8).toNat : Int))) + y171)) (256 : Int))), (w64 (y172 - (1 : Int)))))
 else none
 else
 some (Sum.inr y170)) (p0.s, (0 : Int), (7 : Int)))
 (fun e => some e))
 fun y165 =>
 some (Sum.inr (Granaryref09Val.mk true y165))
 else
 bif (p1.Kind == (4 : Int)) then
 Option.bind (α := Bool)
 (bif (!p0.has) then
 some true
 else
 bif (p0.s == ([] : List UInt8)) then
 some true
 else
 bif (decide (p1.Off < (0 : Int))) then
 some true
 else
 bif (decide (p1.Off > (255 : Int))) then
 some true
 else
 Option.bind (getI p0.s (0 : Int)) fun v188 =>
 bif ((v188.toNat : Int) != p1.Off) then
 some true
 else
 some (decide ((w64 ((p0.s.length : Int) + (p1.Val.length : Int))) > (512 : Int))))
 fun y186 =>
 bif y186 then
 some (Sum.inr p0)
 else
 bif decide (0 ≤ (1 : Int) ∧ (1 : Int) ≤ (p0.s.length : Int)) then
 bif decide ([(u8i (w64 (p1.Off + (1 : Int))))].length + (List.drop (1 : Int).toNat p0.s).length ≤ 9223372036854775807) then
 bif decide (([(u8i (w64 (p1.Off + (1 : Int))))] ++ (List.drop (1 : Int).toNat p0.s)).length + p1.Val.length ≤ 9223372036854775807) then
 some (Sum.inr (Granaryref09Val.mk true (([(u8i (w64 (p1.Off + (1 : Int))))] ++ (List.drop (1 : Int).toNat p0.s)) ++ p1.Val)))
 else none
 else none
 else none
 else
 some (Sum.inl ()))
 (fun _ =>
 some p0)
 (fun e => some e)
theorem ref09_changed_ok (p0 : Granaryref09Val) (p1 : ApiMsg) (r : Granaryref09Val) (h0 : ref09_changed p0 p1 = some r) : CallAt Tryz.prog 85 [.d (eGranaryref09Val p0), .d (eApiMsg p1)] [] (.d (eGranaryref09Val r)) [.box (.d (eGranaryref09Val r))] := by
 unfold ref09_changed at h0
 refine fn0 [0, 1] Tryz.func85 rfl rfl rfl rfl rfl ?_
 refine sr (s1 (bxo (k := 0) rfl rfl rfl) (s1 (bxo (k := 1) rfl rfl rfl) (s1 (alo (k := 2) zo162 rfl) (sn (SC.seqB h0 (fun y => ⟨mk 133 [(2, .ref 0 0 0), (4, .ref 1 0 0)], [.box (.d (eGranaryref09Val p0)), .box (.d (eGranaryref09Val (Granaryref09Val.mk false ([] : List UInt8))))]⟩) ?_ ?_)))))
 ·intro u1_144 h1 h0
  refine sr (s1 (far (k := 1) rfl fo63_1 ts3 rfl) (s1 (lod rfl (ld_box ts3 ta3 rfl rfl)) (sn (SC.blk (sr (s1 (bi rfl rfl q_i64_eql) (sa rfl (sn (cB h1 rfl (fun h1 => ?_) (fun h1 => ?_))))))))))
  ·have q := si h1; subst q; have q := si h0; subst q
   exact sr (s1 (far (k := 4) rfl fo63_4 ts9 rfl) (s1 (lod rfl (ld_box ts9 ta9 rfl rfl)) (s1 (bld rfl (bd162_0_1 true p1.Val)) (s0 (sto rfl rfl (sB (d' := .d (eGranaryref09Val (Granaryref09Val.mk true p1.Val))) ts162 rfl rfl rfl rfl rfl rfl rfl)) (sn (SC.ret (finR (wc (e' := [(4, .ref 0 0 0)]) [2] [2] (by kernel_rfl) rfl (by kernel_rfl)) (lresC rfl (ld_box ts162 ta162 rfl rfl) lresN) rfl)))))))
  ·refine sr (s1 (bi rfl rfl q_i64_eql) (sa rfl (sn (cB h1 rfl (fun h1 => ?_) (fun h1 => ?_)))))
   ·have q := si h1; subst q; have q := si h0; subst q
    exact sr (s1 (bld rfl (bd162_ )) (s0 (sto rfl rfl (sB (d' := .d (eGranaryref09Val (Granaryref09Val.mk false ([] : List UInt8)))) ts162 rfl rfl rfl rfl rfl rfl rfl)) (sn (SC.ret (finR (wc (e' := [(4, .ref 0 0 0)]) [2] [2] (by kernel_rfl) rfl (by kernel_rfl)) (lresC rfl (ld_box ts162 ta162 rfl rfl) lresN) rfl)))))
   ·refine sr (s1 (bi rfl rfl q_i64_eql) (sa rfl (sn (cB h1 rfl (fun h1 => ?_) (fun h1 => ?_)))))
    ·refine sq (SC.seqP h1 (fun y => ⟨mk 133 [(2, .ref 0 0 0), (3, .ref 1 0 0), (4, .ref 2 0 0), (37, .d (eB y))], [.box (.d (eGranaryref09Val p0)), .box (.d (eApiMsg p1)), .box (.d (eGranaryref09Val (Granaryref09Val.mk false ([] : List UInt8))))]⟩) ?_ ?_)
     ·intro u2_146 h2
      refine SC.region (s1 (far (k := 0) rfl fo162_0 ts4 rfl) (s1 (lod rfl (ld_box ts4 ta4 rfl rfl)) (s1 (nt rfl) (sm rfl (sp h2 (fun h2 => ?_) (fun h2 => ?_))))))
      ·have q := si h2; subst q
       refine kw rfl (kw rfl (kw rfl (s1 (pkt rfl rfl) (sm rfl (kw rfl (kw rfl (kw rfl (kw rfl (kw rfl ?_)))))))))
       exact kw rfl (kw rfl (s1 (pkt rfl rfl) (SO.nil ((wq rfl)))))
      ·refine gw rfl (far (k := 5) rfl fo63_5 ts3 rfl) (gw rfl (lod rfl (ld_box ts3 ta3 rfl rfl)) (gw rfl (bi rfl rfl q_i64_lss) (s1 (pkf rfl rfl) (sm rfl (sp h2 (fun h2 => ?_) (fun h2 => ?_))))))
       ·have q := si h2; subst q
        exact kw rfl (kw rfl (kw rfl (kw rfl (kw rfl (kw rfl (kw rfl (s1 (pkt rfl rfl) (SO.nil ((wq rfl))))))))))
       ·have q := si h2; subst q
        exact gw rfl (far (k := 5) rfl fo63_5 ts3 rfl) (gw rfl (lod rfl (ld_box ts3 ta3 rfl rfl)) (gw rfl (far (k := 1) rfl fo162_1 ts9 rfl) (gw rfl (lod rfl (ld_box ts9 ta9 rfl rfl)) (gw rfl (len rfl rfl rfl (len_str un9)) (gw rfl (bi rfl rfl q_i64_sub) (gw rfl (bi rfl rfl q_i64_gtr) (s1 (pkf rfl rfl) (SO.nil ((wq rfl))))))))))
     ·rintro y145 h1
      refine cB h1 rfl (fun h1 => ?_) (fun h1 => ?_)
      ·have q := si h1; subst q; have q := si h0; subst q
       exact sr (s1 (lod (v := .d (eGranaryref09Val p0)) rfl (ld_box ts162 ta162 rfl rfl)) (s0 (sto rfl rfl (sB (d' := .d (eGranaryref09Val p0)) ts162 rfl rfl rfl rfl rfl rfl rfl)) (sn (SC.ret (finR (wc (e' := [(4, .ref 0 0 0)]) [2] [2] (by kernel_rfl) rfl (by kernel_rfl)) (lresC rfl (ld_box ts162 ta162 rfl rfl) lresN) rfl)))))
      ·refine sk (sr (s1 (far (k := 1) rfl fo162_1 ts9 rfl) (s1 (lod rfl (ld_box ts9 ta9 rfl rfl)) (s1 (cvs (s := p0.s) (k := 3) rfl un9 un125 un5 ts5 rfl) (sa rfl (sn (sr (sa rfl (sn ?_)))))))))
       refine SC.seqP h1 (fun y => ⟨mk 133 [(4, .ref 0 0 0), (5, .slc 1 1 0 y.length none)], [.box (.d (eGranaryref09Val (Granaryref09Val.mk false ([] : List UInt8)))), .row 1 (List.map eU8 y) true]⟩) ?_ ?_
       ·intro u2_166 h2
        obtain ⟨u3_180, h3, h2⟩ := ob h2
        refine sr (sa rfl (sn (SC.blk (SC.loopB h3 (fun y => ⟨mk 133 [(3, .ref 0 0 0), (4, .ref 1 0 0), (5, .slc 2 1 0 y.1.length none), (6, .d (eI y.2.1)), (7, .d (eI y.2.2))], [.box (.d (eApiMsg p1)), .box (.d (eGranaryref09Val (Granaryref09Val.mk false ([] : List UInt8)))), .row 1 (List.map eU8 y.1) true]⟩) (wc [1, 2, 3] [1, 2, 3] (by kernel_rfl) rfl (by kernel_rfl)) ?_))))
        intro n184
        rintro ⟨y170, y171, y172⟩ w3_179 h4 hv4
        refine sq (sr (sm rfl (s1 (bi rfl rfl q_i64_geq) (sn (cB h4 rfl (fun h4 => ?_) (fun h4 => ?_))))))
        ·obtain ⟨v181, hv181, h4⟩ := ob h4; obtain ⟨hg182, h4⟩ := gd h4; obtain ⟨v183, hv183, h4⟩ := ob h4
         refine sk (sq (SC.blk (sd (by kernel_rfl) (t1 ([], false) (mv rfl) rfl (t1 ([], false) (far (k := 5) rfl fo63_5 ts3 rfl) rfl (t1 ([0], false) (lod rfl (ld_box ts3 ta3 rfl rfl)) rfl (t1 ([], false) (mv rfl) rfl (t1 ([], false) (bi rfl rfl q_i64_add) rfl (t1 ([], false) (iaz rfl rfl un125 ts5 (getI_lt hv181)) rfl ?_)))))))))
         refine t1 ([2], false) (lod rfl (ld_row ts5 ta5 rfl (map_get (getI_some hv181).2) rfl)) rfl (t1 ([], false) (cvo rfl (cv_u8_i64 un5 un3 v181)) rfl (t1 ([], false) (far (k := 6) rfl fo63_6 ts54 rfl) rfl (t1 ([0], false) (lod rfl (ld_box ts54 ta54 rfl rfl)) rfl (t1 ([], false) (mv rfl) rfl (t1 ([], false) (bi rfl rfl q_i64_mul) rfl (t1 ([], false) (bi rfl rfl q_i64_sub) rfl (t1 ([], false) (bi (v := .d (eU64 (shr64 p1.Num ((w64 ((56 : Int) - (w64 ((8 : Int) * y172)))).toNat)))) rfl rfl (fun X Y => b_u64_shr _ X Y p1.Num _ hg182)) rfl (t1 ([], false) (cvo rfl (cv_u64_u8 un54 un5 (shr64 p1.Num ((w64 ((56 : Int) - (w64 ((8 : Int) * y172)))).toNat)))) rfl (t1 ([], false) (cvo rfl (cv_u8_i64 un5 un3 ((shr64 p1.Num ((w64 ((56 : Int) - (w64 ((8 : Int) * y172)))).toNat)).toUInt8))) rfl ?_)))))))))
         refine t1 ([], false) (bi rfl rfl q_i64_add) rfl (t1 ([], false) (mv rfl) rfl (t1 ([], false) (bi rfl rfl q_i64_add) rfl (t1 ([], false) (asg rfl) rfl (tn (by decide +kernel) (sr (sm rfl (s1 (far (k := 5) rfl fo63_5 ts3 rfl) (s1 (lod rfl (ld_box ts3 ta3 rfl rfl)) (sm rfl ?_)))))))))
         refine s1 (bi rfl rfl q_i64_add) (sm rfl (s1 (cvo rfl (cv_i64_u8 un3 un5 (w64 ((w64 ((v181.toNat : Int) + (((shr64 p1.Num ((w64 ((56 : Int) - (w64 ((8 : Int) * y172)))).toNat)).toUInt8).toNat : Int))) + y171)))) (s1 (iaz rfl rfl un125 ts5 (getI_lt hv183)) (s0 (sto (b := .d (eU8 (u8i (w64 ((w64 ((v181.toNat : Int) + (((shr64 p1.Num ((w64 ((56 : Int) - (w64 ((8 : Int) * y172)))).toNat)).toUInt8).toNat : Int))) + y171))))) rfl rfl (sR (f := eU8) (v := (u8i (w64 ((w64 ((v181.toNat : Int) + (((shr64 p1.Num ((w64 ((56 : Int) - (w64 ((8 : Int) * y172)))).toNat)).toUInt8).toNat : Int))) + y171)))) ts5 rfl rfl rfl rfl (getI_some hv183).2 rfl rfl)) (sn (SC.region (sm rfl (s1 (bi (v := .d (eI (w64 (Int.tdiv (w64 ((w64 ((v181.toNat : Int) + (((shr64 p1.Num ((w64 ((56 : Int) - (w64 ((8 : Int) * y172)))).toNat)).toUInt8).toNat : Int))) + y171)) (256 : Int))))) rfl rfl (fun X Y => b_i64_quo _ X Y (w64 ((w64 ((v181.toNat : Int) + (((shr64 p1.Num ((w64 ((56 : Int) - (w64 ((8 : Int) * y172)))).toNat)).toUInt8).toNat : Int))) + y171)) (256 : Int) (by decide))) (sa rfl ?_)))))))))
         refine SO.nil ?_
         change SC _ _ _ _ _
         have q := si h4; subst q
         exact SC.region (sm rfl (s1 (bi rfl rfl q_i64_sub) (sa rfl (SO.nil (lf (Wk.env (EW.cons (AW.refl _) (EW.cons (AW.refl _) (EW.cons (AW.slc rfl (by simp)) (EW.cons (AW.refl _) (EW.cons (AW.refl _) EW.nil)))))))))))
        ·have q := si h4; subst q; have q : _ = _ := hv4; subst q; have q := si h2; subst q
         exact SC.exit ((wc [1, 2] [1, 2] (by kernel_rfl) rfl (by kernel_rfl)))
       ·rintro y165 h1
        have q := si h1; subst q; have q := si h0; subst q
        exact sr (sm rfl (s1 (cvo (v := .d (eS y165)) rfl (cv_bytes_str un125 un9 un5 (el_full (xs := y165) rfl) (fun _ hh => by cases hh))) (s1 (bld rfl (bd162_0_1 true y165)) (s0 (sto rfl rfl (sB (d' := .d (eGranaryref09Val (Granaryref09Val.mk true y165))) ts162 rfl rfl rfl rfl rfl rfl rfl)) (sn (SC.ret (finR (wc (e' := [(4, .ref 0 0 0)]) [0] [0] (by kernel_rfl) rfl (by kernel_rfl)) (lresC rfl (ld_box ts162 ta162 rfl rfl) lresN) rfl)))))))
    ·refine sr (s1 (bi rfl rfl q_i64_eql) (sa rfl (sn (cB h1 rfl (fun h1 => ?_) (fun h1 => ?_)))))
     ·refine sq (SC.seqP h1 (fun y => ⟨mk 133 [(2, .ref 0 0 0), (3, .ref 1 0 0), (4, .ref 2 0 0), (116, .d (eB y))], [.box (.d (eGranaryref09Val p0)), .box (.d (eApiMsg p1)), .box (.d (eGranaryref09Val (Granaryref09Val.mk false ([] : List UInt8))))]⟩) ?_ ?_)
      ·intro u2_187 h2
       refine SC.draws (by kernel_rfl) (t1 ([], false) (far (k := 0) rfl fo162_0 ts4 rfl) rfl (t1 ([0], false) (lod rfl (ld_box ts4 ta4 rfl rfl)) rfl (t1 ([], false) (nt rfl) rfl (t1 ([], false) (mv rfl) rfl (tp h2 (fun h2 => ?_) (fun h2 => ?_))))))
       ·have q := si h2; subst q
        refine jw rfl (jw rfl (jw rfl (t1 ([], false) (pkt rfl rfl) rfl (t1 ([], false) (mv rfl) rfl (jw rfl (jw rfl (jw rfl (t1 ([], false) (pkt rfl rfl) rfl (t1 ([], false) (mv rfl) rfl ?_)))))))))
        refine jw rfl (jw rfl (jw rfl (t1 ([], false) (pkt rfl rfl) rfl (t1 ([], false) (mv rfl) rfl (jw rfl (jw rfl (jw rfl (jw rfl (jw rfl ?_)))))))))
        refine jw rfl (jw rfl (t1 ([], false) (pkt rfl rfl) rfl (t1 ([], false) (mv rfl) rfl (jw rfl (jw rfl (jw rfl (jw rfl (jw rfl (jw rfl ?_)))))))))
        refine jw rfl (jw rfl (t1 ([], false) (pkt rfl rfl) rfl (ST.nil (And.intro (by decide +kernel) ?_))))
        exact (wq rfl)
       ·refine u1 ([], false) (ww rfl) (far (k := 1) rfl fo162_1 ts9 rfl) rfl (u1 ([0], false) (ww rfl) (lod rfl (ld_box ts9 ta9 rfl rfl)) rfl (u1 ([], false) (ww rfl) (bi rfl rfl (q_str_eql (b := ([] : List UInt8)))) rfl (t1 ([], false) (pkf rfl rfl) rfl (t1 ([], false) (mv rfl) rfl (tp h2 (fun h2 => ?_) (fun h2 => ?_))))))
        ·have q := si h2; subst q
         refine jw rfl (jw rfl (jw rfl (t1 ([], false) (pkt rfl rfl) rfl (t1 ([], false) (mv rfl) rfl (jw rfl (jw rfl (jw rfl (t1 ([], false) (pkt rfl rfl) rfl (t1 ([], false) (mv rfl) rfl ?_)))))))))
         refine jw rfl (jw rfl (jw rfl (jw rfl (jw rfl (jw rfl (jw rfl (t1 ([], false) (pkt rfl rfl) rfl (t1 ([], false) (mv rfl) rfl (jw rfl ?_)))))))))
         refine jw rfl (jw rfl (jw rfl (jw rfl (jw rfl (jw rfl (jw rfl (t1 ([], false) (pkt rfl rfl) rfl (ST.nil (And.intro (by decide +kernel) ?_)))))))))
         exact (wq rfl)
        ·refine u1 ([], false) (ww rfl) (far (k := 5) rfl fo63_5 ts3 rfl) rfl (u1 ([1], false) (ww rfl) (lod rfl (ld_box ts3 ta3 rfl rfl)) rfl (u1 ([], false) (ww rfl) (bi rfl rfl q_i64_lss) rfl (t1 ([], false) (pkf rfl rfl) rfl (t1 ([], false) (mv rfl) rfl (tp h2 (fun h2 => ?_) (fun h2 => ?_))))))
         ·have q := si h2; subst q
          refine jw rfl (jw rfl (jw rfl (t1 ([], false) (pkt rfl rfl) rfl (t1 ([], false) (mv rfl) rfl (jw rfl (jw rfl (jw rfl (jw rfl (jw rfl ?_)))))))))
          refine jw rfl (jw rfl (t1 ([], false) (pkt rfl rfl) rfl (t1 ([], false) (mv rfl) rfl (jw rfl (jw rfl (jw rfl (jw rfl (jw rfl (jw rfl ?_)))))))))
          refine jw rfl (jw rfl (t1 ([], false) (pkt rfl rfl) rfl (ST.nil (And.intro (by decide +kernel) ?_))))
          exact (wq rfl)
         ·refine u1 ([], false) (ww rfl) (far (k := 5) rfl fo63_5 ts3 rfl) rfl (u1 ([1], false) (ww rfl) (lod rfl (ld_box ts3 ta3 rfl rfl)) rfl (u1 ([], false) (ww rfl) (bi rfl rfl q_i64_gtr) rfl (t1 ([], false) (pkf rfl rfl) rfl (t1 ([], false) (mv rfl) rfl (tp h2 (fun h2 => ?_) (fun h2 => ?_))))))
          ·have q := si h2; subst q
           refine jw rfl (jw rfl (jw rfl (jw rfl (jw rfl (jw rfl (jw rfl (t1 ([], false) (pkt rfl rfl) rfl (t1 ([], false) (mv rfl) rfl (jw rfl ?_)))))))))
           refine jw rfl (jw rfl (jw rfl (jw rfl (jw rfl (jw rfl (jw rfl (t1 ([], false) (pkt rfl rfl) rfl (ST.nil (And.intro (by decide +kernel) ?_)))))))))
           exact (wq rfl)
          ·obtain ⟨v188, hv188, h2⟩ := ob h2
           refine u1 ([], false) (ww rfl) (far (k := 1) rfl fo162_1 ts9 rfl) rfl (u1 ([0], false) (ww rfl) (lod rfl (ld_box ts9 ta9 rfl rfl)) rfl (u1 ([], false) (ww rfl) (ixs rfl rfl rfl rfl (ix_str un9 (getI_some hv188).1 (getI_some hv188).2)) rfl (u1 ([], false) (ww rfl) (cvo rfl (cv_u8_i64 un5 un3 v188)) rfl (u1 ([], false) (ww rfl) (far (k := 5) rfl fo63_5 ts3 rfl) rfl (u1 ([1], false) (ww rfl) (lod rfl (ld_box ts3 ta3 rfl rfl)) rfl (u1 ([], false) (ww rfl) (bi rfl rfl q_i64_neq) rfl (t1 ([], false) (pkf rfl rfl) rfl (t1 ([], false) (mv rfl) rfl (tp h2 (fun h2 => ?_) (fun h2 => ?_))))))))))
           ·have q := si h2; subst q
            refine jw rfl (jw rfl (jw rfl (jw rfl (jw rfl (jw rfl (jw rfl (jw rfl (t1 ([], false) (pkt rfl rfl) rfl (ST.nil (And.intro (by decide +kernel) ?_))))))))))
            exact (wq rfl)
           ·have q := si h2; subst q
            refine u1 ([], false) (ww rfl) (far (k := 1) rfl fo162_1 ts9 rfl) rfl (u1 ([0], false) (ww rfl) (lod rfl (ld_box ts9 ta9 rfl rfl)) rfl (u1 ([], false) (ww rfl) (len rfl rfl rfl (len_str un9)) rfl (u1 ([], false) (ww rfl) (far (k := 4) rfl fo63_4 ts9 rfl) rfl (u1 ([1], false) (ww rfl) (lod rfl (ld_box ts9 ta9 rfl rfl)) rfl (u1 ([], false) (ww rfl) (len rfl rfl rfl (len_str un9)) rfl (u1 ([], false) (ww rfl) (bi rfl rfl q_i64_add) rfl (u1 ([], false) (ww rfl) (bi rfl rfl q_i64_gtr) rfl (t1 ([], false) (pkf rfl rfl) rfl (ST.nil (And.intro (by decide +kernel) ?_))))))))))
            exact (wq rfl)
      ·rintro y186 h1
       refine cB h1 rfl (fun h1 => ?_) (fun h1 => ?_)
       ·have q := si h1; subst q; have q := si h0; subst q
        exact sr (s1 (lod (v := .d (eGranaryref09Val p0)) rfl (ld_box ts162 ta162 rfl rfl)) (s0 (sto rfl rfl (sB (d' := .d (eGranaryref09Val p0)) ts162 rfl rfl rfl rfl rfl rfl rfl)) (sn (SC.ret (finR (wc (e' := [(4, .ref 0 0 0)]) [2] [2] (by kernel_rfl) rfl (by kernel_rfl)) (lresC rfl (ld_box ts162 ta162 rfl rfl) lresN) rfl)))))
       ·obtain ⟨hg189, h1⟩ := gd h1; obtain ⟨hg190, h1⟩ := gd h1; obtain ⟨hg191, h1⟩ := gd h1; have q := si h1; subst q; have q := si h0; subst q
        refine sk (sd (by kernel_rfl) (t1 ([], false) (far (k := 5) rfl fo63_5 ts3 rfl) rfl (t1 ([1], false) (lod rfl (ld_box ts3 ta3 rfl rfl)) rfl (t1 ([], false) (bi rfl rfl q_i64_add) rfl (t1 ([], false) (cvo rfl (cv_i64_u8 un3 un5 (w64 (p1.Off + (1 : Int))))) rfl (t1 ([3], true) (bsn (k := 3) (ds := List.map eU8 [(u8i (w64 (p1.Off + (1 : Int))))]) (off := 0) (l' := [(u8i (w64 (p1.Off + (1 : Int))))].length) rfl un125 ei5 rfl rfl (by rfl) rfl rfl rfl) rfl (t1 ([3], false) (cvo (v := .d (eS [(u8i (w64 (p1.Off + (1 : Int))))])) rfl (cv_bytes_str un125 un9 un5 (el_full (xs := [(u8i (w64 (p1.Off + (1 : Int))))]) rfl) (fun _ hh => by cases hh))) rfl (t1 ([], false) (far (k := 1) rfl fo162_1 ts9 rfl) rfl (t1 ([0], false) (lod rfl (ld_box ts9 ta9 rfl rfl)) rfl ?_)))))))))
        exact t1 ([], false) (slo rfl rfl rfl rfl (sl_str_lo un9 hg189)) rfl (t1 ([], false) (bi (v := .d (eS ([(u8i (w64 (p1.Off + (1 : Int))))] ++ (List.drop (1 : Int).toNat p0.s)))) rfl rfl (fun X Y => b_str_add _ X Y [(u8i (w64 (p1.Off + (1 : Int))))] (List.drop (1 : Int).toNat p0.s) hg190)) rfl (t1 ([], false) (far (k := 4) rfl fo63_4 ts9 rfl) rfl (t1 ([1], false) (lod rfl (ld_box ts9 ta9 rfl rfl)) rfl (t1 ([], false) (bi (v := .d (eS (([(u8i (w64 (p1.Off + (1 : Int))))] ++ (List.drop (1 : Int).toNat p0.s)) ++ p1.Val))) rfl rfl (fun X Y => b_str_add _ X Y ([(u8i (w64 (p1.Off + (1 : Int))))] ++ (List.drop (1 : Int).toNat p0.s)) p1.Val hg191)) rfl (t1 ([], false) (bld rfl (bd162_0_1 true (([(u8i (w64 (p1.Off + (1 : Int))))] ++ (List.drop (1 : Int).toNat p0.s)) ++ p1.Val))) rfl (t0 ([2], true) (sto rfl rfl (sB (d' := .d (eGranaryref09Val (Granaryref09Val.mk true (([(u8i (w64 (p1.Off + (1 : Int))))] ++ (List.drop (1 : Int).toNat p0.s)) ++ p1.Val)))) ts162 rfl rfl rfl rfl rfl rfl rfl)) rfl (tn (by decide +kernel) (SC.ret (finR (wc (e' := [(4, .ref 0 0 0)]) [2] [2] (by kernel_rfl) rfl (by kernel_rfl)) (lresC rfl (ld_box ts162 ta162 rfl rfl) lresN) rfl)))))))))
     ·have q := si h1; subst q
      exact SC.skip (lf (wc [0, 2] [0, 2] (by kernel_rfl) rfl (by kernel_rfl)))
 ·intro _ h0
  have q := si h0; subst q
  exact sr (s1 (lod (v := .d (eGranaryref09Val p0)) rfl (ld_box ts162 ta162 rfl rfl)) (s0 (sto rfl rfl (sB (d' := .d (eGranaryref09Val p0)) ts162 rfl rfl rfl rfl rfl rfl rfl)) (sn (SC.ret (finR (wc (e' := [(4, .ref 0 0 0)]) [1] [1] (by kernel_rfl) rfl (by kernel_rfl)) (lresC rfl (ld_box ts162 ta162 rfl rfl) lresN) rfl)))))
noncomputable def ref09_Apply (p0 : ApiEntry) (p1 : ApiMsg) : Option ApiEntry :=
 Option.bind (α := UInt64 × Granaryref09Val × Granaryref09Val)
 (Option.bind (α := Bool)
 (bif (p1.Kind == (1 : Int)) then
 some (p1.Kind == (1 : Int))
 else
 bif (p1.Kind == (2 : Int)) then
 some (p1.Kind == (2 : Int))
 else
 some (p1.Kind == (3 : Int)))
 fun y81 =>
 bif y81 then
 bif (p1.Txn == (0 : UInt64)) then
 Option.bind (ref09_changed (Granaryref09Val.mk p0.Has p0.Val) p1) fun r83 =>
 some (p0.Txn, r83, (Granaryref09Val.mk p0.New p0.NewVal))
 else
 Option.bind (α := Bool)
 (bif (p1.Kind != (3 : Int)) then
 some true
 else
 some (decide (p1.Off ≥ (0 : Int))))
 fun y85 =>
 bif y85 then
 Option.bind (α := UInt64 × Granaryref09Val)
 (bif (p0.Txn == (0 : UInt64)) then
 some (p1.Txn, (Granaryref09Val.mk p0.Has p0.Val))
 else
 some (p0.Txn, (Granaryref09Val.mk p0.New p0.NewVal)))
 fun (y87, y88) =>
 bif (y87 == p1.Txn) then
 Option.bind (ref09_changed y88 p1) fun r90 =>
 some (y87, (Granaryref09Val.mk p0.Has p0.Val), r90)
 else
 some (y87, (Granaryref09Val.mk p0.Has p0.Val), y88)
 else
 some (p0.Txn, (Granaryref09Val.mk p0.Has p0.Val), (Granaryref09Val.mk p0.New p0.NewVal))
 else
 bif (p1.Kind == (4 : Int)) then
 Option.bind (ref09_changed (Granaryref09Val.mk p0.Has p0.Val) p1) fun r92 =>
 Option.bind (ref09_changed (Granaryref09Val.mk p0.New p0.NewVal) p1) fun r94 =>
 some (p0.Txn, r92, r94)
 else
 Option.bind (α := Bool)
 (bif (p1.Kind == (5 : Int)) then
 some (p1.Kind == (5 : Int))
 else
 some (p1.Kind == (6 : Int)))
 fun y96 =>
 bif y96 then
 Option.bind (α := Bool)
 (bif (p0.Txn == p1.Txn) then
 some (p0.Txn != (0 : UInt64))
 else
 some false)
 fun y98 =>
 bif y98 then
 Option.bind (α := Granaryref09Val)
 (bif (p1.Kind == (5 : Int)) then
 some (Granaryref09Val.mk p0.New p0.NewVal)
 else
 some (Granaryref09Val.mk p0.Has p0.Val))
 fun y100 =>
 some ((0 : UInt64), y100, (Granaryref09Val.mk p0.New p0.NewVal))
 else
 some (p0.Txn, (Granaryref09Val.mk p0.Has p0.Val), (Granaryref09Val.mk p0.New p0.NewVal))
 else
 some (p0.Txn, (Granaryref09Val.mk p0.Has p0.Val), (Granaryref09Val.mk p0.New p0.NewVal)))
 fun (y77, y78, y79) =>
 Option.bind (α := ApiEntry)
 (bif y78.has then
 some (ApiEntry.mk p0.Key y78.has y78.s y77 false ([] : List UInt8))
 else
 some (ApiEntry.mk p0.Key y78.has ([] : List UInt8) y77 false ([] : List UInt8)))
 fun y102 =>
 Option.bind (α := ApiEntry)
 (Option.bind (α := Bool)
 (bif (y77 != (0 : UInt64)) then
 some y79.has
 else
 some false)
 fun y108 =>
 bif y108 then
 some (ApiEntry.mk y102.Key y102.Has y102.Val y102.Txn true y79.s)
 else
 some y102)
 fun y106 =>
 some y106
theorem ref09_Apply_ok (p0 : ApiEntry) (p1 : ApiMsg) (r : ApiEntry) (h0 : ref09_Apply p0 p1 = some r) : CallAt Tryz.prog 55 [.d (eApiEntry p0), .d (eApiMsg p1)] [] (.d (eApiEntry r)) [.box (.d (eApiEntry r))] := by
 unfold ref09_Apply at h0
 refine fn0 [0, 1] Tryz.func55 rfl rfl rfl rfl rfl ?_
 refine sr (s1 (bxo (k := 0) rfl rfl rfl) (s1 (bxo (k := 1) rfl rfl rfl) (s1 (alo (k := 2) zo72 rfl) (sn (sr (s1 (far (k := 1) rfl fo72_1 ts4 rfl) (s1 (lod rfl (ld_box ts4 ta4 rfl rfl)) (s1 (far (k := 2) rfl fo72_2 ts9 rfl) (s1 (lod rfl (ld_box ts9 ta9 rfl rfl)) ?_)))))))))
 refine s1 (bld rfl (bd162_0_1 p0.Has p0.Val)) (s1 (alo (k := 3) zo162 rfl) (s0 (sto rfl rfl (sB (d' := .d (eGranaryref09Val (Granaryref09Val.mk p0.Has p0.Val))) ts162 rfl rfl rfl rfl rfl rfl rfl)) (sn (sr (s1 (far (k := 4) rfl fo72_4 ts4 rfl) (s1 (lod rfl (ld_box ts4 ta4 rfl rfl)) (s1 (far (k := 5) rfl fo72_5 ts9 rfl) (s1 (lod rfl (ld_box ts9 ta9 rfl rfl)) (s1 (bld rfl (bd162_0_1 p0.New p0.NewVal)) ?_)))))))))
 refine s1 (alo (k := 4) zo162 rfl) (s0 (sto rfl rfl (sB (d' := .d (eGranaryref09Val (Granaryref09Val.mk p0.New p0.NewVal))) ts162 rfl rfl rfl rfl rfl rfl rfl)) (sn (sr (s1 (far (k := 3) rfl fo72_3 ts54 rfl) (s1 (lod rfl (ld_box ts54 ta54 rfl rfl)) (sa rfl (sn (SC.seqP h0 (fun y => ⟨mk 98 [(2, .ref 0 0 0), (4, .ref 1 0 0), (5, .ref 2 0 0), (6, .ref 3 0 0), (7, .d (eU64 y.1))], [.box (.d (eApiEntry p0)), .box (.d (eApiEntry (ApiEntry.mk ([] : List UInt8) false ([] : List UInt8) (0 : UInt64) false ([] : List UInt8)))), .box (.d (eGranaryref09Val y.2.1)), .box (.d (eGranaryref09Val y.2.2))]⟩) ?_ ?_))))))))
 ·intro u1_80 h1
  refine sr (s1 (far (k := 1) rfl fo63_1 ts3 rfl) (s1 (lod rfl (ld_box ts3 ta3 rfl rfl)) (sn (SC.blk (SC.seqP h1 (fun y => ⟨mk 98 [(2, .ref 0 0 0), (3, .ref 1 0 0), (4, .ref 2 0 0), (5, .ref 3 0 0), (6, .ref 4 0 0), (7, .d (eU64 p0.Txn)), (22, .d (eI p1.Kind)), (23, .d (eB y))], [.box (.d (eApiEntry p0)), .box (.d (eApiMsg p1)), .box (.d (eApiEntry (ApiEntry.mk ([] : List UInt8) false ([] : List UInt8) (0 : UInt64) false ([] : List UInt8)))), .box (.d (eGranaryref09Val (Granaryref09Val.mk p0.Has p0.Val))), .box (.d (eGranaryref09Val (Granaryref09Val.mk p0.New p0.NewVal)))]⟩) ?_ ?_)))))
  ·intro u2_82 h2
   refine sr (s1 (bi rfl rfl q_i64_eql) (sa rfl (sn (cB h2 rfl (fun h2 => ?_) (fun h2 => ?_)))))
   ·have q := si h2; subst q
    exact SC.skip ((wq rfl))
   ·refine sr (s1 (bi rfl rfl q_i64_eql) (sa rfl (sn (cB h2 rfl (fun h2 => ?_) (fun h2 => ?_)))))
    ·have q := si h2; subst q
     exact SC.skip ((wq rfl))
    ·have q := si h2; subst q
     exact SC.region (s1 (bi rfl rfl q_i64_eql) (sa rfl (SO.nil ((wq rfl)))))
  ·rintro y81 h1
   refine cB h1 rfl (fun h1 => ?_) (fun h1 => ?_)
   ·refine sr (s1 (far (k := 3) rfl fo63_3 ts54 rfl) (s1 (lod rfl (ld_box ts54 ta54 rfl rfl)) (s1 (bi rfl rfl (q_u64_eql (b := (0 : UInt64)))) (sn (cB h1 rfl (fun h1 => ?_) (fun h1 => ?_))))))
    ·obtain ⟨r83, hq84, h1⟩ := ob h1; have q := si h1; subst q
     exact SC.region (s1 (lod (v := .d (eGranaryref09Val (Granaryref09Val.mk p0.Has p0.Val))) rfl (ld_box ts162 ta162 rfl rfl)) (s1 (lod (v := .d (eApiMsg p1)) rfl (ld_box ts63 ta63 rfl rfl)) (cq [] [5] (ref09_changed_ok (Granaryref09Val.mk p0.Has p0.Val) p1 _ hq84) wf rfl rfl rfl cb85 rfl rfl rfl rfl rfl rfl rfl rfl (s0 (sto rfl rfl (sB (d' := .d (eGranaryref09Val r83)) ts162 rfl rfl rfl rfl rfl rfl rfl)) (SO.nil ((wc [0, 2, 3, 4] [0, 2, 3, 4] (by kernel_rfl) rfl (by kernel_rfl))))))))
    ·refine SC.seqP h1 (fun y => ⟨mk 98 [(2, .ref 0 0 0), (3, .ref 1 0 0), (4, .ref 2 0 0), (5, .ref 3 0 0), (6, .ref 4 0 0), (7, .d (eU64 p0.Txn)), (40, .d (eB y))], [.box (.d (eApiEntry p0)), .box (.d (eApiMsg p1)), .box (.d (eApiEntry (ApiEntry.mk ([] : List UInt8) false ([] : List UInt8) (0 : UInt64) false ([] : List UInt8)))), .box (.d (eGranaryref09Val (Granaryref09Val.mk p0.Has p0.Val))), .box (.d (eGranaryref09Val (Granaryref09Val.mk p0.New p0.NewVal)))]⟩) ?_ ?_
     ·intro u2_86 h2
      refine SC.region (s1 (far (k := 1) rfl fo63_1 ts3 rfl) (s1 (lod rfl (ld_box ts3 ta3 rfl rfl)) (s1 (bi rfl rfl q_i64_neq) (sm rfl (sp h2 (fun h2 => ?_) (fun h2 => ?_))))))
      ·have q := si h2; subst q
       exact kw rfl (kw rfl (kw rfl (s1 (pkt rfl rfl) (SO.nil ((wq rfl))))))
      ·have q := si h2; subst q
       exact gw rfl (far (k := 5) rfl fo63_5 ts3 rfl) (gw rfl (lod rfl (ld_box ts3 ta3 rfl rfl)) (gw rfl (bi rfl rfl q_i64_geq) (s1 (pkf rfl rfl) (SO.nil ((wq rfl))))))
     ·rintro y85 h1
      refine cB h1 rfl (fun h1 => ?_) (fun h1 => ?_)
      ·refine SC.seqP h1 (fun y => ⟨mk 98 [(2, .ref 0 0 0), (3, .ref 1 0 0), (4, .ref 2 0 0), (5, .ref 3 0 0), (6, .ref 4 0 0), (7, .d (eU64 y.1))], [.box (.d (eApiEntry p0)), .box (.d (eApiMsg p1)), .box (.d (eApiEntry (ApiEntry.mk ([] : List UInt8) false ([] : List UInt8) (0 : UInt64) false ([] : List UInt8)))), .box (.d (eGranaryref09Val (Granaryref09Val.mk p0.Has p0.Val))), .box (.d (eGranaryref09Val y.2))]⟩) ?_ ?_
       ·intro u2_89 h2
        refine sr (sm rfl (s1 (bi rfl rfl (q_u64_eql (b := (0 : UInt64)))) (sn (cB h2 rfl (fun h2 => ?_) (fun h2 => ?_)))))
        ·have q := si h2; subst q
         exact sr (s1 (far (k := 3) rfl fo63_3 ts54 rfl) (s1 (lod rfl (ld_box ts54 ta54 rfl rfl)) (sa rfl (sn (SC.region (s1 (lod (v := .d (eGranaryref09Val (Granaryref09Val.mk p0.Has p0.Val))) rfl (ld_box ts162 ta162 rfl rfl)) (s0 (sto rfl rfl (sB (d' := .d (eGranaryref09Val (Granaryref09Val.mk p0.Has p0.Val))) ts162 rfl rfl rfl rfl rfl rfl rfl)) (SO.nil ((wq rfl))))))))))
        ·have q := si h2; subst q
         exact SC.skip ((wq rfl))
       ·rintro ⟨y87, y88⟩ h1
        refine sr (sm rfl (s1 (far (k := 3) rfl fo63_3 ts54 rfl) (s1 (lod rfl (ld_box ts54 ta54 rfl rfl)) (s1 (bi rfl rfl q_u64_eql) (sn (cB h1 rfl (fun h1 => ?_) (fun h1 => ?_)))))))
        ·obtain ⟨r90, hq91, h1⟩ := ob h1; have q := si h1; subst q
         exact SC.region (s1 (lod (v := .d (eGranaryref09Val y88)) rfl (ld_box ts162 ta162 rfl rfl)) (s1 (lod (v := .d (eApiMsg p1)) rfl (ld_box ts63 ta63 rfl rfl)) (cq [] [5] (ref09_changed_ok y88 p1 _ hq91) wf rfl rfl rfl cb85 rfl rfl rfl rfl rfl rfl rfl rfl (s0 (sto rfl rfl (sB (d' := .d (eGranaryref09Val r90)) ts162 rfl rfl rfl rfl rfl rfl rfl)) (SO.nil ((wc [0, 2, 3, 4] [0, 2, 3, 4] (by kernel_rfl) rfl (by kernel_rfl))))))))
        ·have q := si h1; subst q
         exact SC.skip ((wc [0, 2, 3, 4] [0, 2, 3, 4] (by kernel_rfl) rfl (by kernel_rfl)))
      ·have q := si h1; subst q
       exact SC.skip ((wc [0, 2, 3, 4] [0, 2, 3, 4] (by kernel_rfl) rfl (by kernel_rfl)))
   ·refine sr (s1 (bi rfl rfl q_i64_eql) (sa rfl (sn (cB h1 rfl (fun h1 => ?_) (fun h1 => ?_)))))
    ·obtain ⟨r92, hq93, h1⟩ := ob h1; obtain ⟨r94, hq95, h1⟩ := ob h1; have q := si h1; subst q
     refine sr (s1 (lod (v := .d (eGranaryref09Val (Granaryref09Val.mk p0.Has p0.Val))) rfl (ld_box ts162 ta162 rfl rfl)) (s1 (lod (v := .d (eApiMsg p1)) rfl (ld_box ts63 ta63 rfl rfl)) (cq [] [5] (ref09_changed_ok (Granaryref09Val.mk p0.Has p0.Val) p1 _ hq93) wf rfl rfl rfl cb85 rfl rfl rfl rfl rfl rfl rfl rfl (s0 (sto rfl rfl (sB (d' := .d (eGranaryref09Val r92)) ts162 rfl rfl rfl rfl rfl rfl rfl)) (sn (SC.region (s1 (lod (v := .d (eGranaryref09Val (Granaryref09Val.mk p0.New p0.NewVal))) rfl (ld_box ts162 ta162 rfl rfl)) (s1 (lod (v := .d (eApiMsg p1)) rfl (ld_box ts63 ta63 rfl rfl)) (cq [] [6] (ref09_changed_ok (Granaryref09Val.mk p0.New p0.NewVal) p1 _ hq95) wf rfl rfl rfl cb85 rfl rfl rfl rfl rfl rfl rfl rfl ?_)))))))))
     exact s0 (sto rfl rfl (sB (d' := .d (eGranaryref09Val r94)) ts162 rfl rfl rfl rfl rfl rfl rfl)) (SO.nil ((wc [0, 2, 3, 4] [0, 2, 3, 4] (by kernel_rfl) rfl (by kernel_rfl))))
    ·refine SC.seqP h1 (fun y => ⟨mk 98 [(2, .ref 0 0 0), (3, .ref 1 0 0), (4, .ref 2 0 0), (5, .ref 3 0 0), (6, .ref 4 0 0), (7, .d (eU64 p0.Txn)), (61, .d (eB y))], [.box (.d (eApiEntry p0)), .box (.d (eApiMsg p1)), .box (.d (eApiEntry (ApiEntry.mk ([] : List UInt8) false ([] : List UInt8) (0 : UInt64) false ([] : List UInt8)))), .box (.d (eGranaryref09Val (Granaryref09Val.mk p0.Has p0.Val))), .box (.d (eGranaryref09Val (Granaryref09Val.mk p0.New p0.NewVal)))]⟩) ?_ ?_
     ·intro u2_97 h2
      refine sr (s1 (bi rfl rfl q_i64_eql) (sa rfl (sn (cB h2 rfl (fun h2 => ?_) (fun h2 => ?_)))))
      ·have q := si h2; subst q
       exact SC.skip ((wq rfl))
      ·have q := si h2; subst q
       exact SC.region (s1 (bi rfl rfl q_i64_eql) (sa rfl (SO.nil ((wq rfl)))))
     ·rintro y96 h1
      refine cB h1 rfl (fun h1 => ?_) (fun h1 => ?_)
      ·refine SC.seqP h1 (fun y => ⟨mk 98 [(2, .ref 0 0 0), (3, .ref 1 0 0), (4, .ref 2 0 0), (5, .ref 3 0 0), (6, .ref 4 0 0), (7, .d (eU64 p0.Txn)), (71, .d (eB y))], [.box (.d (eApiEntry p0)), .box (.d (eApiMsg p1)), .box (.d (eApiEntry (ApiEntry.mk ([] : List UInt8) false ([] : List UInt8) (0 : UInt64) false ([] : List UInt8)))), .box (.d (eGranaryref09Val (Granaryref09Val.mk p0.Has p0.Val))), .box (.d (eGranaryref09Val (Granaryref09Val.mk p0.New p0.NewVal)))]⟩) ?_ ?_
       ·intro u2_99 h2
        refine SC.region (sm rfl (s1 (far (k := 3) rfl fo63_3 ts54 rfl) (s1 (lod rfl (ld_box ts54 ta54 rfl rfl)) (s1 (bi rfl rfl q_u64_eql) (sm rfl (sp h2 (fun h2 => ?_) (fun h2 => ?_)))))))
        ·have q := si h2; subst q
         exact gw rfl (mv rfl) (gw rfl (bi rfl rfl (q_u64_neq (b := (0 : UInt64)))) (s1 (pkt rfl rfl) (SO.nil ((wq rfl)))))
        ·have q := si h2; subst q
         exact kw rfl (kw rfl (s1 (pkf rfl rfl) (SO.nil ((wq rfl)))))
       ·rintro y98 h1
        refine cB h1 rfl (fun h1 => ?_) (fun h1 => ?_)
        ·refine SC.seqP h1 (fun y => ⟨mk 98 [(2, .ref 0 0 0), (4, .ref 1 0 0), (5, .ref 2 0 0), (6, .ref 3 0 0)], [.box (.d (eApiEntry p0)), .box (.d (eApiEntry (ApiEntry.mk ([] : List UInt8) false ([] : List UInt8) (0 : UInt64) false ([] : List UInt8)))), .box (.d (eGranaryref09Val y)), .box (.d (eGranaryref09Val (Granaryref09Val.mk p0.New p0.NewVal)))]⟩) ?_ ?_
         ·intro u2_101 h2
          refine sr (s1 (far (k := 1) rfl fo63_1 ts3 rfl) (s1 (lod rfl (ld_box ts3 ta3 rfl rfl)) (s1 (bi rfl rfl q_i64_eql) (sn (cB h2 rfl (fun h2 => ?_) (fun h2 => ?_))))))
          ·have q := si h2; subst q
           exact SC.region (s1 (lod (v := .d (eGranaryref09Val (Granaryref09Val.mk p0.New p0.NewVal))) rfl (ld_box ts162 ta162 rfl rfl)) (s0 (sto rfl rfl (sB (d' := .d (eGranaryref09Val (Granaryref09Val.mk p0.New p0.NewVal))) ts162 rfl rfl rfl rfl rfl rfl rfl)) (SO.nil ((wc [0, 2, 3, 4] [0, 2, 3, 4] (by kernel_rfl) rfl (by kernel_rfl))))))
          ·have q := si h2; subst q
           exact SC.skip ((wc [0, 2, 3, 4] [0, 2, 3, 4] (by kernel_rfl) rfl (by kernel_rfl)))
         ·rintro y100 h1
          have q := si h1; subst q
          exact SC.region (s1 (asg (v := .d (eU64 (0 : UInt64))) rfl) (SO.nil ((wq rfl))))
        ·have q := si h1; subst q
         exact SC.skip ((wc [0, 2, 3, 4] [0, 2, 3, 4] (by kernel_rfl) rfl (by kernel_rfl)))
      ·have q := si h1; subst q
       exact SC.skip ((wc [0, 2, 3, 4] [0, 2, 3, 4] (by kernel_rfl) rfl (by kernel_rfl)))
 ·rintro ⟨y77, y78, y79⟩ h0
  refine sr (s1 (far (k := 0) rfl fo72_0 ts9 rfl) (s1 (lod rfl (ld_box ts9 ta9 rfl rfl)) (s1 (far (k := 0) rfl fo162_0 ts4 rfl) (s1 (lod rfl (ld_box ts4 ta4 rfl rfl)) (sm rfl (s1 (bld rfl (bd72_0_1_3 p0.Key y78.has y77)) (s1 (alo (k := 4) zo72 rfl) (s0 (sto rfl rfl (sB (d' := .d (eApiEntry (ApiEntry.mk p0.Key y78.has ([] : List UInt8) y77 false ([] : List UInt8)))) ts72 rfl rfl rfl rfl rfl rfl rfl)) (sn ?_)))))))))
  refine SC.seqP h0 (fun y => ⟨mk 98 [(4, .ref 0 0 0), (6, .ref 1 0 0), (7, .d (eU64 y77)), (8, .ref 2 0 0)], [.box (.d (eApiEntry (ApiEntry.mk ([] : List UInt8) false ([] : List UInt8) (0 : UInt64) false ([] : List UInt8)))), .box (.d (eGranaryref09Val y79)), .box (.d (eApiEntry y))]⟩) ?_ ?_
  ·intro u1_103 h1
   refine sr (s1 (far (k := 0) rfl fo162_0 ts4 rfl) (s1 (lod rfl (ld_box ts4 ta4 rfl rfl)) (sn (cB h1 rfl (fun h1 => ?_) (fun h1 => ?_)))))
   ·have q := si h1; subst q
    exact SC.region (s1 (far (k := 1) rfl fo162_1 ts9 rfl) (s1 (lod rfl (ld_box ts9 ta9 rfl rfl)) (s1 (far (k := 2) rfl fo72_2 ts9 rfl) (s0 (sto rfl rfl (sB (d' := .d (eApiEntry (ApiEntry.mk p0.Key y78.has y78.s y77 false ([] : List UInt8)))) ts9 rfl rfl rfl rfl rfl rfl rfl)) (SO.nil ((wc [1, 3, 4] [1, 3, 4] (by kernel_rfl) rfl (by kernel_rfl))))))))
   ·have q := si h1; subst q
    exact SC.skip ((wc [1, 3, 4] [1, 3, 4] (by kernel_rfl) rfl (by kernel_rfl)))
  ·rintro y102 h0
   refine SC.seqP h0 (fun y => ⟨mk 98 [(4, .ref 0 0 0), (8, .ref 1 0 0)], [.box (.d (eApiEntry (ApiEntry.mk ([] : List UInt8) false ([] : List UInt8) (0 : UInt64) false ([] : List UInt8)))), .box (.d (eApiEntry y))]⟩) ?_ ?_
   ·intro u1_107 h1
    refine SC.seqP h1 (fun y => ⟨mk 98 [(4, .ref 0 0 0), (6, .ref 1 0 0), (8, .ref 2 0 0), (92, .d (eB y))], [.box (.d (eApiEntry (ApiEntry.mk ([] : List UInt8) false ([] : List UInt8) (0 : UInt64) false ([] : List UInt8)))), .box (.d (eGranaryref09Val y79)), .box (.d (eApiEntry y102))]⟩) ?_ ?_
    ·intro u2_109 h2
     refine SC.region (sm rfl (s1 (bi rfl rfl (q_u64_neq (b := (0 : UInt64)))) (sm rfl (sp h2 (fun h2 => ?_) (fun h2 => ?_)))))
     ·have q := si h2; subst q
      exact gw rfl (far (k := 0) rfl fo162_0 ts4 rfl) (gw rfl (lod rfl (ld_box ts4 ta4 rfl rfl)) (s1 (pkt rfl rfl) (SO.nil ((wq rfl)))))
     ·have q := si h2; subst q
      exact kw rfl (kw rfl (s1 (pkf rfl rfl) (SO.nil ((wq rfl)))))
    ·rintro y108 h1
     refine cB h1 rfl (fun h1 => ?_) (fun h1 => ?_)
     ·have q := si h1; subst q
      refine sr (s1 (far (k := 4) rfl fo72_4 ts4 rfl) (s0 (sto (b := .d (eB true)) rfl rfl (sB (d' := .d (eApiEntry (ApiEntry.mk y102.Key y102.Has y102.Val y102.Txn true y102.NewVal))) ts4 rfl rfl rfl rfl rfl rfl rfl)) (sn (SC.region (s1 (far (k := 1) rfl fo162_1 ts9 rfl) (s1 (lod rfl (ld_box ts9 ta9 rfl rfl)) (s1 (far (k := 5) rfl fo72_5 ts9 rfl) (s0 (sto rfl rfl (sB (d' := .d (eApiEntry (ApiEntry.mk y102.Key y102.Has y102.Val y102.Txn true y79.s))) ts9 rfl rfl rfl rfl rfl rfl rfl)) (SO.nil ?_)))))))))
      exact (wc [0, 2] [0, 2] (by kernel_rfl) rfl (by kernel_rfl))
     ·have q := si h1; subst q
      exact SC.skip ((wc [0, 2] [0, 2] (by kernel_rfl) rfl (by kernel_rfl)))
   ·rintro y106 h0
    have q := si h0; subst q
    exact sr (s1 (lod (v := .d (eApiEntry y106)) rfl (ld_box ts72 ta72 rfl rfl)) (s0 (sto rfl rfl (sB (d' := .d (eApiEntry y106)) ts72 rfl rfl rfl rfl rfl rfl rfl)) (sn (SC.ret (finR (wc (e' := [(4, .ref 0 0 0)]) [0] [0] (by kernel_rfl) rfl (by kernel_rfl)) (lresC rfl (ld_box ts72 ta72 rfl rfl) lresN) rfl)))))
noncomputable def ref09_Gone (p0 : ApiEntry) : Option Bool :=
 Option.bind (α := Bool)
 (bif (!p0.Has) then
 some (p0.Txn == (0 : UInt64))
 else
 some false)
 fun y4 =>
 some y4
theorem ref09_Gone_ok (p0 : ApiEntry) (r : Bool) (h0 : ref09_Gone p0 = some r) : CallAt Tryz.prog 56 [.d (eApiEntry p0)] [] (.d (eB r)) [] := by
 unfold ref09_Gone at h0
 refine fn0 [0] Tryz.func56 rfl rfl rfl rfl rfl ?_
 refine sr (s1 (bxo (k := 0) rfl rfl rfl) (sa rfl (sn (SC.seqP h0 (fun y => ⟨mk 11 [(2, .d (eB y))], []⟩) ?_ ?_))))
 ·intro u1_5 h1
  refine SC.region (s1 (far (k := 1) rfl fo72_1 ts4 rfl) (s1 (lod rfl (ld_box ts4 ta4 rfl rfl)) (s1 (nt rfl) (sm rfl (sp h1 (fun h1 => ?_) (fun h1 => ?_))))))
  ·have q := si h1; subst q
   exact gw rfl (far (k := 3) rfl fo72_3 ts54 rfl) (gw rfl (lod rfl (ld_box ts54 ta54 rfl rfl)) (gw rfl (bi rfl rfl (q_u64_eql (b := (0 : UInt64)))) (s1 (pkt rfl rfl) (sa rfl (SO.nil ((wc [] [] (by kernel_rfl) rfl (by kernel_rfl))))))))
  ·have q := si h1; subst q
   exact kw rfl (kw rfl (kw rfl (s1 (pkf rfl rfl) (sa rfl (SO.nil ((wc [] [] (by kernel_rfl) rfl (by kernel_rfl))))))))
 ·rintro y4 h0
  have q := si h0; subst q
  exact SC.ret (finR (Wk.refl _) (lresT rfl lresN) rfl)
noncomputable def ref11_Tree_Inject (p0 : ApiMsg) : Option ((List ApiEntry)) :=
 Option.bind (α := (List ApiEntry))
 (Option.bind (α := (List ApiEntry))
 (loop (Y := Unit) (W := (List ApiEntry)) (fun _ =>
 Option.bind (α := (List ApiEntry) × Bool)
 (Option.bind (α := Bool)
 (bif (!(p0.Kind == (4 : Int))) then
 some true
 else
 some false)
 fun y313 =>
 bif y313 then
 Option.bind (α := Unit)
 (some ())
 fun _ =>
 Option.bind (ref09_Apply (ApiEntry.mk p0.Key false ([] : List UInt8) (0 : UInt64) false ([] : List UInt8)) p0) fun r316 =>
 Option.bind (ref09_Gone r316) fun r318 =>
 bif (!r318) then
 bif decide ([r316].length * 72 ≤ room) then
 some ([r316], true)
 else none
 else
 some (([] : List ApiEntry), true)
 else
 some (([] : List ApiEntry), (p0.Kind == (4 : Int))))
 fun (y310, y311) =>
 some (Sum.inr y310)) ())
 (fun e => some e))
 fun y241 =>
 some y241
theorem ref11_Tree_Inject_ok (p0 : ApiMsg) (r : (List ApiEntry)) (h0 : ref11_Tree_Inject p0 = some r) : CallAt Tryz.prog 17 [.ref 0 0 0, .d (eApiMsg p0)] [.box (.d (.agg [.nils]))] (.tuple []) [.box (.agg [.slc 1 6 0 r.length none]), .row 6 (List.map eApiEntry r) true] := by
 unfold ref11_Tree_Inject at h0
 refine fn0 [0, 1] Tryz.func17 rfl rfl rfl rfl rfl ?_
 refine sr (s1 (bxo (k := 1) rfl rfl rfl) (sn (sr (s1 (asg (v := .d .nils) rfl) (sn (sr (s1 (far (k := 1) rfl fo63_1 ts3 rfl) (s1 (lod rfl (ld_box ts3 ta3 rfl rfl)) (s1 (bi rfl rfl q_i64_eql) ?_)))))))))
 refine sa rfl (sn (SC.seqP h0 (fun y => ⟨mk 115 [(0, .ref 0 0 0), (4, .slc 1 6 0 y.length none)], [.box (.d (.agg [.nils])), .row 6 (List.map eApiEntry y) true]⟩) ?_ ?_))
 ·intro u1_242 h1
  obtain ⟨u2_282, h2, h1⟩ := ob h1
  refine sr (sa rfl (sn (SC.blk (SC.loopB h2 (fun y => ⟨mk 115 [(0, .ref 0 0 0), (3, .ref 1 0 0), (4, .d .nils), (5, .d (eB (p0.Kind == (4 : Int)))), (6, .d (eI (0 : Int)))], [.box (.d (.agg [.nils])), .box (.d (eApiMsg p0))]⟩) (wq rfl) ?_))))
  intro n321
  intro _ w2_281 h3 hv3
  refine sq (sr (sm rfl (sm rfl (s1 (nkr rfl) (s1 (far (k := 0) rfl fo60_0 ts58 rfl) (s1 (lod rfl (ld_box ts58 ta58 rfl rfl)) (s1 (len rfl rfl rfl (len_nil un58)) (s1 (bi (v := .d (eB true)) rfl rfl (fun _ _ => rfl)) (sn ?_)))))))))
  refine cT rfl (sk (sq (SC.blk (SC.seqP h3 (fun y => ⟨mk 115 [(0, .ref 0 0 0), (3, .ref 1 0 0), (4, .slc 2 6 0 y.1.length none), (5, .d (eB y.2)), (6, .d (eI (0 : Int)))], [.box (.d (.agg [.nils])), .box (.d (eApiMsg p0)), .row 6 (List.map eApiEntry y.1) true]⟩) ?_ ?_))))
  ·intro u4_312 h4
   refine SC.seqP h4 (fun y => ⟨mk 115 [(0, .ref 0 0 0), (3, .ref 1 0 0), (4, .d .nils), (5, .d (eB (p0.Kind == (4 : Int)))), (6, .d (eI (0 : Int))), (44, .d (eB y))], [.box (.d (.agg [.nils])), .box (.d (eApiMsg p0))]⟩) ?_ ?_
   ·intro u5_314 h5
    refine SC.draws (by kernel_rfl) (t1 ([], false) (mv rfl) rfl (t1 ([], false) (nt rfl) rfl (t1 ([], false) (mv rfl) rfl (tp h5 (fun h5 => ?_) (fun h5 => ?_)))))
    ·have q := si h5; subst q
     refine u1 ([], false) (ww rfl) (mv rfl) rfl (u1 ([], false) (ww rfl) (mv rfl) rfl (u1 ([], false) (ww rfl) (nkr rfl) rfl (u1 ([], false) (ww rfl) (far (k := 0) rfl fo60_0 ts58 rfl) rfl (u1 ([0], false) (ww rfl) (lod rfl (ld_box ts58 ta58 rfl rfl)) rfl (u1 ([], false) (ww rfl) (len rfl rfl rfl (len_nil un58)) rfl (u1 ([], false) (ww rfl) (bi (v := .d (eB true)) rfl rfl (fun _ _ => rfl)) rfl (u1 ([], false) (ww rfl) (mv rfl) rfl (jw rfl (jw rfl ?_)))))))))
     refine jw rfl (jw rfl (jw rfl (jw rfl (jw rfl (jw rfl (jw rfl (jw rfl (jw rfl (u1 ([], false) (ww rfl) (pkt rfl rfl) rfl ?_)))))))))
     refine t1 ([], false) (pkt rfl rfl) rfl (ST.nil (And.intro (by decide +kernel) ?_))
     exact (wq rfl)
    ·have q := si h5; subst q
     refine jw rfl (jw rfl (jw rfl (jw rfl (jw rfl (jw rfl (jw rfl (jw rfl (jw rfl (jw rfl ?_)))))))))
     refine jw rfl (jw rfl (jw rfl (jw rfl (jw rfl (jw rfl (jw rfl (jw rfl (jw rfl (jw rfl ?_)))))))))
     refine t1 ([], false) (pkf rfl rfl) rfl (ST.nil (And.intro (by decide +kernel) ?_))
     exact (wq rfl)
   ·rintro y313 h4
    refine cB h4 rfl (fun h4 => ?_) (fun h4 => ?_)
    ·refine sr (sa rfl (sn (SC.seqP h4 (fun y => ⟨mk 115 [(0, .ref 0 0 0), (3, .ref 1 0 0), (4, .d .nils), (5, .d (eB true)), (6, .d (eI (0 : Int))), (64, .d (eB true))], [.box (.d (.agg [.nils])), .box (.d (eApiMsg p0))]⟩) ?_ ?_)))
     ·intro u5_315 h5
      have q := si h5; subst q
      refine SC.draws (by kernel_rfl) (t1 ([], false) (mv rfl) rfl (t1 ([], false) (mv rfl) rfl (t1 ([], false) (nkr rfl) rfl (t1 ([], false) (far (k := 0) rfl fo60_0 ts58 rfl) rfl (t1 ([0], false) (lod rfl (ld_box ts58 ta58 rfl rfl)) rfl (t1 ([], false) (len rfl rfl rfl (len_nil un58)) rfl (t1 ([], false) (bi (v := .d (eB true)) rfl rfl (fun _ _ => rfl)) rfl (t1 ([], false) (mv rfl) rfl (jw rfl ?_)))))))))
      refine jw rfl (jw rfl (jw rfl (jw rfl (jw rfl (jw rfl (jw rfl (jw rfl (jw rfl (jw rfl ?_)))))))))
      refine t1 ([], false) (pkt rfl rfl) rfl (ST.nil (And.intro (by decide +kernel) ?_))
      exact (wq rfl)
     ·intro _ h4
      obtain ⟨r316, hq317, h4⟩ := ob h4; obtain ⟨r318, hq319, h4⟩ := ob h4
      refine cT rfl (sr (s1 (far (k := 2) rfl fo63_2 ts9 rfl) (s1 (lod rfl (ld_box ts9 ta9 rfl rfl)) (s1 (bld rfl (bd72_0 p0.Key)) (s1 (lod (v := .d (eApiMsg p0)) rfl (ld_box ts63 ta63 rfl rfl)) (cq [] [2] (ref09_Apply_ok (ApiEntry.mk p0.Key false ([] : List UInt8) (0 : UInt64) false ([] : List UInt8)) p0 _ hq317) wf rfl rfl rfl cb55 rfl rfl rfl rfl rfl rfl rfl rfl (s1 (alo (k := 3) zo72 rfl) (s0 (sto rfl rfl (sB (d' := .d (eApiEntry r316)) ts72 rfl rfl rfl rfl rfl rfl rfl)) (sn ?_)))))))))
      refine sr (s1 (lod (v := .d (eApiEntry r316)) rfl (ld_box ts72 ta72 rfl rfl)) (c0 (ref09_Gone_ok r316 _ hq319) wf rfl rfl rfl cb56 rfl (fun _ => rfl) (fun _ => rfl) (s1 (nt rfl) (sn (cB h4 rfl (fun h4 => ?_) (fun h4 => ?_))))))
      ·obtain ⟨hg320, h4⟩ := gd h4; have q := si h4; subst q
       exact SC.region (sm rfl (s1 (lod (v := .d (eApiEntry r316)) rfl (ld_box ts72 ta72 rfl rfl)) (s1 (bsn (k := 4) (ds := List.map eApiEntry [r316]) (off := 0) (l' := [r316].length) rfl un58 ei72 rfl rfl (by rfl) rfl rfl rfl) (s1 (app rfl rfl rfl rfl bc58 (aN (f := eApiEntry) (k := 5) un58 ei72 (el_full (xs := [r316]) rfl) hg320 rfl)) (sa rfl (SO.nil ((wc [0, 1, 5] [0, 0, 1, 5] (by kernel_rfl) rfl (by kernel_rfl)))))))))
      ·have q := si h4; subst q
       exact SC.skip ((Wk.trans (Wk.pushE (σ' := [.box (.d (.agg [.nils])), .box (.d (eApiMsg p0)), .box (.d (eApiEntry r316)), .box (.d (eApiEntry r316)), .row 6 (List.map eApiEntry ([] : List ApiEntry)) true]) (.row 6 [] true) (fun _ hh => by cases hh) rfl) (Wk.trans (Wk.env (e' := [(0, .ref 0 0 0), (3, .ref 1 0 0), (4, .slc 4 6 0 (([] : List ApiEntry).length) none), (5, .d (eB true)), (6, .d (eI (0 : Int)))]) (EW.cons (AW.refl _) (EW.cons (AW.refl _) (EW.cons (AW.slcn _ _ _) (EW.cons (AW.refl _) (EW.cons (AW.refl _) EW.nil)))))) (wc [0, 1, 4] [0, 0, 1, 4] (by kernel_rfl) rfl (by kernel_rfl)))))
    ·have q := si h4; subst q
     exact SC.skip ((Wk.trans (Wk.pushE (σ' := [.box (.d (.agg [.nils])), .box (.d (eApiMsg p0)), .row 6 (List.map eApiEntry ([] : List ApiEntry)) true]) (.row 6 [] true) (fun _ hh => by cases hh) rfl) (Wk.trans (Wk.env (e' := [(0, .ref 0 0 0), (3, .ref 1 0 0), (4, .slc 2 6 0 (([] : List ApiEntry).length) none), (5, .d (eB (p0.Kind == (4 : Int)))), (6, .d (eI (0 : Int)))]) (EW.cons (AW.refl _) (EW.cons (AW.refl _) (EW.cons (AW.slcn _ _ _) (EW.cons (AW.refl _) (EW.cons (AW.refl _) EW.nil)))))) (wq rfl))))
  ·rintro ⟨y310, y311⟩ h3
   have q := si h3; subst q; have q : _ = _ := hv3; subst q; have q := si h1; subst q
   refine sq (sr (sm rfl (sm rfl (s1 (nkr rfl) (s1 (far (k := 0) rfl fo60_0 ts58 rfl) (s1 (lod rfl (ld_box ts58 ta58 rfl rfl)) (s1 (len rfl rfl rfl (len_nil un58)) (s1 (bi (v := .d (eB true)) rfl rfl (fun _ _ => rfl)) (sn ?_)))))))))
   exact cT rfl (SC.exit ((wc [0, 2] [0, 0, 2] (by kernel_rfl) rfl (by kernel_rfl))))
 ·rintro y241 h0
  have q := si h0; subst q
  exact SC.region (sm rfl (sm rfl (s1 (nkr rfl) (s1 (far (k := 0) rfl fo60_0 ts58 rfl) (s0 (sto rfl rfl (sB (d' := .agg [.slc 1 6 0 y241.length none]) ts58 rfl rfl rfl rfl rfl rfl rfl)) (SO.nil (finN (Wk.refl _) lresN rfl)))))))
noncomputable def ref11_Tree_Inject_1 (p0 : ApiMsg) (p1 : List ApiEntry) : Option ((List ApiEntry)) :=
 Option.bind (α := (List ApiEntry))
 (Option.bind (α := (List ApiEntry))
 (loop (Y := (List ApiEntry) × Bool × Int) (W := (List ApiEntry)) (fun (y923, y924, y925) =>
 bif (decide (y925 ≤ (p1.length : Int))) then
 bindE (Y := (List ApiEntry) × Bool) (E := (List ApiEntry))
 (Option.bind (α := (List ApiEntry) × Bool)
 (Option.bind (α := Bool)
 (bif (!y924) then
 bif (y925 == (p1.length : Int)) then
 some true
 else
 Option.bind (getI p1 y925) fun v1085 =>
 some (!(ltS v1085.Key p0.Key))
 else
 some false)
 fun y1083 =>
 bif y1083 then
 Option.bind (α := Bool)
 (bif (y925 == (p1.length : Int)) then
 some true
 else
 Option.bind (getI p1 y925) fun v1089 =>
 some (!(ltS v1089.Key p0.Key || v1089.Key == p0.Key)))
 fun y1087 =>
 bif y1087 then
 Option.bind (ref09_Apply (ApiEntry.mk p0.Key false ([] : List UInt8) (0 : UInt64) false ([] : List UInt8)) p0) fun r1090 =>
 Option.bind (ref09_Gone r1090) fun r1092 =>
 bif (!r1092) then
 bif decide ((y923.length + [r1090].length) * 72 ≤ room) then
 some ((y923 ++ [r1090]), true)
 else none
 else
 some (y923, true)
 else
 some (y923, true)
 else
 some (y923, y924))
 fun (y1079, y1080) =>
 bif (y925 == (p1.length : Int)) then
 some (Sum.inr y1079)
 else
 Option.bind (getI p1 y925) fun v1095 =>
 Option.bind (α := ApiEntry)
 (Option.bind (α := Bool)
 (bif (p0.Kind == (4 : Int)) then
 some true
 else
 some (v1095.Key == p0.Key))
 fun y1102 =>
 bif y1102 then
 Option.bind (ref09_Apply v1095 p0) fun r1104 =>
 some r1104
 else
 some v1095)
 fun y1100 =>
 Option.bind (ref09_Gone y1100) fun r1106 =>
 bif (!r1106) then
 bif decide ((y1079.length + [y1100].length) * 72 ≤ room) then
 some (Sum.inl ((y1079 ++ [y1100]), y1080))
 else none
 else
 some (Sum.inl (y1079, y1080)))
 (fun (y1063, y1064) =>
 some (Sum.inl (y1063, y1064, (w64 (y925 + (1 : Int))))))
 (fun e => some (Sum.inr e))
 else
 some (Sum.inr y923)) (([] : List ApiEntry), (p0.Kind == (4 : Int)), (0 : Int)))
 (fun e => some e))
 fun y832 =>
 some y832
theorem ref11_Tree_Inject_1_ok (p0 : ApiMsg) (p1 : List ApiEntry) (r : (List ApiEntry)) (h0 : ref11_Tree_Inject_1 p0 p1 = some r) : CallAt Tryz.prog 17 [.ref 0 0 0, .d (eApiMsg p0)] [.box (.agg [.slc 1 6 0 p1.length none]), .row 6 (List.map eApiEntry p1) true] (.tuple []) [.box (.agg [.slc 2 6 0 r.length none]), .row 6 (List.map eApiEntry p1) true, .row 6 (List.map eApiEntry r) true] := by
 unfold ref11_Tree_Inject_1 at h0
 refine fn0 [0, 1] Tryz.func17 rfl rfl rfl rfl rfl ?_
 refine sr (s1 (bxo (k := 2) rfl rfl rfl) (sn (sr (s1 (asg (v := .d .nils) rfl) (sn (sr (s1 (far (k := 1) rfl fo63_1 ts3 rfl) (s1 (lod rfl (ld_box ts3 ta3 rfl rfl)) (s1 (bi rfl rfl q_i64_eql) ?_)))))))))
 refine sa rfl (sn (SC.seqP h0 (fun y => ⟨mk 115 [(0, .ref 0 0 0), (4, .slc 2 6 0 y.length none)], [.box (.agg [.slc 1 6 0 p1.length none]), .row 6 (List.map eApiEntry p1) true, .row 6 (List.map eApiEntry y) true]⟩) ?_ ?_))
 ·intro u1_833 h1
  obtain ⟨u2_1019, h2, h1⟩ := ob h1
  refine sr (sa rfl (sn (SC.blk (SC.loopB h2 (fun y => ⟨mk 115 [(0, .ref 0 0 0), (3, .ref 2 0 0), (4, .slc 3 6 0 y.1.length none), (5, .d (eB y.2.1)), (6, .d (eI y.2.2))], [.box (.agg [.slc 1 6 0 p1.length none]), .row 6 (List.map eApiEntry p1) true, .box (.d (eApiMsg p0)), .row 6 (List.map eApiEntry y.1) true]⟩) (Wk.trans (Wk.pushE (σ' := [.box (.agg [.slc 1 6 0 p1.length none]), .row 6 (List.map eApiEntry p1) true, .box (.d (eApiMsg p0)), .row 6 (List.map eApiEntry ([] : List ApiEntry)) true]) (.row 6 [] true) (fun _ hh => by cases hh) rfl) (Wk.trans (Wk.env (e' := [(0, .ref 0 0 0), (3, .ref 2 0 0), (4, .slc 3 6 0 (([] : List ApiEntry).length) none), (5, .d (eB (p0.Kind == (4 : Int)))), (6, .d (eI (0 : Int)))]) (EW.cons (AW.refl _) (EW.cons (AW.refl _) (EW.cons (AW.slcn _ _ _) (EW.cons (AW.refl _) (EW.cons (AW.refl _) EW.nil)))))) (wq rfl))) ?_))))
  intro n1109
  rintro ⟨y923, y924, y925⟩ w2_1018 h3 hv3
  refine sq (sr (sm rfl (sm rfl (s1 (nkr rfl) (s1 (far (k := 0) rfl fo60_0 ts58 rfl) (s1 (lod rfl (ld_box ts58 ta58 rfl rfl)) (s1 (len rfl rfl rfl (len_slc un58)) (s1 (bi rfl rfl q_i64_leq) (sn ?_)))))))))
  refine cB h3 rfl (fun h3 => ?_) (fun h3 => ?_)
  ·refine sk (SC.seqB h3 (fun y => ⟨mk 115 [(0, .ref 0 0 0), (3, .ref 2 0 0), (4, .slc 3 6 0 y.1.length none), (5, .d (eB y.2)), (6, .d (eI y925))], [.box (.agg [.slc 1 6 0 p1.length none]), .row 6 (List.map eApiEntry p1) true, .box (.d (eApiMsg p0)), .row 6 (List.map eApiEntry y.1) true]⟩) ?_ ?_)
   ·intro u4_1065 h4 h3
    refine SC.blk (SC.seqP h4 (fun y => ⟨mk 115 [(0, .ref 0 0 0), (3, .ref 2 0 0), (4, .slc 3 6 0 y.1.length none), (5, .d (eB y.2)), (6, .d (eI y925))], [.box (.agg [.slc 1 6 0 p1.length none]), .row 6 (List.map eApiEntry p1) true, .box (.d (eApiMsg p0)), .row 6 (List.map eApiEntry y.1) true]⟩) ?_ ?_)
    ·intro u5_1081 h5
     refine SC.seqP h5 (fun y => ⟨mk 115 [(0, .ref 0 0 0), (3, .ref 2 0 0), (4, .slc 3 6 0 y923.length none), (5, .d (eB y924)), (6, .d (eI y925)), (44, .d (eB y))], [.box (.agg [.slc 1 6 0 p1.length none]), .row 6 (List.map eApiEntry p1) true, .box (.d (eApiMsg p0)), .row 6 (List.map eApiEntry y923) true]⟩) ?_ ?_
     ·intro u6_1084 h6
      refine SC.draws (by kernel_rfl) (t1 ([], false) (mv rfl) rfl (t1 ([], false) (nt rfl) rfl (t1 ([], false) (mv rfl) rfl (tp h6 (fun h6 => ?_) (fun h6 => ?_)))))
      ·refine u1 ([], false) (ww rfl) (mv rfl) rfl (u1 ([], false) (ww rfl) (mv rfl) rfl (u1 ([], false) (ww rfl) (nkr rfl) rfl (u1 ([], false) (ww rfl) (far (k := 0) rfl fo60_0 ts58 rfl) rfl (u1 ([0], false) (ww rfl) (lod rfl (ld_box ts58 ta58 rfl rfl)) rfl (u1 ([], false) (ww rfl) (len rfl rfl rfl (len_slc un58)) rfl (u1 ([], false) (ww rfl) (bi rfl rfl q_i64_eql) rfl (u1 ([], false) (ww rfl) (mv rfl) rfl (tp h6 (fun h6 => ?_) (fun h6 => ?_)))))))))
       ·have q := si h6; subst q
        refine jw rfl (jw rfl (jw rfl (jw rfl (jw rfl (jw rfl (jw rfl (jw rfl (jw rfl (jw rfl ?_)))))))))
        refine jw rfl (u1 ([], false) (ww rfl) (pkt rfl rfl) rfl (t1 ([], false) (pkt rfl rfl) rfl (ST.nil (And.intro (by decide +kernel) ?_))))
        exact (wq rfl)
       ·obtain ⟨v1085, hv1085, h6⟩ := ob h6; have q := si h6; subst q
        refine u1 ([], false) (ww rfl) (mv rfl) rfl (u1 ([], false) (ww rfl) (nkr rfl) rfl (u1 ([], false) (ww rfl) (far (k := 0) rfl fo60_0 ts58 rfl) rfl (u1 ([0], false) (ww rfl) (lod rfl (ld_box ts58 ta58 rfl rfl)) rfl (u1 ([], false) (ww rfl) (mv rfl) rfl (u1 ([], false) (ww rfl) (iaz rfl rfl un58 ts72 (getI_lt hv1085)) rfl (u1 ([], false) (ww rfl) (far (k := 0) rfl fo72_0 ts9 rfl) rfl (u1 ([1], false) (ww rfl) (lod rfl (ld_row ts9 ta9 rfl (map_get (getI_some hv1085).2) rfl)) rfl (u1 ([], false) (ww rfl) (far (k := 2) rfl fo63_2 ts9 rfl) rfl (u1 ([2], false) (ww rfl) (lod rfl (ld_box ts9 ta9 rfl rfl)) rfl ?_)))))))))
        refine u1 ([], false) (ww rfl) (bi rfl rfl q_str_geq) rfl (u1 ([], false) (ww rfl) (pkf rfl rfl) rfl (t1 ([], false) (pkt rfl rfl) rfl (ST.nil (And.intro (by decide +kernel) ?_))))
        exact (wq rfl)
      ·have q := si h6; subst q
       refine jw rfl (jw rfl (jw rfl (jw rfl (jw rfl (jw rfl (jw rfl (jw rfl (jw rfl (jw rfl ?_)))))))))
       refine jw rfl (jw rfl (jw rfl (jw rfl (jw rfl (jw rfl (jw rfl (jw rfl (jw rfl (jw rfl ?_)))))))))
       refine t1 ([], false) (pkf rfl rfl) rfl (ST.nil (And.intro (by decide +kernel) ?_))
       exact (wq rfl)
     ·rintro y1083 h5
      refine cB h5 rfl (fun h5 => ?_) (fun h5 => ?_)
      ·refine sr (sa rfl (sn (SC.seqP h5 (fun y => ⟨mk 115 [(0, .ref 0 0 0), (3, .ref 2 0 0), (4, .slc 3 6 0 y923.length none), (5, .d (eB true)), (6, .d (eI y925)), (64, .d (eB y))], [.box (.agg [.slc 1 6 0 p1.length none]), .row 6 (List.map eApiEntry p1) true, .box (.d (eApiMsg p0)), .row 6 (List.map eApiEntry y923) true]⟩) ?_ ?_)))
       ·intro u6_1088 h6
        refine SC.draws (by kernel_rfl) (t1 ([], false) (mv rfl) rfl (t1 ([], false) (mv rfl) rfl (t1 ([], false) (nkr rfl) rfl (t1 ([], false) (far (k := 0) rfl fo60_0 ts58 rfl) rfl (t1 ([0], false) (lod rfl (ld_box ts58 ta58 rfl rfl)) rfl (t1 ([], false) (len rfl rfl rfl (len_slc un58)) rfl (t1 ([], false) (bi rfl rfl q_i64_eql) rfl (t1 ([], false) (mv rfl) rfl (tp h6 (fun h6 => ?_) (fun h6 => ?_))))))))))
        ·have q := si h6; subst q
         refine jw rfl (jw rfl (jw rfl (jw rfl (jw rfl (jw rfl (jw rfl (jw rfl (jw rfl (jw rfl ?_)))))))))
         refine jw rfl (t1 ([], false) (pkt rfl rfl) rfl (ST.nil (And.intro (by decide +kernel) ?_)))
         exact (wq rfl)
        ·obtain ⟨v1089, hv1089, h6⟩ := ob h6; have q := si h6; subst q
         refine u1 ([], false) (ww rfl) (mv rfl) rfl (u1 ([], false) (ww rfl) (nkr rfl) rfl (u1 ([], false) (ww rfl) (far (k := 0) rfl fo60_0 ts58 rfl) rfl (u1 ([0], false) (ww rfl) (lod rfl (ld_box ts58 ta58 rfl rfl)) rfl (u1 ([], false) (ww rfl) (mv rfl) rfl (u1 ([], false) (ww rfl) (iaz rfl rfl un58 ts72 (getI_lt hv1089)) rfl (u1 ([], false) (ww rfl) (far (k := 0) rfl fo72_0 ts9 rfl) rfl (u1 ([1], false) (ww rfl) (lod rfl (ld_row ts9 ta9 rfl (map_get (getI_some hv1089).2) rfl)) rfl (u1 ([], false) (ww rfl) (far (k := 2) rfl fo63_2 ts9 rfl) rfl (u1 ([2], false) (ww rfl) (lod rfl (ld_box ts9 ta9 rfl rfl)) rfl ?_)))))))))
         refine u1 ([], false) (ww rfl) (bi rfl rfl q_str_gtr) rfl (t1 ([], false) (pkf rfl rfl) rfl (ST.nil (And.intro (by decide +kernel) ?_)))
         exact (wq rfl)
       ·rintro y1087 h5
        refine cB h5 rfl (fun h5 => ?_) (fun h5 => ?_)
        ·obtain ⟨r1090, hq1091, h5⟩ := ob h5; obtain ⟨r1092, hq1093, h5⟩ := ob h5
         refine sr (s1 (far (k := 2) rfl fo63_2 ts9 rfl) (s1 (lod rfl (ld_box ts9 ta9 rfl rfl)) (s1 (bld rfl (bd72_0 p0.Key)) (s1 (lod (v := .d (eApiMsg p0)) rfl (ld_box ts63 ta63 rfl rfl)) (cq [] [4] (ref09_Apply_ok (ApiEntry.mk p0.Key false ([] : List UInt8) (0 : UInt64) false ([] : List UInt8)) p0 _ hq1091) wf rfl rfl rfl cb55 rfl rfl rfl rfl rfl rfl rfl rfl (s1 (alo (k := 5) zo72 rfl) (s0 (sto rfl rfl (sB (d' := .d (eApiEntry r1090)) ts72 rfl rfl rfl rfl rfl rfl rfl)) (sn (sr ?_)))))))))
         refine s1 (lod (v := .d (eApiEntry r1090)) rfl (ld_box ts72 ta72 rfl rfl)) (c0 (ref09_Gone_ok r1090 _ hq1093) wf rfl rfl rfl cb56 rfl (fun _ => rfl) (fun _ => rfl) (s1 (nt rfl) (sn (cB h5 rfl (fun h5 => ?_) (fun h5 => ?_)))))
         ·obtain ⟨hg1094, h5⟩ := gd h5; have q := si h5; subst q
          exact SC.region (sm rfl (s1 (lod (v := .d (eApiEntry r1090)) rfl (ld_box ts72 ta72 rfl rfl)) (s1 (bsn (k := 6) (ds := List.map eApiEntry [r1090]) (off := 0) (l' := [r1090].length) rfl un58 ei72 rfl rfl (by rfl) rfl rfl rfl) (s1 (app rfl rfl rfl rfl bc58 (aF (f := eApiEntry) (xs := y923) (k := 7) rfl un58 ei72 rfl (el_full (xs := [r1090]) rfl) hg1094 rfl)) (sa rfl (SO.nil ((wc [0, 1, 2, 7] [0, 1, 0, 2, 7] (by kernel_rfl) rfl (by kernel_rfl)))))))))
         ·have q := si h5; subst q
          exact SC.skip ((wc [0, 1, 2, 3] [0, 1, 0, 2, 3] (by kernel_rfl) rfl (by kernel_rfl)))
        ·have q := si h5; subst q
         exact SC.skip ((wq rfl))
      ·have q := si h5; subst q
       exact SC.skip ((wq rfl))
    ·rintro ⟨y1079, y1080⟩ h4
     refine sq (sr (sm rfl (sm rfl (s1 (nkr rfl) (s1 (far (k := 0) rfl fo60_0 ts58 rfl) (s1 (lod rfl (ld_box ts58 ta58 rfl rfl)) (s1 (len rfl rfl rfl (len_slc un58)) (s1 (bi rfl rfl q_i64_eql) (sn ?_)))))))))
     refine cB h4 rfl (fun h4 => ?_) (fun h4 => ?_)
     ·have q := si h4; subst q; have q := si h3; subst q; have q : _ = _ := hv3; subst q; have q := si h1; subst q
      exact SC.exit ((wc [0, 1, 3] [0, 1, 0, 3] (by kernel_rfl) rfl (by kernel_rfl)))
     ·obtain ⟨v1095, hv1095, h4⟩ := ob h4
      refine sk (sr (sm rfl (s1 (nkr rfl) (s1 (far (k := 0) rfl fo60_0 ts58 rfl) (s1 (lod rfl (ld_box ts58 ta58 rfl rfl)) (sm rfl (s1 (iaz rfl rfl un58 ts72 (getI_lt hv1095)) (s1 (lod (v := .d (eApiEntry v1095)) rfl (ld_row ts72 ta72 rfl (map_get (getI_some hv1095).2) rfl)) (s1 (alo (k := 4) zo72 rfl) ?_)))))))))
      refine s0 (sto rfl rfl (sB (d' := .d (eApiEntry v1095)) ts72 rfl rfl rfl rfl rfl rfl rfl)) (sn (SC.seqP h4 (fun y => ⟨mk 115 [(0, .ref 0 0 0), (3, .ref 2 0 0), (4, .slc 3 6 0 y1079.length none), (5, .d (eB y1080)), (6, .d (eI y925)), (8, .ref 4 0 0)], [.box (.agg [.slc 1 6 0 p1.length none]), .row 6 (List.map eApiEntry p1) true, .box (.d (eApiMsg p0)), .row 6 (List.map eApiEntry y1079) true, .box (.d (eApiEntry y))]⟩) ?_ ?_))
      ·intro u5_1101 h5
       refine SC.seqP h5 (fun y => ⟨mk 115 [(0, .ref 0 0 0), (3, .ref 2 0 0), (4, .slc 3 6 0 y1079.length none), (5, .d (eB y1080)), (6, .d (eI y925)), (8, .ref 4 0 0), (100, .d (eB y))], [.box (.agg [.slc 1 6 0 p1.length none]), .row 6 (List.map eApiEntry p1) true, .box (.d (eApiMsg p0)), .row 6 (List.map eApiEntry y1079) true, .box (.d (eApiEntry v1095))]⟩) ?_ ?_
       ·intro u6_1103 h6
        refine SC.region (s1 (far (k := 1) rfl fo63_1 ts3 rfl) (s1 (lod rfl (ld_box ts3 ta3 rfl rfl)) (s1 (bi rfl rfl q_i64_eql) (sm rfl (sp h6 (fun h6 => ?_) (fun h6 => ?_))))))
        ·have q := si h6; subst q
         exact kw rfl (kw rfl (kw rfl (kw rfl (kw rfl (s1 (pkt rfl rfl) (SO.nil ((wq rfl))))))))
        ·have q := si h6; subst q
         exact gw rfl (far (k := 0) rfl fo72_0 ts9 rfl) (gw rfl (lod rfl (ld_box ts9 ta9 rfl rfl)) (gw rfl (far (k := 2) rfl fo63_2 ts9 rfl) (gw rfl (lod rfl (ld_box ts9 ta9 rfl rfl)) (gw rfl (bi rfl rfl q_str_eql) (s1 (pkf rfl rfl) (SO.nil ((wq rfl))))))))
       ·rintro y1102 h5
        refine cB h5 rfl (fun h5 => ?_) (fun h5 => ?_)
        ·obtain ⟨r1104, hq1105, h5⟩ := ob h5; have q := si h5; subst q
         exact SC.region (s1 (lod (v := .d (eApiEntry v1095)) rfl (ld_box ts72 ta72 rfl rfl)) (s1 (lod (v := .d (eApiMsg p0)) rfl (ld_box ts63 ta63 rfl rfl)) (cq [] [5] (ref09_Apply_ok v1095 p0 _ hq1105) wf rfl rfl rfl cb55 rfl rfl rfl rfl rfl rfl rfl rfl (s0 (sto rfl rfl (sB (d' := .d (eApiEntry r1104)) ts72 rfl rfl rfl rfl rfl rfl rfl)) (SO.nil ((wc [0, 1, 2, 3, 4] [0, 1, 0, 2, 3, 4] (by kernel_rfl) rfl (by kernel_rfl))))))))
        ·have q := si h5; subst q
         exact SC.skip ((wq rfl))
      ·rintro y1100 h4
       obtain ⟨r1106, hq1107, h4⟩ := ob h4
       refine sr (s1 (lod (v := .d (eApiEntry y1100)) rfl (ld_box ts72 ta72 rfl rfl)) (c0 (ref09_Gone_ok y1100 _ hq1107) wf rfl rfl rfl cb56 rfl (fun _ => rfl) (fun _ => rfl) (s1 (nt rfl) (sn (cB h4 rfl (fun h4 => ?_) (fun h4 => ?_))))))
       ·obtain ⟨hg1108, h4⟩ := gd h4; have q := si h4; subst q
        exact SC.region (sm rfl (s1 (lod (v := .d (eApiEntry y1100)) rfl (ld_box ts72 ta72 rfl rfl)) (s1 (bsn (k := 5) (ds := List.map eApiEntry [y1100]) (off := 0) (l' := [y1100].length) rfl un58 ei72 rfl rfl (by rfl) rfl rfl rfl) (s1 (app rfl rfl rfl rfl bc58 (aF (f := eApiEntry) (xs := y1079) (k := 6) rfl un58 ei72 rfl (el_full (xs := [y1100]) rfl) hg1108 rfl)) (sa rfl (SO.nil (lf (wc [0, 1, 2, 6] [0, 1, 0, 2, 6] (by kernel_rfl) rfl (by kernel_rfl)))))))))
       ·have q := si h4; subst q
        exact SC.skip (lf (wc [0, 1, 2, 3] [0, 1, 0, 2, 3] (by kernel_rfl) rfl (by kernel_rfl)))
   ·rintro ⟨y1063, y1064⟩ h3
    have q := si h3; subst q
    exact SC.region (sm rfl (s1 (bi rfl rfl q_i64_add) (sa rfl (SO.nil (lf (wq rfl))))))
  ·have q := si h3; subst q; have q : _ = _ := hv3; subst q; have q := si h1; subst q
   exact SC.exit ((wc [0, 1, 3] [0, 1, 0, 3] (by kernel_rfl) rfl (by kernel_rfl)))
 ·rintro y832 h0
  have q := si h0; subst q
  exact SC.region (sm rfl (sm rfl (s1 (nkr rfl) (s1 (far (k := 0) rfl fo60_0 ts58 rfl) (s0 (sto rfl rfl (sB (d' := .agg [.slc 2 6 0 y832.length none]) ts58 rfl rfl rfl rfl rfl rfl rfl)) (SO.nil (finN (Wk.refl _) lresN rfl)))))))
noncomputable def ref11_Tree_Get (p0 : List UInt8) (p1 : List ApiEntry) : Option ApiEntry :=
 bindE (Y := Unit) (E := ApiEntry)
 (Option.bind (α := Unit ⊕ ApiEntry)
 (loop (Y := Int) (W := Unit ⊕ ApiEntry) (fun y39 =>
 bif (decide (y39 < (p1.length : Int))) then
 Option.bind (getI p1 y39) fun v45 =>
 bif (v45.Key == p0) then
 Option.bind (getI p1 y39) fun v46 =>
 some (Sum.inr (Sum.inr v46))
 else
 some (Sum.inl (w64 (y39 + (1 : Int))))
 else
 some (Sum.inr (Sum.inl ()))) (0 : Int))
 (Sum.elim (fun e => some (Sum.inl e)) (fun e => some (Sum.inr e))))
 (fun _ =>
 some (ApiEntry.mk p0 false ([] : List UInt8) (0 : UInt64) false ([] : List UInt8)))
 (fun e => some e)
theorem ref11_Tree_Get_ok (p0 : List UInt8) (p1 : List ApiEntry) (r : ApiEntry) (h0 : ref11_Tree_Get p0 p1 = some r) : CallAt Tryz.prog 20 [.ref 0 0 0, .d (eS p0)] [.box (.agg [.slc 1 6 0 p1.length none]), .row 6 (List.map eApiEntry p1) true] (.d (eApiEntry r)) [.box (.agg [.slc 1 6 0 p1.length none]), .row 6 (List.map eApiEntry p1) true, .box (.d (eApiEntry r))] := by
 unfold ref11_Tree_Get at h0
 refine fn0 [0, 1] Tryz.func20 rfl rfl rfl rfl rfl ?_
 refine sr (s1 (alo (k := 2) zo72 rfl) (sn (SC.seqB h0 (fun y => ⟨mk 34 [(1, .d (eS p0)), (4, .ref 2 0 0)], [.box (.agg [.slc 1 6 0 p1.length none]), .row 6 (List.map eApiEntry p1) true, .box (.d (eApiEntry (ApiEntry.mk ([] : List UInt8) false ([] : List UInt8) (0 : UInt64) false ([] : List UInt8))))]⟩) ?_ ?_)))
 ·intro u1_36 h1 h0
  obtain ⟨u2_44, h2, h1⟩ := ob h1
  refine sr (sa rfl (sn (SC.blk (SC.loopB h2 (fun y => ⟨mk 34 [(0, .ref 0 0 0), (1, .d (eS p0)), (4, .ref 2 0 0), (5, .d (eI y))], [.box (.agg [.slc 1 6 0 p1.length none]), .row 6 (List.map eApiEntry p1) true, .box (.d (eApiEntry (ApiEntry.mk ([] : List UInt8) false ([] : List UInt8) (0 : UInt64) false ([] : List UInt8))))]⟩) (wq rfl) ?_))))
  intro n47
  rintro y39 w2_43 h3 hv3
  refine sq (sr (sm rfl (sm rfl (s1 (nkr rfl) (s1 (far (k := 0) rfl fo60_0 ts58 rfl) (s1 (lod rfl (ld_box ts58 ta58 rfl rfl)) (s1 (len rfl rfl rfl (len_slc un58)) (s1 (bi rfl rfl q_i64_lss) (sn ?_)))))))))
  refine cB h3 rfl (fun h3 => ?_) (fun h3 => ?_)
  ·obtain ⟨v45, hv45, h3⟩ := ob h3
   refine sk (sq (SC.blk (sr (sm rfl (s1 (nkr rfl) (s1 (far (k := 0) rfl fo60_0 ts58 rfl) (s1 (lod rfl (ld_box ts58 ta58 rfl rfl)) (sm rfl (s1 (iaz rfl rfl un58 ts72 (getI_lt hv45)) ?_)))))))))
   refine s1 (far (k := 0) rfl fo72_0 ts9 rfl) (s1 (lod rfl (ld_row ts9 ta9 rfl (map_get (getI_some hv45).2) rfl)) (sm rfl (s1 (bi rfl rfl q_str_eql) (sn (cB h3 rfl (fun h3 => ?_) (fun h3 => ?_))))))
   ·obtain ⟨v46, hv46, h3⟩ := ob h3; have q := si h3; subst q; have q : _ = _ := hv3; subst q; have q := si h1; subst q; have q := si h0; subst q
    refine sr (sm rfl (s1 (nkr rfl) (s1 (far (k := 0) rfl fo60_0 ts58 rfl) (s1 (lod rfl (ld_box ts58 ta58 rfl rfl)) (sm rfl (s1 (iaz rfl rfl un58 ts72 (getI_lt hv46)) (s1 (lod (v := .d (eApiEntry v46)) rfl (ld_row ts72 ta72 rfl (map_get (getI_some hv46).2) rfl)) (s0 (sto rfl rfl (sB (d' := .d (eApiEntry v46)) ts72 rfl rfl rfl rfl rfl rfl rfl)) (sn ?_)))))))))
    exact SC.ret (finR (Wk.refl _) (lresC rfl (ld_box ts72 ta72 rfl rfl) lresN) rfl)
   ·refine SC.skip ?_
    change SC _ _ _ _ _
    have q := si h3; subst q
    exact SC.region (sm rfl (s1 (bi rfl rfl q_i64_add) (sa rfl (SO.nil (lf (wq rfl))))))
  ·have q := si h3; subst q; have q : _ = _ := hv3; subst q; have q := si h1; subst q
   exact SC.exit (lf (wq rfl))
 ·intro _ h0
  have q := si h0; subst q
  exact sr (sm rfl (s1 (bld rfl (bd72_0 p0)) (s0 (sto rfl rfl (sB (d' := .d (eApiEntry (ApiEntry.mk p0 false ([] : List UInt8) (0 : UInt64) false ([] : List UInt8)))) ts72 rfl rfl rfl rfl rfl rfl rfl)) (sn (SC.ret (finR (Wk.refl _) (lresC rfl (ld_box ts72 ta72 rfl rfl) lresN) rfl))))))
noncomputable def raw_Values (p0 : List ApiValue) (p1 : List ApiValue) : Option Bool :=
 bif ((p0.length : Int) != (p1.length : Int)) then
 some false
 else
 bindE (Y := Unit) (E := Bool)
 (Option.bind (α := Unit ⊕ Bool)
 (loop (Y := Int) (W := Unit ⊕ Bool) (fun y39 =>
 bif (decide (y39 < (p0.length : Int))) then
 Option.bind (getI p0 y39) fun v45 =>
 Option.bind (getI p1 y39) fun v46 =>
 bif (!(eqApiValue v45 v46)) then
 some (Sum.inr (Sum.inr false))
 else
 some (Sum.inl (w64 (y39 + (1 : Int))))
 else
 some (Sum.inr (Sum.inl ()))) (0 : Int))
 (Sum.elim (fun e => some (Sum.inl e)) (fun e => some (Sum.inr e))))
 (fun _ =>
 some true)
 (fun e => some e)
theorem raw_Values_ok (p0 : List ApiValue) (p1 : List ApiValue) (r : Bool) (h0 : raw_Values p0 p1 = some r) : CallAt Tryz.prog 21 [.d ((eL 3 eApiValue) p0), .d ((eL 3 eApiValue) p1)] [] (.d (eB r)) [] := by
 unfold raw_Values at h0
 refine fn0 [0, 1] Tryz.func21 rfl rfl rfl rfl rfl ?_
 refine sr (sa rfl (sn (sq (sr (sm rfl (s1 (len rfl rfl rfl (len_lst un28)) (sm rfl (s1 (len rfl rfl rfl (len_lst un28)) (s1 (bi rfl rfl q_i64_neq) ?_)))))))))
 refine sn (cB h0 rfl (fun h0 => ?_) (fun h0 => ?_))
 ·have q := si h0; subst q
  exact sr (sa rfl (sn (SC.ret (finR (Wk.refl _) (lresT rfl lresN) rfl))))
 ·refine sk (SC.seqB h0 (fun y => ⟨mk 26 [], []⟩) ?_ ?_)
  ·intro u1_36 h1 h0
   obtain ⟨u2_44, h2, h1⟩ := ob h1
   refine sr (sa rfl (sn (SC.blk (SC.loopB h2 (fun y => ⟨mk 26 [(0, .d ((eL 3 eApiValue) p0)), (1, .d ((eL 3 eApiValue) p1)), (5, .d (eI y))], []⟩) (wq rfl) ?_))))
   intro n47
   rintro y39 w2_43 h3 hv3
   refine sq (sr (sm rfl (sm rfl (s1 (len rfl rfl rfl (len_lst un28)) (s1 (bi rfl rfl q_i64_lss) (sn (cB h3 rfl (fun h3 => ?_) (fun h3 => ?_))))))))
   ·obtain ⟨v45, hv45, h3⟩ := ob h3; obtain ⟨v46, hv46, h3⟩ := ob h3
    refine sk (sq (SC.blk (sd (by kernel_rfl) (t1 ([], false) (mv rfl) rfl (t1 ([], false) (mv rfl) rfl (t1 ([], false) (ial rfl rfl un28 ts68 (getI_some hv45).1 (map_get (getI_some hv45).2) rfl) rfl (t1 ([], false) (lod (v := .d (eApiValue v45)) rfl (ld_rop ts68 ta68 rfl)) rfl (t1 ([], false) (mv rfl) rfl (t1 ([], false) (mv rfl) rfl ?_)))))))))
    refine t1 ([], false) (ial rfl rfl un28 ts68 (getI_some hv46).1 (map_get (getI_some hv46).2) rfl) rfl (t1 ([], false) (lod (v := .d (eApiValue v46)) rfl (ld_rop ts68 ta68 rfl)) rfl (t1 ([], false) (bi (v := .d (eB (!(eqApiValue v45 v46)))) rfl rfl (fun X Y => eqApiValue_neq_68 X Y v45 v46)) rfl (tn (by decide +kernel) (cB h3 rfl (fun h3 => ?_) (fun h3 => ?_)))))
    ·have q := si h3; subst q; have q : _ = _ := hv3; subst q; have q := si h1; subst q; have q := si h0; subst q
     exact sr (sa rfl (sn (SC.ret (finR (Wk.refl _) (lresT rfl lresN) rfl))))
    ·refine SC.skip ?_
     change SC _ _ _ _ _
     have q := si h3; subst q
     exact SC.region (sm rfl (s1 (bi rfl rfl q_i64_add) (sa rfl (SO.nil (lf (wq rfl))))))
   ·have q := si h3; subst q; have q : _ = _ := hv3; subst q; have q := si h1; subst q
    exact SC.exit (lf (wq rfl))
  ·intro _ h0
   have q := si h0; subst q
   exact sr (sa rfl (sn (SC.ret (finR (Wk.refl _) (lresT rfl lresN) rfl))))
noncomputable def law19_FanAdds (p0 : ApiTable) (p1 : List ApiValue) (p2 : Int) (p3 : UInt64) : Option Bool :=
 Option.bind law19_awake fun r44 =>
 bif (!r44) then
 some false
 else
 Option.bind (ref17_Check p0) fun r46 =>
 bif (r46 != (0 : Int)) then
 some true
 else
 bif decide ((([] : List ApiValue).length + p1.length) * 32 ≤ room) then
 Option.bind (fan_Add p0 (([] : List ApiValue) ++ p1) p2 p3) fun (r49, r50, r51) =>
 Option.bind (ref19_Add p0 p1 p2 p3) fun (r53, r54, r55) =>
 Option.bind (α := Bool)
 (bif (r49 != r53) then
 some true
 else
 Option.bind (law19_same (FanWork.mk r50 r51 ([] : List FanProbe)) (Granaryref19Work.mk r54 r55 ([] : List Granaryref19Probe))) fun r61 =>
 some (!r61))
 fun y59 =>
 bif y59 then
 some false
 else
 bif (r49 != (0 : Int)) then
 some true
 else
 Option.bind (getI r50 (0 : Int)) fun v63 =>
 Option.bind (ref08_Bytes p1) fun r64 =>
 Option.bind (ref11_Tree_Inject (ApiMsg.mk (0 : UInt64) (1 : Int) v63.Msg.Key (0 : UInt64) r64 (0 : Int) (0 : UInt64))) fun r66 =>
 Option.bind (getI r50 (0 : Int)) fun v68 =>
 Option.bind (ref11_Tree_Inject_1 v68.Msg r66) fun r69 =>
 bif decide ((([] : List ApiValue).length + p1.length) * 32 ≤ room) then
 Option.bind (getI (([] : List ApiValue) ++ p1) p2) fun v72 =>
 Option.bind (getI (([] : List ApiValue) ++ p1) p2) fun v73 =>
 Option.bind (getI r50 (0 : Int)) fun v74 =>
 Option.bind (ref11_Tree_Get v74.Msg.Key r69) fun r75 =>
 Option.bind (row_Decode p0.Cols r75.Val) fun (r77, r78) =>
 Option.bind (α := Bool)
 (bif (r78 == (0 : Int)) then
 Option.bind (raw_Values r77 (List.set (([] : List ApiValue) ++ p1) p2.toNat (ApiValue.mk v73.Kind (v72.N + p3) v73.S))) fun r84 =>
 some r84
 else
 some false)
 fun y82 =>
 some y82
 else none
 else none
theorem law19_FanAdds_ok (p0 : ApiTable) (p1 : List ApiValue) (p2 : Int) (p3 : UInt64) (r : Bool) (h0 : law19_FanAdds p0 p1 p2 p3 = some r) : CallAt Tryz.prog 4 [.d (eApiTable p0), .d ((eL 3 eApiValue) p1), .d (eI p2), .d (eU64 p3)] [] (.d (eB r)) [] := by
 unfold law19_FanAdds at h0
 refine fn0 [0, 1, 2, 3] Tryz.func4 rfl rfl rfl rfl rfl ?_
 obtain ⟨r44, hq45, h0⟩ := ob h0
 refine sr (s1 (bxo (k := 0) rfl rfl rfl) (sa rfl (sn (sq (sr (c0 (law19_awake_ok _ hq45) wf rfl rfl rfl cb5 rfl (fun _ => rfl) (fun _ => rfl) (s1 (nt rfl) (sn (cB h0 rfl (fun h0 => ?_) (fun h0 => ?_))))))))))
 ·have q := si h0; subst q
  exact sr (sa rfl (sn (SC.ret (finR (wc (e' := [(8, .d (eB false))]) [] [] (by kernel_rfl) rfl (by kernel_rfl)) (lresT rfl lresN) rfl))))
 ·obtain ⟨r46, hq47, h0⟩ := ob h0
  refine sk (sq (sr (s1 (lod (v := .d (eApiTable p0)) rfl (ld_box ts26 ta26 rfl rfl)) (c0 (ref17_Check_ok p0 _ hq47) wf rfl rfl rfl cb8 rfl (fun _ => rfl) (fun _ => rfl) (s1 (bi rfl rfl q_i64_neq) (sn (cB h0 rfl (fun h0 => ?_) (fun h0 => ?_))))))))
  ·have q := si h0; subst q
   exact sr (sa rfl (sn (SC.ret (finR (wc (e' := [(8, .d (eB true))]) [] [] (by kernel_rfl) rfl (by kernel_rfl)) (lresT rfl lresN) rfl))))
  ·obtain ⟨hg48, h0⟩ := gd h0; obtain ⟨⟨r49, r50, r51⟩, hq52, h0⟩ := ob h0; obtain ⟨⟨r53, r54, r55⟩, hq56, h0⟩ := ob h0
   refine sk (sd (by kernel_rfl) (t1 ([0], false) (lod (v := .d (eApiTable p0)) rfl (ld_box ts26 ta26 rfl rfl)) rfl (t1 ([1], true) (bsn (k := 1) (ds := List.map eApiValue ([] : List ApiValue)) (off := 0) (l' := ([] : List ApiValue).length) rfl un28 ei68 rfl rfl rfl rfl rfl rfl) rfl (t1 ([], false) (mv rfl) rfl (t1 ([1, 2], true) (app rfl rfl rfl rfl bc28 (aF (f := eApiValue) (xs := ([] : List ApiValue)) (k := 2) rfl un28 ei68 rfl el_lst hg48 rfl)) rfl (t1 ([], false) (mv rfl) rfl (t1 ([], false) (mv rfl) rfl (tq (args' := [.d (eApiTable p0), .slc 0 3 0 ((([] : List ApiValue) ++ p1).length) none, .d (eI p2), .d (eU64 p3)]) (σc := [.row 3 (List.map eApiValue (([] : List ApiValue) ++ p1)) true]) [2] [3, 4, 5] ([2, 3, 4, 5], true) (CallAt.frz (ArgF.keep (ArgF.frz (fF rfl rfl rfl) (ArgF.keep (ArgF.keep (ArgF.nil _))))) (fq [] [1, 2, 3] (fan_Add_ok p0 (([] : List ApiValue) ++ p1) p2 p3 _ hq52) rfl rfl rfl rfl rfl rfl rfl rfl)) wf rfl rfl rfl cb15 rfl rfl rfl rfl rfl rfl rfl rfl rfl (t1 ([], false) (mv rfl) rfl ?_)))))))))
   refine t1 ([], false) (ext rfl rfl) rfl (t1 ([], false) (ext rfl rfl) rfl (t1 ([6], true) (alo (k := 6) zo40 rfl) rfl (t0 ([6, 4, 5], true) (sto rfl rfl (sB (d' := .agg [.slc 4 9 0 r50.length none, .slc 5 5 0 r51.length none, .d .nils]) ts40 rfl rfl rfl rfl rfl rfl rfl)) rfl (t1 ([], false) (asg rfl) rfl (tn (by decide +kernel) (sr (s1 (lod (v := .d (eApiTable p0)) rfl (ld_box ts26 ta26 rfl rfl)) (sm rfl (sm rfl ?_)))))))))
   refine sm rfl (cq [] [7, 8, 9] (ref19_Add_ok p0 p1 p2 p3 _ hq56) wf rfl rfl rfl cb16 rfl rfl rfl rfl rfl rfl rfl rfl (sm rfl (s1 (ext rfl rfl) (s1 (ext rfl rfl) (s1 (alo (k := 10) zo46 rfl) (s0 (sto rfl rfl (sB (d' := .agg [.slc 8 9 0 r54.length none, .slc 9 5 0 r55.length none, .d .nils]) ts46 rfl rfl rfl rfl rfl rfl rfl)) (sa rfl (sn (sq ?_)))))))))
   refine SC.seqP h0 (fun y => ⟨mk 105 [(1, .d ((eL 3 eApiValue) p1)), (2, .d (eI p2)), (3, .d (eU64 p3)), (4, .ref 0 0 0), (9, .ref 1 0 0), (10, .d (eI r49)), (48, .d (eB y))], [.box (.d (eApiTable p0)), .box (.agg [.slc 2 9 0 r50.length none, .slc 3 5 0 r51.length none, .d .nils]), .row 9 (List.map eForestOp r50) false, .row 5 (List.map eApiLock r51) false]⟩) ?_ ?_
   ·intro u1_60 h1
    refine SC.region (sm rfl (sm rfl (s1 (bi rfl rfl q_i64_neq) (sm rfl (sp h1 (fun h1 => ?_) (fun h1 => ?_))))))
    ·have q := si h1; subst q
     exact kw rfl (kw rfl (kw rfl (kw rfl (s1 (pkt rfl rfl) (SO.nil ((Wk.trans (wq (e' := [(1, .d ((eL 3 eApiValue) p1)), (2, .d (eI p2)), (3, .d (eU64 p3)), (4, .ref 0 0 0), (9, .ref 6 0 0), (10, .d (eI r49)), (48, .d (eB true))]) rfl) (Wk.trans (fro 4 rfl rfl) (Wk.trans (fro 5 rfl rfl) (wc [0, 6, 4, 5] [0, 6] (by kernel_rfl) rfl (by kernel_rfl)))))))))))
    ·obtain ⟨r61, hq62, h1⟩ := ob h1; have q := si h1; subst q
     exact gw rfl (lod (v := .agg [.slc 4 9 0 r50.length none, .slc 5 5 0 r51.length none, .d .nils]) rfl (ld_box ts40 ta40 rfl rfl)) (gw rfl (lod (v := .agg [.slc 8 9 0 r54.length none, .slc 9 5 0 r55.length none, .d .nils]) rfl (ld_box ts46 ta46 rfl rfl)) (cq (args' := [.agg [.slc 0 9 0 r50.length none, .slc 1 5 0 r51.length none, .d .nils], .agg [.slc 2 9 0 r54.length none, .slc 3 5 0 r55.length none, .d .nils]]) (σc := [.row 9 (List.map eForestOp r50) true, .row 5 (List.map eApiLock r51) true, .row 9 (List.map eGranaryref14Op r54) true, .row 5 (List.map eApiLock r55) true]) [4, 5, 8, 9] [] (CallAt.frz (ArgF.frzw (y := .d (eFanWork (FanWork.mk r50 r51 ([] : List FanProbe)))) rfl (frzs_slc (fF rfl rfl rfl) (frzs_slc (fF rfl rfl rfl) (frzs_d rfl frzs_nil))) (AW.aggd rfl (AWs.cons (AW.refl _) (AWs.cons (AW.refl _) (AWs.cons (AW.nl _) AWs.nil)))) (ArgF.frzw (y := .d (eGranaryref19Work (Granaryref19Work.mk r54 r55 ([] : List Granaryref19Probe)))) rfl (frzs_slc (fF rfl rfl rfl) (frzs_slc (fF rfl rfl rfl) (frzs_d rfl frzs_nil))) (AW.aggd rfl (AWs.cons (AW.refl _) (AWs.cons (AW.refl _) (AWs.cons (AW.nl _) AWs.nil)))) (ArgF.nil _))) (fq [] [] (law19_same_ok (FanWork.mk r50 r51 ([] : List FanProbe)) (Granaryref19Work.mk r54 r55 ([] : List Granaryref19Probe)) _ hq62) rfl rfl rfl rfl rfl rfl rfl rfl)) (ww rfl) rfl rfl rfl cb13 rfl rfl rfl rfl rfl rfl rfl rfl (gw rfl (nt rfl) (s1 (pkf rfl rfl) (SO.nil ((wc [0, 6, 4, 5] [0, 6] (by kernel_rfl) rfl (by kernel_rfl))))))))
   ·rintro y59 h0
    refine cB h0 rfl (fun h0 => ?_) (fun h0 => ?_)
    ·have q := si h0; subst q
     exact sr (sa rfl (sn (SC.ret (finR (wc (e' := [(8, .d (eB false))]) [] [] (by kernel_rfl) rfl (by kernel_rfl)) (lresT rfl lresN) rfl))))
    ·refine sk (sq (sr (sm rfl (s1 (bi rfl rfl q_i64_neq) (sn (cB h0 rfl (fun h0 => ?_) (fun h0 => ?_)))))))
     ·have q := si h0; subst q
      exact sr (sa rfl (sn (SC.ret (finR (wc (e' := [(8, .d (eB true))]) [] [] (by kernel_rfl) rfl (by kernel_rfl)) (lresT rfl lresN) rfl))))
     ·obtain ⟨v63, hv63, h0⟩ := ob h0
      obtain ⟨r64, hq65, h0⟩ := ob h0
      obtain ⟨r66, hq67, h0⟩ := ob h0
      obtain ⟨v68, hv68, h0⟩ := ob h0
      obtain ⟨r69, hq70, h0⟩ := ob h0
      obtain ⟨hg71, h0⟩ := gd h0
      obtain ⟨v72, hv72, h0⟩ := ob h0
      obtain ⟨v73, hv73, h0⟩ := ob h0
      obtain ⟨v74, hv74, h0⟩ := ob h0
      obtain ⟨r75, hq76, h0⟩ := ob h0
      obtain ⟨⟨r77, r78⟩, hq79, h0⟩ := ob h0
      refine sk (sr (s1 (bld rfl (bd60_ )) (s1 (bxo (k := 4) rfl rfl rfl) (sa rfl (sn (sd (by kernel_rfl) (t1 ([], false) (mv rfl) rfl (t1 ([], false) (far (k := 0) rfl fo40_0 ts36 rfl) rfl (t1 ([1], false) (lod rfl (ld_box ts36 ta36 rfl rfl)) rfl ?_)))))))))
      refine t1 ([], false) (iaz rfl rfl un36 ts65 (getI_lt hv63)) rfl (t1 ([], false) (far (k := 2) rfl fo65_2 ts63 rfl) rfl (t1 ([], false) (far (k := 4) rfl fo63_2 ts9 rfl) rfl (t1 ([2], false) (lod rfl (ld_row ts9 ta9 rfl (map_get (getI_some hv63).2) rfl)) rfl (t1 ([], false) (mv rfl) rfl (tc0 (ref08_Bytes_ok p1 _ hq65) wf rfl rfl rfl cb18 rfl (fun _ => rfl) (fun _ => rfl) (t1 ([], false) (bld rfl (bd63_1_2_4 (1 : Int) v63.Msg.Key r64)) rfl (tq [4] [5] ([4, 5], true) (ref11_Tree_Inject_ok (ApiMsg.mk (0 : UInt64) (1 : Int) v63.Msg.Key (0 : UInt64) r64 (0 : Int) (0 : UInt64)) _ hq67) wf rfl rfl rfl cb17 rfl rfl rfl rfl rfl rfl rfl rfl rfl (tn (by decide +kernel) (sr ?_)))))))))
      refine sm rfl (s1 (far (k := 0) rfl fo40_0 ts36 rfl) (s1 (lod rfl (ld_box ts36 ta36 rfl rfl)) (s1 (iaz rfl rfl un36 ts65 (getI_lt hv68)) (s1 (far (k := 2) rfl fo65_2 ts63 rfl) (s1 (lod (v := .d (eApiMsg v68.Msg)) rfl (ld_row ts63 ta63 rfl (map_get (getI_some hv68).2) rfl)) (cq [4, 5] [6] (ref11_Tree_Inject_1_ok v68.Msg r66 _ hq70) wf rfl rfl rfl cb17 rfl rfl rfl rfl rfl rfl rfl rfl (sn (sr (s1 (bsn (k := 7) (ds := List.map eApiValue ([] : List ApiValue)) (off := 0) (l' := ([] : List ApiValue).length) rfl un28 ei68 rfl rfl rfl rfl rfl rfl) ?_)))))))))
      refine sm rfl (s1 (app rfl rfl rfl rfl bc28 (aF (f := eApiValue) (xs := ([] : List ApiValue)) (k := 8) rfl un28 ei68 rfl el_lst hg71 rfl)) (sa rfl (sn (sr (sm rfl (sm rfl (s1 (iaz rfl rfl un28 ts68 (getI_lt hv72)) (s1 (far (k := 1) rfl fo68_1 ts54 rfl) (s1 (lod rfl (ld_row ts54 ta54 rfl (map_get (getI_some hv72).2) rfl)) ?_)))))))))
      refine sm rfl (s1 (bi rfl rfl q_u64_add) (s1 (iaz rfl rfl un28 ts68 (getI_lt hv73)) (s1 (far (k := 1) rfl fo68_1 ts54 rfl) (s0 (sto (b := .d (eU64 (v72.N + p3))) rfl rfl (sF (f := eApiValue) (v := (ApiValue.mk v73.Kind (v72.N + p3) v73.S)) (ds := [(eU64 (v72.N + p3))]) ts54 rfl rfl rfl rfl (getI_some hv73).2 rfl rfl rfl rfl)) (sn (sd (by kernel_rfl) (t1 ([], false) (far (k := 1) rfl fo26_1 ts22 rfl) rfl (t1 ([0], false) (lod rfl (ld_box ts22 ta22 rfl rfl)) rfl (t1 ([], false) (mv rfl) rfl ?_)))))))))
      refine t1 ([], false) (far (k := 0) rfl fo40_0 ts36 rfl) rfl (t1 ([1], false) (lod rfl (ld_box ts36 ta36 rfl rfl)) rfl (t1 ([], false) (iaz rfl rfl un36 ts65 (getI_lt hv74)) rfl (t1 ([], false) (far (k := 2) rfl fo65_2 ts63 rfl) rfl (t1 ([], false) (far (k := 4) rfl fo63_2 ts9 rfl) rfl (t1 ([2], false) (lod rfl (ld_row ts9 ta9 rfl (map_get (getI_some hv74).2) rfl)) rfl (tq [4, 6] [9] ([4, 6, 9], true) (ref11_Tree_Get_ok v74.Msg.Key r69 _ hq76) wf rfl rfl rfl cb20 rfl rfl rfl rfl rfl rfl rfl rfl rfl (t1 ([], false) (fld rfl fo72_2 ts9 ta9 rfl rfl) rfl (tc0 (row_Decode_ok p0.Cols r75.Val _ hq79) wf rfl rfl rfl cb19 rfl (fun _ => rfl) (fun _ => rfl) (t1 ([], false) (mv rfl) rfl ?_)))))))))
      refine t1 ([], false) (ext rfl rfl) rfl (t1 ([], false) (ext rfl rfl) rfl (t1 ([], false) (asg rfl) rfl (t1 ([], false) (asg rfl) rfl (tn (by decide +kernel) (SC.seqP h0 (fun y => ⟨mk 105 [(8, .d (eB y))], []⟩) ?_ ?_)))))
      ·intro u1_83 h1
       refine SC.region (sm rfl (s1 (bi rfl rfl q_i64_eql) (sm rfl (sp h1 (fun h1 => ?_) (fun h1 => ?_)))))
       ·obtain ⟨r84, hq85, h1⟩ := ob h1; have q := si h1; subst q
        exact gw rfl (mv rfl) (gw rfl (mv rfl) (cq (args' := [.d ((eL 3 eApiValue) r77), .slc 0 3 0 ((([] : List ApiValue) ++ p1).length) none]) (σc := [.row 3 (List.map eApiValue (List.set (([] : List ApiValue) ++ p1) p2.toNat (ApiValue.mk v73.Kind (v72.N + p3) v73.S))) true]) [8] [] (CallAt.frz (ArgF.keep (ArgF.frz (fF (by simp) rfl rfl) (ArgF.nil _))) (fq [] [] (raw_Values_ok r77 (List.set (([] : List ApiValue) ++ p1) p2.toNat (ApiValue.mk v73.Kind (v72.N + p3) v73.S)) _ hq85) rfl rfl rfl rfl rfl rfl rfl rfl)) (ww rfl) rfl rfl rfl cb21 rfl rfl rfl rfl rfl rfl rfl rfl (s1 (pkt rfl rfl) (sa rfl (SO.nil ((wc [] [] (by kernel_rfl) rfl (by kernel_rfl))))))))
       ·have q := si h1; subst q
        exact kw rfl (kw rfl (kw rfl (s1 (pkf rfl rfl) (sa rfl (SO.nil ((wc [] [] (by kernel_rfl) rfl (by kernel_rfl))))))))
      ·rintro y82 h0
       have q := si h0; subst q
       exact SC.ret (finR (Wk.refl _) (lresT rfl lresN) rfl)
end Lv
