/- Part of the proof of a law: functions and their walks. -/
import Derived.Test.YtddopjhkmkoicaaGreatDoorXFn1
namespace Lv
open Go Go.Proofs
set_option linter.unusedVariables false
set_option linter.unusedSimpArgs false
set_option linter.unusedSectionVars false
set_option maxRecDepth 100000
variable [BaseTab] [TabOk]
noncomputable def ref17_places (p0 : Int) (p1 : List Int) : Option Bool :=
 bindE (Y := Unit) (E := Bool)
 (Option.bind (α := Unit ⊕ Bool)
 (loop (Y := Int) (W := Unit ⊕ Bool) (fun y254 =>
 bif (decide (y254 < (p1.length : Int))) then
 Option.bind (α := Bool)
 (Option.bind (getI p1 y254) fun v280 =>
 bif (decide (v280 < (0 : Int))) then
 some true
 else
 Option.bind (getI p1 y254) fun v281 =>
 bif (decide (v281 ≥ p0)) then
 some true
 else
 bif decide (0 ≤ y254 ∧ y254 ≤ (p1.length : Int)) then
 Option.bind (getI p1 y254) fun v283 =>
 Option.bind (ref17_Has (List.take y254.toNat p1) v283) fun r285 =>
 some r285
 else none)
 fun y278 =>
 bif y278 then
 some (Sum.inr (Sum.inr false))
 else
 some (Sum.inl (w64 (y254 + (1 : Int))))
 else
 some (Sum.inr (Sum.inl ()))) (0 : Int))
 (Sum.elim (fun e => some (Sum.inl e)) (fun e => some (Sum.inr e))))
 (fun _ =>
 some true)
 (fun e => some e)
theorem ref17_places_ok (p0 : Int) (p1 : List Int) (r : Bool) (h0 : ref17_places p0 p1 = some r) : CallAt Tryz.prog 24 [.d (eI p0), .d ((eL 1 eI) p1)] [] (.d (eB r)) [] := by
 unfold ref17_places at h0
 refine fn0 [0, 1] Tryz.func24 rfl rfl rfl rfl rfl ?_
 refine sr (sa rfl (sn (SC.seqB h0 (fun y => ⟨mk 35 [], []⟩) ?_ ?_)))
 ·intro u1_239 h1 h0
  obtain ⟨u2_271, h2, h1⟩ := ob h1
  refine sr (sa rfl (sn (SC.blk (SC.loopB h2 (fun y => ⟨mk 35 [(0, .d (eI p0)), (1, .d ((eL 1 eI) p1)), (5, .d (eI y))], []⟩) (wq rfl) ?_))))
  intro n286
  rintro y254 w2_270 h3 hv3
  refine sq (sr (sm rfl (sm rfl (s1 (len rfl rfl rfl (len_lst un23)) (s1 (bi rfl rfl q_i64_lss) (sn (cB h3 rfl (fun h3 => ?_) (fun h3 => ?_))))))))
  ·refine sk (sq (SC.blk (SC.seqP h3 (fun y => ⟨mk 35 [(0, .d (eI p0)), (1, .d ((eL 1 eI) p1)), (5, .d (eI y254)), (34, .d (eB y))], []⟩) ?_ ?_)))
   ·intro u4_279 h4
    obtain ⟨v280, hv280, h4⟩ := ob h4
    refine SC.draws (by kernel_rfl) (t1 ([], false) (mv rfl) rfl (t1 ([], false) (mv rfl) rfl (t1 ([], false) (ial rfl rfl un23 ts3 (getI_some hv280).1 (map_get (getI_some hv280).2) rfl) rfl (t1 ([], false) (lod rfl (ld_rop ts3 ta3 rfl)) rfl (t1 ([], false) (bi rfl rfl q_i64_lss) rfl (t1 ([], false) (mv rfl) rfl (tp h4 (fun h4 => ?_) (fun h4 => ?_))))))))
    ·have q := si h4; subst q
     refine jw rfl (jw rfl (jw rfl (jw rfl (jw rfl (jw rfl (t1 ([], false) (pkt rfl rfl) rfl (t1 ([], false) (mv rfl) rfl (jw rfl (jw rfl ?_)))))))))
     refine jw rfl (jw rfl (jw rfl (jw rfl (jw rfl (jw rfl (t1 ([], false) (pkt rfl rfl) rfl (ST.nil (And.intro (by decide +kernel) ?_))))))))
     exact (wq rfl)
    ·obtain ⟨v281, hv281, h4⟩ := ob h4
     refine u1 ([], false) (ww rfl) (mv rfl) rfl (u1 ([], false) (ww rfl) (mv rfl) rfl (u1 ([], false) (ww rfl) (ial rfl rfl un23 ts3 (getI_some hv281).1 (map_get (getI_some hv281).2) rfl) rfl (u1 ([], false) (ww rfl) (lod rfl (ld_rop ts3 ta3 rfl)) rfl (u1 ([], false) (ww rfl) (mv rfl) rfl (u1 ([], false) (ww rfl) (bi rfl rfl q_i64_geq) rfl (t1 ([], false) (pkf rfl rfl) rfl (t1 ([], false) (mv rfl) rfl (tp h4 (fun h4 => ?_) (fun h4 => ?_)))))))))
     ·have q := si h4; subst q
      refine jw rfl (jw rfl (jw rfl (jw rfl (jw rfl (jw rfl (jw rfl (jw rfl (t1 ([], false) (pkt rfl rfl) rfl (ST.nil (And.intro (by decide +kernel) ?_))))))))))
      exact (wq rfl)
     ·obtain ⟨hg282, h4⟩ := gd h4; obtain ⟨v283, hv283, h4⟩ := ob h4; obtain ⟨r285, hq284, h4⟩ := ob h4; have q := si h4; subst q
      refine u1 ([], false) (ww rfl) (mv rfl) rfl (u1 ([], false) (ww rfl) (mv rfl) rfl (u1 ([], false) (ww rfl) (slo rfl rfl rfl rfl (sl_lst_hi un23 ts3 hg282)) rfl (u1 ([], false) (ww rfl) (mv rfl) rfl (u1 ([], false) (ww rfl) (mv rfl) rfl (u1 ([], false) (ww rfl) (ial rfl rfl un23 ts3 (getI_some hv283).1 (map_get (getI_some hv283).2) rfl) rfl (u1 ([], false) (ww rfl) (lod rfl (ld_rop ts3 ta3 rfl)) rfl (tc0 (ref17_Has_ok (List.take y254.toNat p1) v283 _ hq284) (ww rfl) rfl rfl rfl cb52 rfl (fun _ => rfl) (fun _ => rfl) (t1 ([], false) (pkf rfl rfl) rfl (ST.nil (And.intro (by decide +kernel) ?_))))))))))
      exact (wq rfl)
   ·rintro y278 h3
    refine cB h3 rfl (fun h3 => ?_) (fun h3 => ?_)
    ·have q := si h3; subst q; have q : _ = _ := hv3; subst q; have q := si h1; subst q; have q := si h0; subst q
     exact sr (sa rfl (sn (SC.ret (finR (Wk.refl _) (lresT rfl lresN) rfl))))
    ·refine SC.skip ?_
     change SC _ _ _ _ _
     have q := si h3; subst q
     exact SC.region (sm rfl (s1 (bi rfl rfl q_i64_add) (sa rfl (SO.nil (lf (wq rfl))))))
  ·have q := si h3; subst q; have q : _ = _ := hv3; subst q; have q := si h1; subst q
   exact SC.exit (lf (wq rfl))
 ·intro _ h0
  have q := si h0; subst q
  exact sr (sa rfl (sn (SC.ret (finR (Wk.refl _) (lresT rfl lresN) rfl))))
noncomputable def ref17_wide (p0 : ApiColumn) (p1 : Int) : Option Int :=
 Option.bind (α := Bool)
 (bif (p0.Kind == (1 : Int)) then
 some (p0.Kind == (1 : Int))
 else
 some (p0.Kind == (2 : Int)))
 fun y6 =>
 bif y6 then
 some (9 : Int)
 else
 bif (p0.Kind == (3 : Int)) then
 some (2 : Int)
 else
 some (w64 ((3 : Int) + (w64 (p1 * p0.Max))))
theorem ref17_wide_ok (p0 : ApiColumn) (p1 : Int) (r : Int) (h0 : ref17_wide p0 p1 = some r) : CallAt Tryz.prog 63 [.d (eApiColumn p0), .d (eI p1)] [] (.d (eI r)) [] := by
 unfold ref17_wide at h0
 refine fn0 [0, 1] Tryz.func63 rfl rfl rfl rfl rfl ?_
 refine sr (s1 (bxo (k := 0) rfl rfl rfl) (sa rfl (sn (sq (sr (s1 (far (k := 1) rfl fo77_1 ts3 rfl) (s1 (lod rfl (ld_box ts3 ta3 rfl rfl)) (sn (SC.blk ?_)))))))))
 refine SC.seqP h0 (fun y => ⟨mk 17 [(1, .d (eI p1)), (2, .ref 0 0 0), (6, .d (eI p0.Kind)), (7, .d (eB y))], [.box (.d (eApiColumn p0))]⟩) ?_ ?_
 ·intro u1_7 h1
  refine sr (s1 (bi rfl rfl q_i64_eql) (sa rfl (sn (cB h1 rfl (fun h1 => ?_) (fun h1 => ?_)))))
  ·have q := si h1; subst q
   exact SC.skip ((wq rfl))
  ·have q := si h1; subst q
   exact SC.region (s1 (bi rfl rfl q_i64_eql) (sa rfl (SO.nil ((wq rfl)))))
 ·rintro y6 h0
  refine cB h0 rfl (fun h0 => ?_) (fun h0 => ?_)
  ·have q := si h0; subst q
   exact sr (sa rfl (sn (SC.ret (finR (wc (e' := [(4, .d (eI (9 : Int)))]) [] [] (by kernel_rfl) rfl (by kernel_rfl)) (lresT rfl lresN) rfl))))
  ·refine sr (s1 (bi rfl rfl q_i64_eql) (sa rfl (sn (cB h0 rfl (fun h0 => ?_) (fun h0 => ?_)))))
   ·have q := si h0; subst q
    exact sr (sa rfl (sn (SC.ret (finR (wc (e' := [(4, .d (eI (2 : Int)))]) [] [] (by kernel_rfl) rfl (by kernel_rfl)) (lresT rfl lresN) rfl))))
   ·refine SC.skip ?_
    change SC _ _ _ _ _
    have q := si h0; subst q
    exact sr (sm rfl (s1 (far (k := 2) rfl fo77_2 ts3 rfl) (s1 (lod rfl (ld_box ts3 ta3 rfl rfl)) (s1 (bi rfl rfl q_i64_mul) (s1 (bi rfl rfl q_i64_add) (sa rfl (sn (SC.ret (finR (wc (e' := [(4, .d (eI (w64 ((3 : Int) + (w64 (p1 * p0.Max))))))]) [] [] (by kernel_rfl) rfl (by kernel_rfl)) (lresT rfl lresN) rfl)))))))))
noncomputable def ref17_RowMax (p0 : List ApiColumn) : Option Int :=
 Option.bind (α := Int)
 (Option.bind (α := Int)
 (loop (Y := Int × Int) (W := Int) (fun (y91, y92) =>
 bif (decide (y92 < (p0.length : Int))) then
 Option.bind (getI p0 y92) fun v100 =>
 Option.bind (ref17_wide v100 (1 : Int)) fun r102 =>
 some (Sum.inl ((w64 (y91 + r102)), (w64 (y92 + (1 : Int)))))
 else
 some (Sum.inr y91)) ((1 : Int), (0 : Int)))
 (fun e => some e))
 fun y86 =>
 some y86
theorem ref17_RowMax_ok (p0 : List ApiColumn) (r : Int) (h0 : ref17_RowMax p0 = some r) : CallAt Tryz.prog 25 [.d ((eL 7 eApiColumn) p0)] [] (.d (eI r)) [] := by
 unfold ref17_RowMax at h0
 refine fn0 [0] Tryz.func25 rfl rfl rfl rfl rfl ?_
 refine sr (sa rfl (sn (sr (sa rfl (sn (SC.seqP h0 (fun y => ⟨mk 19 [(3, .d (eI y))], []⟩) ?_ ?_))))))
 ·intro u1_87 h1
  obtain ⟨u2_99, h2, h1⟩ := ob h1
  refine sr (sa rfl (sn (SC.blk (SC.loopB h2 (fun y => ⟨mk 19 [(0, .d ((eL 7 eApiColumn) p0)), (3, .d (eI y.1)), (4, .d (eI y.2))], []⟩) (wq rfl) ?_))))
  intro n103
  rintro ⟨y91, y92⟩ w2_98 h3 hv3
  refine sq (sr (sm rfl (sm rfl (s1 (len rfl rfl rfl (len_lst un22)) (s1 (bi rfl rfl q_i64_lss) (sn (cB h3 rfl (fun h3 => ?_) (fun h3 => ?_))))))))
  ·obtain ⟨v100, hv100, h3⟩ := ob h3; obtain ⟨r102, hq101, h3⟩ := ob h3
   refine sk (sq (SC.blk (SC.region (sm rfl (sm rfl (sm rfl (s1 (ial rfl rfl un22 ts77 (getI_some hv100).1 (map_get (getI_some hv100).2) rfl) (s1 (lod (v := .d (eApiColumn v100)) rfl (ld_rop ts77 ta77 rfl)) (c0 (ref17_wide_ok v100 (1 : Int) _ hq101) wf rfl rfl rfl cb63 rfl (fun _ => rfl) (fun _ => rfl) ?_)))))))))
   refine s1 (bi rfl rfl q_i64_add) (sa rfl (SO.nil ?_))
   change SC _ _ _ _ _
   have q := si h3; subst q
   exact SC.region (sm rfl (s1 (bi rfl rfl q_i64_add) (sa rfl (SO.nil (lf (wq rfl))))))
  ·have q := si h3; subst q; have q : _ = _ := hv3; subst q; have q := si h1; subst q
   exact SC.exit ((wq rfl))
 ·rintro y86 h0
  have q := si h0; subst q
  exact sr (sm rfl (sa rfl (sn (SC.ret (finR (Wk.refl _) (lresT rfl lresN) rfl)))))
noncomputable def ref17_Up (p0 : List Int) : Option ((List ApiPart)) :=
 Option.bind (α := (List ApiPart))
 (Option.bind (α := (List ApiPart))
 (loop (Y := (List ApiPart) × Int) (W := (List ApiPart)) (fun (y75, y76) =>
 bif (decide (y76 < (p0.length : Int))) then
 Option.bind (getI p0 y76) fun v83 =>
 bif decide ((y75.length + [(ApiPart.mk v83 false)].length) * 16 ≤ room) then
 some (Sum.inl ((y75 ++ [(ApiPart.mk v83 false)]), (w64 (y76 + (1 : Int)))))
 else none
 else
 some (Sum.inr y75)) (([] : List ApiPart), (0 : Int)))
 (fun e => some e))
 fun y71 =>
 some y71
theorem ref17_Up_ok (p0 : List Int) (r : (List ApiPart)) (h0 : ref17_Up p0 = some r) : CallAt Tryz.prog 27 [.d ((eL 1 eI) p0)] [] (.d ((eL 2 eApiPart) r)) [] := by
 unfold ref17_Up at h0
 refine fn0 [0] Tryz.func27 rfl rfl rfl rfl rfl ?_
 refine sr (s1 (asg (v := .d .nils) rfl) (sn (sr (s1 (asg (v := .d .nils) rfl) (sn (SC.seqP h0 (fun y => ⟨mk 20 [(3, .slc 0 2 0 y.length none)], [.row 2 (List.map eApiPart y) true]⟩) ?_ ?_))))))
 ·intro u1_72 h1
  obtain ⟨u2_82, h2, h1⟩ := ob h1
  refine sr (sa rfl (sn (SC.blk (SC.loopB h2 (fun y => ⟨mk 20 [(0, .d ((eL 1 eI) p0)), (3, .slc 0 2 0 y.1.length none), (4, .d (eI y.2))], [.row 2 (List.map eApiPart y.1) true]⟩) (Wk.trans (Wk.pushE (σ' := [.row 2 (List.map eApiPart ([] : List ApiPart)) true]) (.row 2 [] true) (fun _ hh => by cases hh) rfl) (Wk.trans (Wk.env (e' := [(0, .d ((eL 1 eI) p0)), (3, .slc 0 2 0 (([] : List ApiPart).length) none), (4, .d (eI (0 : Int)))]) (EW.cons (AW.refl _) (EW.cons (AW.slcn _ _ _) (EW.cons (AW.refl _) EW.nil)))) (wq rfl))) ?_))))
  intro n85
  rintro ⟨y75, y76⟩ w2_81 h3 hv3
  refine sq (sr (sm rfl (sm rfl (s1 (len rfl rfl rfl (len_lst un23)) (s1 (bi rfl rfl q_i64_lss) (sn (cB h3 rfl (fun h3 => ?_) (fun h3 => ?_))))))))
  ·obtain ⟨v83, hv83, h3⟩ := ob h3; obtain ⟨hg84, h3⟩ := gd h3
   refine sk (sq (SC.blk (SC.region (sm rfl (sm rfl (sm rfl (s1 (ial rfl rfl un23 ts3 (getI_some hv83).1 (map_get (getI_some hv83).2) rfl) (s1 (lod rfl (ld_rop ts3 ta3 rfl)) (s1 (bld rfl (bd79_0 v83)) ?_)))))))))
   refine s1 (bsn (k := 1) (ds := List.map eApiPart [(ApiPart.mk v83 false)]) (off := 0) (l' := [(ApiPart.mk v83 false)].length) rfl un80 ei79 rfl rfl (by rfl) rfl rfl rfl) (s1 (app rfl rfl rfl rfl bc80 (aF (f := eApiPart) (xs := y75) (k := 2) rfl un80 ei79 rfl (el_full (xs := [(ApiPart.mk v83 false)]) rfl) hg84 rfl)) (sa rfl (SO.nil ?_)))
   change SC _ _ _ _ _
   have q := si h3; subst q
   exact SC.region (sm rfl (s1 (bi rfl rfl q_i64_add) (sa rfl (SO.nil (lf (wc [2] [2] (by kernel_rfl) rfl (by kernel_rfl)))))))
  ·have q := si h3; subst q; have q : _ = _ := hv3; subst q; have q := si h1; subst q
   exact SC.exit ((wq rfl))
 ·rintro y71 h0
  have q := si h0; subst q
  exact sr (sm rfl (sa rfl (sn (SC.ret (finR (Wk.trans (Wk.frz (i := 2) (x := .slc 0 2 0 y71.length none) rfl rfl (fF rfl rfl rfl)) (wc (e' := [(2, .d ((eL 2 eApiPart) y71))]) [] [] (by kernel_rfl) rfl (by kernel_rfl))) (lresT rfl lresN) rfl)))))
noncomputable def ref17_KeyMax (p0 : List ApiColumn) (p1 : List ApiPart) : Option Int :=
 Option.bind (α := Int)
 (Option.bind (α := Int)
 (loop (Y := Int × Int) (W := Int) (fun (y107, y108) =>
 bif (decide (y108 < (p1.length : Int))) then
 Option.bind (getI p1 y108) fun v117 =>
 Option.bind (getI p0 v117.Col) fun v118 =>
 Option.bind (ref17_wide v118 (2 : Int)) fun r120 =>
 some (Sum.inl ((w64 (y107 + r120)), (w64 (y108 + (1 : Int)))))
 else
 some (Sum.inr y107)) ((0 : Int), (0 : Int)))
 (fun e => some e))
 fun y101 =>
 some y101
theorem ref17_KeyMax_ok (p0 : List ApiColumn) (p1 : List ApiPart) (r : Int) (h0 : ref17_KeyMax p0 p1 = some r) : CallAt Tryz.prog 26 [.d ((eL 7 eApiColumn) p0), .d ((eL 2 eApiPart) p1)] [] (.d (eI r)) [] := by
 unfold ref17_KeyMax at h0
 refine fn0 [0, 1] Tryz.func26 rfl rfl rfl rfl rfl ?_
 refine sr (sa rfl (sn (sr (sa rfl (sn (SC.seqP h0 (fun y => ⟨mk 25 [(5, .d (eI y))], []⟩) ?_ ?_))))))
 ·intro u1_102 h1
  obtain ⟨u2_116, h2, h1⟩ := ob h1
  refine sr (sa rfl (sn (SC.blk (SC.loopB h2 (fun y => ⟨mk 25 [(0, .d ((eL 7 eApiColumn) p0)), (1, .d ((eL 2 eApiPart) p1)), (5, .d (eI y.1)), (6, .d (eI y.2))], []⟩) (wq rfl) ?_))))
  intro n121
  rintro ⟨y107, y108⟩ w2_115 h3 hv3
  refine sq (sr (sm rfl (sm rfl (s1 (len rfl rfl rfl (len_lst un80)) (s1 (bi rfl rfl q_i64_lss) (sn (cB h3 rfl (fun h3 => ?_) (fun h3 => ?_))))))))
  ·obtain ⟨v117, hv117, h3⟩ := ob h3; obtain ⟨v118, hv118, h3⟩ := ob h3; obtain ⟨r120, hq119, h3⟩ := ob h3
   refine sk (sq (SC.blk (SC.region (sm rfl (sm rfl (sm rfl (sm rfl (s1 (ial rfl rfl un80 ts79 (getI_some hv117).1 (map_get (getI_some hv117).2) rfl) (s1 (fap rfl fo79_0 ts3 rfl) ?_)))))))))
   refine s1 (lod rfl (ld_rop ts3 ta3 rfl)) (s1 (ial rfl rfl un22 ts77 (getI_some hv118).1 (map_get (getI_some hv118).2) rfl) (s1 (lod (v := .d (eApiColumn v118)) rfl (ld_rop ts77 ta77 rfl)) (c0 (ref17_wide_ok v118 (2 : Int) _ hq119) wf rfl rfl rfl cb63 rfl (fun _ => rfl) (fun _ => rfl) (s1 (bi rfl rfl q_i64_add) (sa rfl (SO.nil ?_))))))
   change SC _ _ _ _ _
   have q := si h3; subst q
   exact SC.region (sm rfl (s1 (bi rfl rfl q_i64_add) (sa rfl (SO.nil (lf (wq rfl))))))
  ·have q := si h3; subst q; have q : _ = _ := hv3; subst q; have q := si h1; subst q
   exact SC.exit ((wq rfl))
 ·rintro y101 h0
  have q := si h0; subst q
  exact sr (sm rfl (sa rfl (sn (SC.ret (finR (Wk.refl _) (lresT rfl lresN) rfl)))))
noncomputable def ref17_Cols (p0 : List ApiPart) : Option ((List Int)) :=
 Option.bind (α := (List Int))
 (Option.bind (α := (List Int))
 (loop (Y := (List Int) × Int) (W := (List Int)) (fun (y75, y76) =>
 bif (decide (y76 < (p0.length : Int))) then
 Option.bind (getI p0 y76) fun v83 =>
 bif decide ((y75.length + [v83.Col].length) * 8 ≤ room) then
 some (Sum.inl ((y75 ++ [v83.Col]), (w64 (y76 + (1 : Int)))))
 else none
 else
 some (Sum.inr y75)) (([] : List Int), (0 : Int)))
 (fun e => some e))
 fun y71 =>
 some y71
theorem ref17_Cols_ok (p0 : List ApiPart) (r : (List Int)) (h0 : ref17_Cols p0 = some r) : CallAt Tryz.prog 53 [.d ((eL 2 eApiPart) p0)] [] (.d ((eL 1 eI) r)) [] := by
 unfold ref17_Cols at h0
 refine fn0 [0] Tryz.func53 rfl rfl rfl rfl rfl ?_
 refine sr (s1 (asg (v := .d .nils) rfl) (sn (sr (s1 (asg (v := .d .nils) rfl) (sn (SC.seqP h0 (fun y => ⟨mk 20 [(3, .slc 0 1 0 y.length none)], [.row 1 (List.map eI y) true]⟩) ?_ ?_))))))
 ·intro u1_72 h1
  obtain ⟨u2_82, h2, h1⟩ := ob h1
  refine sr (sa rfl (sn (SC.blk (SC.loopB h2 (fun y => ⟨mk 20 [(0, .d ((eL 2 eApiPart) p0)), (3, .slc 0 1 0 y.1.length none), (4, .d (eI y.2))], [.row 1 (List.map eI y.1) true]⟩) (Wk.trans (Wk.pushE (σ' := [.row 1 (List.map eI ([] : List Int)) true]) (.row 1 [] true) (fun _ hh => by cases hh) rfl) (Wk.trans (Wk.env (e' := [(0, .d ((eL 2 eApiPart) p0)), (3, .slc 0 1 0 (([] : List Int).length) none), (4, .d (eI (0 : Int)))]) (EW.cons (AW.refl _) (EW.cons (AW.slcn _ _ _) (EW.cons (AW.refl _) EW.nil)))) (wq rfl))) ?_))))
  intro n85
  rintro ⟨y75, y76⟩ w2_81 h3 hv3
  refine sq (sr (sm rfl (sm rfl (s1 (len rfl rfl rfl (len_lst un80)) (s1 (bi rfl rfl q_i64_lss) (sn (cB h3 rfl (fun h3 => ?_) (fun h3 => ?_))))))))
  ·obtain ⟨v83, hv83, h3⟩ := ob h3; obtain ⟨hg84, h3⟩ := gd h3
   refine sk (sq (SC.blk (SC.region (sm rfl (sm rfl (sm rfl (s1 (ial rfl rfl un80 ts79 (getI_some hv83).1 (map_get (getI_some hv83).2) rfl) (s1 (fap rfl fo79_0 ts3 rfl) (s1 (lod rfl (ld_rop ts3 ta3 rfl)) ?_)))))))))
   refine s1 (bsn (k := 1) (ds := List.map eI [v83.Col]) (off := 0) (l' := [v83.Col].length) rfl un23 ei3 rfl rfl (by rfl) rfl rfl rfl) (s1 (app rfl rfl rfl rfl bc23 (aF (f := eI) (xs := y75) (k := 2) rfl un23 ei3 rfl (el_full (xs := [v83.Col]) rfl) hg84 rfl)) (sa rfl (SO.nil ?_)))
   change SC _ _ _ _ _
   have q := si h3; subst q
   exact SC.region (sm rfl (s1 (bi rfl rfl q_i64_add) (sa rfl (SO.nil (lf (wc [2] [2] (by kernel_rfl) rfl (by kernel_rfl)))))))
  ·have q := si h3; subst q; have q : _ = _ := hv3; subst q; have q := si h1; subst q
   exact SC.exit ((wq rfl))
 ·rintro y71 h0
  have q := si h0; subst q
  exact sr (sm rfl (sa rfl (sn (SC.ret (finR (Wk.trans (Wk.frz (i := 2) (x := .slc 0 1 0 y71.length none) rfl rfl (fF rfl rfl rfl)) (wc (e' := [(2, .d ((eL 1 eI) y71))]) [] [] (by kernel_rfl) rfl (by kernel_rfl))) (lresT rfl lresN) rfl)))))
noncomputable def ref17_index (p0 : ApiTable) (p1 : ApiIndex) : Option Int :=
 Option.bind (α := Bool)
 (bif (decide ((p1.Parts.length : Int) < (1 : Int))) then
 some true
 else
 bif (decide ((p1.Parts.length : Int) > (4 : Int))) then
 some true
 else
 Option.bind (ref17_Cols p1.Parts) fun r281 =>
 Option.bind (ref17_places (p0.Cols.length : Int) r281) fun r283 =>
 bif (!r283) then
 some true
 else
 Option.bind (ref17_places (p0.Cols.length : Int) p1.Extra) fun r285 =>
 some (!r285))
 fun y278 =>
 bif y278 then
 some (1 : Int)
 else
 bindE (Y := Unit) (E := Int)
 (Option.bind (α := Unit ⊕ Int)
 (loop (Y := Int) (W := Unit ⊕ Int) (fun y364 =>
 bif (decide (y364 < (p1.Extra.length : Int))) then
 Option.bind (α := Bool)
 (Option.bind (ref17_Cols p1.Parts) fun r397 =>
 Option.bind (getI p1.Extra y364) fun v398 =>
 Option.bind (ref17_Has r397 v398) fun r400 =>
 bif r400 then
 some true
 else
 Option.bind (getI p1.Extra y364) fun v401 =>
 Option.bind (ref17_Has p0.Primary v401) fun r403 =>
 some r403)
 fun y394 =>
 bif y394 then
 some (Sum.inr (Sum.inr (1 : Int)))
 else
 some (Sum.inl (w64 (y364 + (1 : Int))))
 else
 some (Sum.inr (Sum.inl ()))) (0 : Int))
 (Sum.elim (fun e => some (Sum.inl e)) (fun e => some (Sum.inr e))))
 (fun _ =>
 Option.bind (ref17_KeyMax p0.Cols p1.Parts) fun r406 =>
 bif (decide (r406 > (128 : Int))) then
 some (7 : Int)
 else
 some (0 : Int))
 (fun e => some e)
theorem ref17_index_ok (p0 : ApiTable) (p1 : ApiIndex) (r : Int) (h0 : ref17_index p0 p1 = some r) : CallAt Tryz.prog 28 [.d (eApiTable p0), .d (eApiIndex p1)] [] (.d (eI r)) [] := by
 unfold ref17_index at h0
 refine fn0 [0, 1] Tryz.func28 rfl rfl rfl rfl rfl ?_
 refine sr (s1 (bxo (k := 0) rfl rfl rfl) (s1 (bxo (k := 1) rfl rfl rfl) (sa rfl (sn (sr (s1 (far (k := 1) rfl fo26_1 ts22 rfl) (s1 (lod rfl (ld_box ts22 ta22 rfl rfl)) (s1 (len rfl rfl rfl (len_lst un22)) (sa rfl ?_)))))))))
 refine sn (sq (SC.seqP h0 (fun y => ⟨mk 67 [(2, .ref 0 0 0), (3, .ref 1 0 0), (34, .d (eB y))], [.box (.d (eApiTable p0)), .box (.d (eApiIndex p1))]⟩) ?_ ?_))
 ·intro u1_279 h1
  refine SC.region (s1 (far (k := 1) rfl fo82_1 ts80 rfl) (s1 (lod rfl (ld_box ts80 ta80 rfl rfl)) (s1 (len rfl rfl rfl (len_lst un80)) (s1 (bi rfl rfl q_i64_lss) (sm rfl (sp h1 (fun h1 => ?_) (fun h1 => ?_)))))))
  ·have q := si h1; subst q
   refine kw rfl (kw rfl (kw rfl (kw rfl (s1 (pkt rfl rfl) (sm rfl (kw rfl (kw rfl (kw rfl (kw rfl ?_)))))))))
   refine kw rfl (kw rfl (s1 (pkt rfl rfl) (sm rfl (kw rfl (kw rfl (kw rfl (kw rfl (kw rfl (s1 (pkt rfl rfl) ?_)))))))))
   exact SO.nil ((wq rfl))
  ·refine gw rfl (far (k := 1) rfl fo82_1 ts80 rfl) (gw rfl (lod rfl (ld_box ts80 ta80 rfl rfl)) (gw rfl (len rfl rfl rfl (len_lst un80)) (gw rfl (bi rfl rfl q_i64_gtr) (s1 (pkf rfl rfl) (sm rfl (sp h1 (fun h1 => ?_) (fun h1 => ?_)))))))
   ·have q := si h1; subst q
    refine kw rfl (kw rfl (kw rfl (kw rfl (kw rfl (kw rfl (s1 (pkt rfl rfl) (sm rfl (kw rfl (kw rfl ?_)))))))))
    exact kw rfl (kw rfl (kw rfl (s1 (pkt rfl rfl) (SO.nil ((wq rfl))))))
   ·obtain ⟨r281, hq280, h1⟩ := ob h1; obtain ⟨r283, hq282, h1⟩ := ob h1
    refine gw rfl (mv rfl) (gw rfl (far (k := 1) rfl fo82_1 ts80 rfl) (gw rfl (lod rfl (ld_box ts80 ta80 rfl rfl)) (c0 (ref17_Cols_ok p1.Parts _ hq280) (ww rfl) rfl rfl rfl cb53 rfl (fun _ => rfl) (fun _ => rfl) (c0 (ref17_places_ok (p0.Cols.length : Int) r281 _ hq282) (ww rfl) rfl rfl rfl cb24 rfl (fun _ => rfl) (fun _ => rfl) (gw rfl (nt rfl) (s1 (pkf rfl rfl) (sm rfl (sp h1 (fun h1 => ?_) (fun h1 => ?_)))))))))
    ·have q := si h1; subst q
     exact kw rfl (kw rfl (kw rfl (kw rfl (kw rfl (s1 (pkt rfl rfl) (SO.nil ((wq rfl))))))))
    ·obtain ⟨r285, hq284, h1⟩ := ob h1; have q := si h1; subst q
     exact gw rfl (mv rfl) (gw rfl (far (k := 2) rfl fo82_2 ts23 rfl) (gw rfl (lod rfl (ld_box ts23 ta23 rfl rfl)) (c0 (ref17_places_ok (p0.Cols.length : Int) p1.Extra _ hq284) (ww rfl) rfl rfl rfl cb24 rfl (fun _ => rfl) (fun _ => rfl) (gw rfl (nt rfl) (s1 (pkf rfl rfl) (SO.nil ((wq rfl))))))))
 ·rintro y278 h0
  refine cB h0 rfl (fun h0 => ?_) (fun h0 => ?_)
  ·have q := si h0; subst q
   exact sr (sa rfl (sn (SC.ret (finR (wc (e' := [(4, .d (eI (1 : Int)))]) [] [] (by kernel_rfl) rfl (by kernel_rfl)) (lresT rfl lresN) rfl))))
  ·refine sk (SC.seqB h0 (fun y => ⟨mk 67 [(2, .ref 0 0 0), (3, .ref 1 0 0)], [.box (.d (eApiTable p0)), .box (.d (eApiIndex p1))]⟩) ?_ ?_)
   ·intro u1_345 h1 h0
    obtain ⟨u2_385, h2, h1⟩ := ob h1
    refine sr (sa rfl (sn (SC.blk (SC.loopB h2 (fun y => ⟨mk 67 [(2, .ref 0 0 0), (3, .ref 1 0 0), (6, .d (eI y))], [.box (.d (eApiTable p0)), .box (.d (eApiIndex p1))]⟩) (wq rfl) ?_))))
    intro n404
    rintro y364 w2_384 h3 hv3
    refine sq (sr (sm rfl (s1 (far (k := 2) rfl fo82_2 ts23 rfl) (s1 (lod rfl (ld_box ts23 ta23 rfl rfl)) (s1 (len rfl rfl rfl (len_lst un23)) (s1 (bi rfl rfl q_i64_lss) (sn (cB h3 rfl (fun h3 => ?_) (fun h3 => ?_)))))))))
    ·refine sk (sq (SC.blk (SC.seqP h3 (fun y => ⟨mk 67 [(2, .ref 0 0 0), (3, .ref 1 0 0), (6, .d (eI y364)), (60, .d (eB y))], [.box (.d (eApiTable p0)), .box (.d (eApiIndex p1))]⟩) ?_ ?_)))
     ·intro u4_395 h4
      obtain ⟨r397, hq396, h4⟩ := ob h4; obtain ⟨v398, hv398, h4⟩ := ob h4; obtain ⟨r400, hq399, h4⟩ := ob h4
      refine SC.draws (by kernel_rfl) (t1 ([], false) (far (k := 1) rfl fo82_1 ts80 rfl) rfl (t1 ([1], false) (lod rfl (ld_box ts80 ta80 rfl rfl)) rfl (tc0 (ref17_Cols_ok p1.Parts _ hq396) wf rfl rfl rfl cb53 rfl (fun _ => rfl) (fun _ => rfl) (t1 ([], false) (far (k := 2) rfl fo82_2 ts23 rfl) rfl (t1 ([1], false) (lod rfl (ld_box ts23 ta23 rfl rfl)) rfl (t1 ([], false) (mv rfl) rfl (t1 ([], false) (ial rfl rfl un23 ts3 (getI_some hv398).1 (map_get (getI_some hv398).2) rfl) rfl (t1 ([], false) (lod rfl (ld_rop ts3 ta3 rfl)) rfl (tc0 (ref17_Has_ok r397 v398 _ hq399) wf rfl rfl rfl cb52 rfl (fun _ => rfl) (fun _ => rfl) ?_)))))))))
      refine t1 ([], false) (mv rfl) rfl (tp h4 (fun h4 => ?_) (fun h4 => ?_))
      ·have q := si h4; subst q
       refine jw rfl (jw rfl (jw rfl (jw rfl (jw rfl (jw rfl (jw rfl (jw rfl (t1 ([], false) (pkt rfl rfl) rfl (ST.nil (And.intro (by decide +kernel) ?_))))))))))
       exact (wq rfl)
      ·obtain ⟨v401, hv401, h4⟩ := ob h4; obtain ⟨r403, hq402, h4⟩ := ob h4; have q := si h4; subst q
       refine u1 ([], false) (ww rfl) (far (k := 2) rfl fo26_2 ts23 rfl) rfl (u1 ([0], false) (ww rfl) (lod rfl (ld_box ts23 ta23 rfl rfl)) rfl (u1 ([], false) (ww rfl) (far (k := 2) rfl fo82_2 ts23 rfl) rfl (u1 ([1], false) (ww rfl) (lod rfl (ld_box ts23 ta23 rfl rfl)) rfl (u1 ([], false) (ww rfl) (mv rfl) rfl (u1 ([], false) (ww rfl) (ial rfl rfl un23 ts3 (getI_some hv401).1 (map_get (getI_some hv401).2) rfl) rfl (u1 ([], false) (ww rfl) (lod rfl (ld_rop ts3 ta3 rfl)) rfl (tc0 (ref17_Has_ok p0.Primary v401 _ hq402) (ww rfl) rfl rfl rfl cb52 rfl (fun _ => rfl) (fun _ => rfl) (t1 ([], false) (pkf rfl rfl) rfl (ST.nil (And.intro (by decide +kernel) ?_))))))))))
       exact (wq rfl)
     ·rintro y394 h3
      refine cB h3 rfl (fun h3 => ?_) (fun h3 => ?_)
      ·have q := si h3; subst q; have q : _ = _ := hv3; subst q; have q := si h1; subst q; have q := si h0; subst q
       exact sr (sa rfl (sn (SC.ret (finR (wc (e' := [(4, .d (eI (1 : Int)))]) [] [] (by kernel_rfl) rfl (by kernel_rfl)) (lresT rfl lresN) rfl))))
      ·refine SC.skip ?_
       change SC _ _ _ _ _
       have q := si h3; subst q
       exact SC.region (sm rfl (s1 (bi rfl rfl q_i64_add) (sa rfl (SO.nil (lf (wq rfl))))))
    ·have q := si h3; subst q; have q : _ = _ := hv3; subst q; have q := si h1; subst q
     exact SC.exit (lf (wq rfl))
   ·intro _ h0
    obtain ⟨r406, hq405, h0⟩ := ob h0
    refine sq (sr (s1 (far (k := 1) rfl fo26_1 ts22 rfl) (s1 (lod rfl (ld_box ts22 ta22 rfl rfl)) (s1 (far (k := 1) rfl fo82_1 ts80 rfl) (s1 (lod rfl (ld_box ts80 ta80 rfl rfl)) (c0 (ref17_KeyMax_ok p0.Cols p1.Parts _ hq405) wf rfl rfl rfl cb26 rfl (fun _ => rfl) (fun _ => rfl) (s1 (bi rfl rfl q_i64_gtr) (sn (cB h0 rfl (fun h0 => ?_) (fun h0 => ?_))))))))))
    ·have q := si h0; subst q
     exact sr (sa rfl (sn (SC.ret (finR (wc (e' := [(4, .d (eI (7 : Int)))]) [] [] (by kernel_rfl) rfl (by kernel_rfl)) (lresT rfl lresN) rfl))))
    ·have q := si h0; subst q
     exact sk (sr (sa rfl (sn (SC.ret (finR (wc (e' := [(4, .d (eI (0 : Int)))]) [] [] (by kernel_rfl) rfl (by kernel_rfl)) (lresT rfl lresN) rfl)))))
noncomputable def ref17_Check (p0 : ApiTable) : Option Int :=
 Option.bind (ref06_Name p0.Name) fun r885 =>
 bif (!r885) then
 some (1 : Int)
 else
 Option.bind (α := Bool)
 (bif (decide ((p0.Cols.length : Int) < (1 : Int))) then
 some true
 else
 some (decide ((p0.Cols.length : Int) > (24 : Int))))
 fun y886 =>
 bif y886 then
 some (7 : Int)
 else
 bindE (Y := Unit) (E := Int)
 (Option.bind (α := Unit ⊕ Int)
 (loop (Y := Int) (W := Unit ⊕ Int) (fun y978 =>
 bif (decide (y978 < (p0.Cols.length : Int))) then
 bindE (Y := Unit) (E := Int)
 (Option.bind (getI p0.Cols y978) fun v1026 =>
 Option.bind (ref06_Column v1026) fun r1028 =>
 bif (r1028 != (0 : Int)) then
 some (Sum.inr r1028)
 else
 Option.bind (α := Unit ⊕ Int)
 (loop (Y := Int) (W := Unit ⊕ Int) (fun y1031 =>
 bif (decide (y1031 < y978)) then
 Option.bind (getI p0.Cols y1031) fun v1037 =>
 Option.bind (getI p0.Cols y978) fun v1038 =>
 bif (v1037.Name == v1038.Name) then
 some (Sum.inr (Sum.inr (6 : Int)))
 else
 some (Sum.inl (w64 (y1031 + (1 : Int))))
 else
 some (Sum.inr (Sum.inl ()))) (0 : Int))
 (Sum.elim (fun e => some (Sum.inl e)) (fun e => some (Sum.inr e))))
 (fun _ =>
 some (Sum.inl (w64 (y978 + (1 : Int)))))
 (fun e => some (Sum.inr (Sum.inr e)))
 else
 some (Sum.inr (Sum.inl ()))) (0 : Int))
 (Sum.elim (fun e => some (Sum.inl e)) (fun e => some (Sum.inr e))))
 (fun _ =>
 Option.bind (α := Bool)
 (bif (decide ((p0.Primary.length : Int) < (1 : Int))) then
 some true
 else
 bif (decide ((p0.Primary.length : Int) > (4 : Int))) then
 some true
 else
 Option.bind (ref17_places (p0.Cols.length : Int) p0.Primary) fun r1046 =>
 some (!r1046))
 fun y1043 =>
 bif y1043 then
 some (1 : Int)
 else
 bindE (Y := Unit) (E := Int)
 (Option.bind (α := Unit ⊕ Int)
 (loop (Y := Int) (W := Unit ⊕ Int) (fun y1061 =>
 bif (decide (y1061 < (p0.Primary.length : Int))) then
 Option.bind (getI p0.Primary y1061) fun v1067 =>
 Option.bind (getI p0.Cols v1067) fun v1068 =>
 bif v1068.Nulls then
 some (Sum.inr (Sum.inr (1 : Int)))
 else
 some (Sum.inl (w64 (y1061 + (1 : Int))))
 else
 some (Sum.inr (Sum.inl ()))) (0 : Int))
 (Sum.elim (fun e => some (Sum.inl e)) (fun e => some (Sum.inr e))))
 (fun _ =>
 Option.bind (α := Bool)
 (Option.bind (ref17_RowMax p0.Cols) fun r1079 =>
 bif (decide (r1079 > (512 : Int))) then
 some true
 else
 Option.bind (ref17_Up p0.Primary) fun r1081 =>
 Option.bind (ref17_KeyMax p0.Cols r1081) fun r1083 =>
 bif (decide (r1083 > (128 : Int))) then
 some true
 else
 some (decide ((p0.Indexes.length : Int) > (6 : Int))))
 fun y1076 =>
 bif y1076 then
 some (7 : Int)
 else
 bindE (Y := Unit) (E := Int)
 (Option.bind (α := Unit ⊕ Int)
 (loop (Y := Int) (W := Unit ⊕ Int) (fun y1230 =>
 bif (decide (y1230 < (p0.Indexes.length : Int))) then
 bindE (Y := Unit) (E := Int)
 (Option.bind (getI p0.Indexes y1230) fun v1302 =>
 Option.bind (ref06_Name v1302.Name) fun r1304 =>
 bif (!r1304) then
 some (Sum.inr (1 : Int))
 else
 bindE (Y := Unit) (E := Int)
 (Option.bind (α := Unit ⊕ Int)
 (loop (Y := Int) (W := Unit ⊕ Int) (fun y1315 =>
 bif (decide (y1315 < y1230)) then
 Option.bind (getI p0.Indexes y1315) fun v1320 =>
 bif (v1320.Name == v1302.Name) then
 some (Sum.inr (Sum.inr (6 : Int)))
 else
 some (Sum.inl (w64 (y1315 + (1 : Int))))
 else
 some (Sum.inr (Sum.inl ()))) (0 : Int))
 (Sum.elim (fun e => some (Sum.inl e)) (fun e => some (Sum.inr e))))
 (fun _ =>
 Option.bind (ref17_index p0 v1302) fun r1323 =>
 bif (r1323 != (0 : Int)) then
 some (Sum.inr r1323)
 else
 some (Sum.inl ()))
 (fun e => some (Sum.inr e)))
 (fun _ =>
 some (Sum.inl (w64 (y1230 + (1 : Int)))))
 (fun e => some (Sum.inr (Sum.inr e)))
 else
 some (Sum.inr (Sum.inl ()))) (0 : Int))
 (Sum.elim (fun e => some (Sum.inl e)) (fun e => some (Sum.inr e))))
 (fun _ =>
 some (0 : Int))
 (fun e => some e))
 (fun e => some e))
 (fun e => some e)
theorem ref17_Check_ok (p0 : ApiTable) (r : Int) (h0 : ref17_Check p0 = some r) : CallAt Tryz.prog 8 [.d (eApiTable p0)] [] (.d (eI r)) [] := by
 unfold ref17_Check at h0
 refine fn0 [0] Tryz.func8 rfl rfl rfl rfl rfl ?_
 obtain ⟨r885, hq884, h0⟩ := ob h0
 refine sr (s1 (bxo (k := 0) rfl rfl rfl) (sa rfl (sn (sq (sr (s1 (far (k := 0) rfl fo26_0 ts9 rfl) (s1 (lod rfl (ld_box ts9 ta9 rfl rfl)) (c0 (ref06_Name_ok p0.Name _ hq884) wf rfl rfl rfl cb22 rfl (fun _ => rfl) (fun _ => rfl) (s1 (nt rfl) ?_)))))))))
 refine sn (cB h0 rfl (fun h0 => ?_) (fun h0 => ?_))
 ·have q := si h0; subst q
  exact sr (sa rfl (sn (SC.ret (finR (wc (e' := [(2, .d (eI (1 : Int)))]) [] [] (by kernel_rfl) rfl (by kernel_rfl)) (lresT rfl lresN) rfl))))
 ·refine sk (sq (SC.seqP h0 (fun y => ⟨mk 150 [(1, .ref 0 0 0), (24, .d (eB y))], [.box (.d (eApiTable p0))]⟩) ?_ ?_))
  ·intro u1_887 h1
   refine SC.region (s1 (far (k := 1) rfl fo26_1 ts22 rfl) (s1 (lod rfl (ld_box ts22 ta22 rfl rfl)) (s1 (len rfl rfl rfl (len_lst un22)) (s1 (bi rfl rfl q_i64_lss) (sm rfl (sp h1 (fun h1 => ?_) (fun h1 => ?_)))))))
   ·have q := si h1; subst q
    exact kw rfl (kw rfl (kw rfl (kw rfl (s1 (pkt rfl rfl) (SO.nil ((wq rfl)))))))
   ·have q := si h1; subst q
    exact gw rfl (far (k := 1) rfl fo26_1 ts22 rfl) (gw rfl (lod rfl (ld_box ts22 ta22 rfl rfl)) (gw rfl (len rfl rfl rfl (len_lst un22)) (gw rfl (bi rfl rfl q_i64_gtr) (s1 (pkf rfl rfl) (SO.nil ((wq rfl)))))))
  ·rintro y886 h0
   refine cB h0 rfl (fun h0 => ?_) (fun h0 => ?_)
   ·have q := si h0; subst q
    exact sr (sa rfl (sn (SC.ret (finR (wc (e' := [(2, .d (eI (7 : Int)))]) [] [] (by kernel_rfl) rfl (by kernel_rfl)) (lresT rfl lresN) rfl))))
   ·refine sk (SC.seqB h0 (fun y => ⟨mk 150 [(1, .ref 0 0 0)], [.box (.d (eApiTable p0))]⟩) ?_ ?_)
    ·intro u1_964 h1 h0
     obtain ⟨u2_1010, h2, h1⟩ := ob h1
     refine sr (sa rfl (sn (SC.blk (SC.loopB h2 (fun y => ⟨mk 150 [(1, .ref 0 0 0), (3, .d (eI y))], [.box (.d (eApiTable p0))]⟩) (wq rfl) ?_))))
     intro n1040
     rintro y978 w2_1009 h3 hv3
     refine sq (sr (sm rfl (s1 (far (k := 1) rfl fo26_1 ts22 rfl) (s1 (lod rfl (ld_box ts22 ta22 rfl rfl)) (s1 (len rfl rfl rfl (len_lst un22)) (s1 (bi rfl rfl q_i64_lss) (sn (cB h3 rfl (fun h3 => ?_) (fun h3 => ?_)))))))))
     ·refine sk (SC.seqB h3 (fun y => ⟨mk 150 [(1, .ref 0 0 0), (3, .d (eI y978))], [.box (.d (eApiTable p0))]⟩) ?_ ?_)
      ·intro u4_1025 h4 h3
       obtain ⟨v1026, hv1026, h4⟩ := ob h4; obtain ⟨r1028, hq1027, h4⟩ := ob h4
       refine SC.blk (sr (s1 (far (k := 1) rfl fo26_1 ts22 rfl) (s1 (lod rfl (ld_box ts22 ta22 rfl rfl)) (sm rfl (s1 (ial rfl rfl un22 ts77 (getI_some hv1026).1 (map_get (getI_some hv1026).2) rfl) (s1 (lod (v := .d (eApiColumn v1026)) rfl (ld_rop ts77 ta77 rfl)) (c0 (ref06_Column_ok v1026 _ hq1027) wf rfl rfl rfl cb23 rfl (fun _ => rfl) (fun _ => rfl) (sa rfl (sn ?_)))))))))
       refine sq (sr (sm rfl (s1 (bi rfl rfl q_i64_neq) (sn (cB h4 rfl (fun h4 => ?_) (fun h4 => ?_))))))
       ·have q := si h4; subst q; have q := si h3; subst q; have q : _ = _ := hv3; subst q; have q := si h1; subst q; have q := si h0; subst q
        exact sr (sm rfl (sa rfl (sn (SC.ret (finR (wc (e' := [(2, .d (eI r1028))]) [] [] (by kernel_rfl) rfl (by kernel_rfl)) (lresT rfl lresN) rfl)))))
       ·obtain ⟨u5_1036, h5, h4⟩ := ob h4
        refine sk (sr (sa rfl (sn (SC.blk (SC.loopB h5 (fun y => ⟨mk 150 [(1, .ref 0 0 0), (3, .d (eI y978)), (5, .d (eI y))], [.box (.d (eApiTable p0))]⟩) (wq rfl) ?_)))))
        intro n1039
        rintro y1031 w5_1035 h6 hv6
        refine sq (sr (sm rfl (sm rfl (s1 (bi rfl rfl q_i64_lss) (sn (cB h6 rfl (fun h6 => ?_) (fun h6 => ?_)))))))
        ·obtain ⟨v1037, hv1037, h6⟩ := ob h6; obtain ⟨v1038, hv1038, h6⟩ := ob h6
         refine sk (sq (SC.blk (sd (by kernel_rfl) (t1 ([], false) (far (k := 1) rfl fo26_1 ts22 rfl) rfl (t1 ([0], false) (lod rfl (ld_box ts22 ta22 rfl rfl)) rfl (t1 ([], false) (mv rfl) rfl (t1 ([], false) (ial rfl rfl un22 ts77 (getI_some hv1037).1 (map_get (getI_some hv1037).2) rfl) rfl (t1 ([], false) (fap rfl fo77_0 ts9 rfl) rfl (t1 ([], false) (lod rfl (ld_rop ts9 ta9 rfl)) rfl ?_)))))))))
         refine t1 ([], false) (far (k := 1) rfl fo26_1 ts22 rfl) rfl (t1 ([0], false) (lod rfl (ld_box ts22 ta22 rfl rfl)) rfl (t1 ([], false) (mv rfl) rfl (t1 ([], false) (ial rfl rfl un22 ts77 (getI_some hv1038).1 (map_get (getI_some hv1038).2) rfl) rfl (t1 ([], false) (fap rfl fo77_0 ts9 rfl) rfl (t1 ([], false) (lod rfl (ld_rop ts9 ta9 rfl)) rfl (t1 ([], false) (bi rfl rfl q_str_eql) rfl (tn (by decide +kernel) (cB h6 rfl (fun h6 => ?_) (fun h6 => ?_)))))))))
         ·have q := si h6; subst q; have q : _ = _ := hv6; subst q; have q := si h4; subst q; have q := si h3; subst q; have q : _ = _ := hv3; subst q; have q := si h1; subst q; have q := si h0; subst q
          exact sr (sa rfl (sn (SC.ret (finR (wc (e' := [(2, .d (eI (6 : Int)))]) [] [] (by kernel_rfl) rfl (by kernel_rfl)) (lresT rfl lresN) rfl))))
         ·refine SC.skip ?_
          change SC _ _ _ _ _
          have q := si h6; subst q
          exact SC.region (sm rfl (s1 (bi rfl rfl q_i64_add) (sa rfl (SO.nil (lf (wq rfl))))))
        ·have q := si h6; subst q; have q : _ = _ := hv6; subst q; have q := si h4; subst q
         exact SC.exit (lf (wq rfl))
      ·intro _ h3
       have q := si h3; subst q
       exact SC.region (sm rfl (s1 (bi rfl rfl q_i64_add) (sa rfl (SO.nil (lf (wq rfl))))))
     ·have q := si h3; subst q; have q : _ = _ := hv3; subst q; have q := si h1; subst q
      exact SC.exit (lf (wq rfl))
    ·intro _ h0
     refine sq (SC.seqP h0 (fun y => ⟨mk 150 [(1, .ref 0 0 0), (77, .d (eB y))], [.box (.d (eApiTable p0))]⟩) ?_ ?_)
     ·intro u1_1044 h1
      refine SC.region (s1 (far (k := 2) rfl fo26_2 ts23 rfl) (s1 (lod rfl (ld_box ts23 ta23 rfl rfl)) (s1 (len rfl rfl rfl (len_lst un23)) (s1 (bi rfl rfl q_i64_lss) (sm rfl (sp h1 (fun h1 => ?_) (fun h1 => ?_)))))))
      ·have q := si h1; subst q
       refine kw rfl (kw rfl (kw rfl (kw rfl (s1 (pkt rfl rfl) (sm rfl (kw rfl (kw rfl (kw rfl (kw rfl ?_)))))))))
       exact kw rfl (kw rfl (kw rfl (s1 (pkt rfl rfl) (SO.nil ((wq rfl))))))
      ·refine gw rfl (far (k := 2) rfl fo26_2 ts23 rfl) (gw rfl (lod rfl (ld_box ts23 ta23 rfl rfl)) (gw rfl (len rfl rfl rfl (len_lst un23)) (gw rfl (bi rfl rfl q_i64_gtr) (s1 (pkf rfl rfl) (sm rfl (sp h1 (fun h1 => ?_) (fun h1 => ?_)))))))
       ·have q := si h1; subst q
        exact kw rfl (kw rfl (kw rfl (kw rfl (kw rfl (kw rfl (kw rfl (s1 (pkt rfl rfl) (SO.nil ((wq rfl))))))))))
       ·obtain ⟨r1046, hq1045, h1⟩ := ob h1; have q := si h1; subst q
        exact gw rfl (far (k := 1) rfl fo26_1 ts22 rfl) (gw rfl (lod rfl (ld_box ts22 ta22 rfl rfl)) (gw rfl (len rfl rfl rfl (len_lst un22)) (gw rfl (far (k := 2) rfl fo26_2 ts23 rfl) (gw rfl (lod rfl (ld_box ts23 ta23 rfl rfl)) (c0 (ref17_places_ok (p0.Cols.length : Int) p0.Primary _ hq1045) (ww rfl) rfl rfl rfl cb24 rfl (fun _ => rfl) (fun _ => rfl) (gw rfl (nt rfl) (s1 (pkf rfl rfl) (SO.nil ((wq rfl))))))))))
     ·rintro y1043 h0
      refine cB h0 rfl (fun h0 => ?_) (fun h0 => ?_)
      ·have q := si h0; subst q
       exact sr (sa rfl (sn (SC.ret (finR (wc (e' := [(2, .d (eI (1 : Int)))]) [] [] (by kernel_rfl) rfl (by kernel_rfl)) (lresT rfl lresN) rfl))))
      ·refine sk (SC.seqB h0 (fun y => ⟨mk 150 [(1, .ref 0 0 0)], [.box (.d (eApiTable p0))]⟩) ?_ ?_)
       ·intro u1_1058 h1 h0
        obtain ⟨u2_1066, h2, h1⟩ := ob h1
        refine sr (sa rfl (sn (SC.blk (SC.loopB h2 (fun y => ⟨mk 150 [(1, .ref 0 0 0), (6, .d (eI y))], [.box (.d (eApiTable p0))]⟩) (wq rfl) ?_))))
        intro n1069
        rintro y1061 w2_1065 h3 hv3
        refine sq (sr (sm rfl (s1 (far (k := 2) rfl fo26_2 ts23 rfl) (s1 (lod rfl (ld_box ts23 ta23 rfl rfl)) (s1 (len rfl rfl rfl (len_lst un23)) (s1 (bi rfl rfl q_i64_lss) (sn (cB h3 rfl (fun h3 => ?_) (fun h3 => ?_)))))))))
        ·obtain ⟨v1067, hv1067, h3⟩ := ob h3; obtain ⟨v1068, hv1068, h3⟩ := ob h3
         refine sk (sq (SC.blk (sd (by kernel_rfl) (t1 ([], false) (far (k := 1) rfl fo26_1 ts22 rfl) rfl (t1 ([0], false) (lod rfl (ld_box ts22 ta22 rfl rfl)) rfl (t1 ([], false) (far (k := 2) rfl fo26_2 ts23 rfl) rfl (t1 ([0], false) (lod rfl (ld_box ts23 ta23 rfl rfl)) rfl (t1 ([], false) (mv rfl) rfl (t1 ([], false) (ial rfl rfl un23 ts3 (getI_some hv1067).1 (map_get (getI_some hv1067).2) rfl) rfl ?_)))))))))
         refine t1 ([], false) (lod rfl (ld_rop ts3 ta3 rfl)) rfl (t1 ([], false) (ial rfl rfl un22 ts77 (getI_some hv1068).1 (map_get (getI_some hv1068).2) rfl) rfl (t1 ([], false) (fap rfl fo77_3 ts4 rfl) rfl (t1 ([], false) (lod rfl (ld_rop ts4 ta4 rfl)) rfl (tn (by decide +kernel) (cB h3 rfl (fun h3 => ?_) (fun h3 => ?_))))))
         ·have q := si h3; subst q; have q : _ = _ := hv3; subst q; have q := si h1; subst q; have q := si h0; subst q
          exact sr (sa rfl (sn (SC.ret (finR (wc (e' := [(2, .d (eI (1 : Int)))]) [] [] (by kernel_rfl) rfl (by kernel_rfl)) (lresT rfl lresN) rfl))))
         ·refine SC.skip ?_
          change SC _ _ _ _ _
          have q := si h3; subst q
          exact SC.region (sm rfl (s1 (bi rfl rfl q_i64_add) (sa rfl (SO.nil (lf (wq rfl))))))
        ·have q := si h3; subst q; have q : _ = _ := hv3; subst q; have q := si h1; subst q
         exact SC.exit (lf (wq rfl))
       ·intro _ h0
        refine sq (SC.seqP h0 (fun y => ⟨mk 150 [(1, .ref 0 0 0), (113, .d (eB y))], [.box (.d (eApiTable p0))]⟩) ?_ ?_)
        ·intro u1_1077 h1
         obtain ⟨r1079, hq1078, h1⟩ := ob h1
         refine SC.draws (by kernel_rfl) (t1 ([], false) (far (k := 1) rfl fo26_1 ts22 rfl) rfl (t1 ([0], false) (lod rfl (ld_box ts22 ta22 rfl rfl)) rfl (tc0 (ref17_RowMax_ok p0.Cols _ hq1078) wf rfl rfl rfl cb25 rfl (fun _ => rfl) (fun _ => rfl) (t1 ([], false) (bi rfl rfl q_i64_gtr) rfl (t1 ([], false) (mv rfl) rfl (tp h1 (fun h1 => ?_) (fun h1 => ?_)))))))
         ·have q := si h1; subst q
          refine jw rfl (jw rfl (jw rfl (jw rfl (jw rfl (jw rfl (jw rfl (t1 ([], false) (pkt rfl rfl) rfl (t1 ([], false) (mv rfl) rfl (jw rfl ?_)))))))))
          refine jw rfl (jw rfl (jw rfl (t1 ([], false) (pkt rfl rfl) rfl (ST.nil (And.intro (by decide +kernel) ?_)))))
          exact (wq rfl)
         ·obtain ⟨r1081, hq1080, h1⟩ := ob h1; obtain ⟨r1083, hq1082, h1⟩ := ob h1
          refine u1 ([], false) (ww rfl) (far (k := 1) rfl fo26_1 ts22 rfl) rfl (u1 ([0], false) (ww rfl) (lod rfl (ld_box ts22 ta22 rfl rfl)) rfl (u1 ([], false) (ww rfl) (far (k := 2) rfl fo26_2 ts23 rfl) rfl (u1 ([0], false) (ww rfl) (lod rfl (ld_box ts23 ta23 rfl rfl)) rfl (tc0 (ref17_Up_ok p0.Primary _ hq1080) (ww rfl) rfl rfl rfl cb27 rfl (fun _ => rfl) (fun _ => rfl) (tc0 (ref17_KeyMax_ok p0.Cols r1081 _ hq1082) (ww rfl) rfl rfl rfl cb26 rfl (fun _ => rfl) (fun _ => rfl) (u1 ([], false) (ww rfl) (bi rfl rfl q_i64_gtr) rfl (t1 ([], false) (pkf rfl rfl) rfl (t1 ([], false) (mv rfl) rfl (tp h1 (fun h1 => ?_) (fun h1 => ?_))))))))))
          ·have q := si h1; subst q
           refine jw rfl (jw rfl (jw rfl (jw rfl (t1 ([], false) (pkt rfl rfl) rfl (ST.nil (And.intro (by decide +kernel) ?_))))))
           exact (wq rfl)
          ·have q := si h1; subst q
           refine u1 ([], false) (ww rfl) (far (k := 3) rfl fo26_3 ts24 rfl) rfl (u1 ([0], false) (ww rfl) (lod rfl (ld_box ts24 ta24 rfl rfl)) rfl (u1 ([], false) (ww rfl) (len rfl rfl rfl (len_lst un24)) rfl (u1 ([], false) (ww rfl) (bi rfl rfl q_i64_gtr) rfl (t1 ([], false) (pkf rfl rfl) rfl (ST.nil (And.intro (by decide +kernel) ?_))))))
           exact (wq rfl)
        ·rintro y1076 h0
         refine cB h0 rfl (fun h0 => ?_) (fun h0 => ?_)
         ·have q := si h0; subst q
          exact sr (sa rfl (sn (SC.ret (finR (wc (e' := [(2, .d (eI (7 : Int)))]) [] [] (by kernel_rfl) rfl (by kernel_rfl)) (lresT rfl lresN) rfl))))
         ·refine sk (SC.seqB h0 (fun y => ⟨mk 150 [], []⟩) ?_ ?_)
          ·intro u1_1204 h1 h0
           obtain ⟨u2_1278, h2, h1⟩ := ob h1
           refine sr (sa rfl (sn (SC.blk (SC.loopB h2 (fun y => ⟨mk 150 [(1, .ref 0 0 0), (7, .d (eI y))], [.box (.d (eApiTable p0))]⟩) (wq rfl) ?_))))
           intro n1324
           rintro y1230 w2_1277 h3 hv3
           refine sq (sr (sm rfl (s1 (far (k := 3) rfl fo26_3 ts24 rfl) (s1 (lod rfl (ld_box ts24 ta24 rfl rfl)) (s1 (len rfl rfl rfl (len_lst un24)) (s1 (bi rfl rfl q_i64_lss) (sn (cB h3 rfl (fun h3 => ?_) (fun h3 => ?_)))))))))
           ·refine sk (SC.seqB h3 (fun y => ⟨mk 150 [(1, .ref 0 0 0), (7, .d (eI y1230))], [.box (.d (eApiTable p0))]⟩) ?_ ?_)
            ·intro u4_1301 h4 h3
             obtain ⟨v1302, hv1302, h4⟩ := ob h4; obtain ⟨r1304, hq1303, h4⟩ := ob h4
             refine SC.blk (sr (s1 (far (k := 3) rfl fo26_3 ts24 rfl) (s1 (lod rfl (ld_box ts24 ta24 rfl rfl)) (sm rfl (s1 (ial rfl rfl un24 ts82 (getI_some hv1302).1 (map_get (getI_some hv1302).2) rfl) (s1 (lod (v := .d (eApiIndex v1302)) rfl (ld_rop ts82 ta82 rfl)) (s1 (alo (k := 1) zo82 rfl) (s0 (sto rfl rfl (sB (d' := .d (eApiIndex v1302)) ts82 rfl rfl rfl rfl rfl rfl rfl)) (sn ?_)))))))))
             refine sq (sr (s1 (far (k := 0) rfl fo82_0 ts9 rfl) (s1 (lod rfl (ld_box ts9 ta9 rfl rfl)) (c0 (ref06_Name_ok v1302.Name _ hq1303) wf rfl rfl rfl cb22 rfl (fun _ => rfl) (fun _ => rfl) (s1 (nt rfl) (sn (cB h4 rfl (fun h4 => ?_) (fun h4 => ?_))))))))
             ·have q := si h4; subst q; have q := si h3; subst q; have q : _ = _ := hv3; subst q; have q := si h1; subst q; have q := si h0; subst q
              exact sr (sa rfl (sn (SC.ret (finR (wc (e' := [(2, .d (eI (1 : Int)))]) [] [] (by kernel_rfl) rfl (by kernel_rfl)) (lresT rfl lresN) rfl))))
             ·refine sk (SC.seqB h4 (fun y => ⟨mk 150 [(1, .ref 0 0 0), (7, .d (eI y1230)), (8, .ref 1 0 0)], [.box (.d (eApiTable p0)), .box (.d (eApiIndex v1302))]⟩) ?_ ?_)
              ·intro u5_1313 h5 h4
               obtain ⟨u6_1319, h6, h5⟩ := ob h5
               refine sr (sa rfl (sn (SC.blk (SC.loopB h6 (fun y => ⟨mk 150 [(1, .ref 0 0 0), (7, .d (eI y1230)), (8, .ref 1 0 0), (9, .d (eI y))], [.box (.d (eApiTable p0)), .box (.d (eApiIndex v1302))]⟩) (wq rfl) ?_))))
               intro n1321
               rintro y1315 w6_1318 h7 hv7
               refine sq (sr (sm rfl (sm rfl (s1 (bi rfl rfl q_i64_lss) (sn (cB h7 rfl (fun h7 => ?_) (fun h7 => ?_)))))))
               ·obtain ⟨v1320, hv1320, h7⟩ := ob h7
                refine sk (sq (SC.blk (sd (by kernel_rfl) (t1 ([], false) (far (k := 3) rfl fo26_3 ts24 rfl) rfl (t1 ([0], false) (lod rfl (ld_box ts24 ta24 rfl rfl)) rfl (t1 ([], false) (mv rfl) rfl (t1 ([], false) (ial rfl rfl un24 ts82 (getI_some hv1320).1 (map_get (getI_some hv1320).2) rfl) rfl (t1 ([], false) (fap rfl fo82_0 ts9 rfl) rfl (t1 ([], false) (lod rfl (ld_rop ts9 ta9 rfl)) rfl ?_)))))))))
                refine t1 ([], false) (far (k := 0) rfl fo82_0 ts9 rfl) rfl (t1 ([1], false) (lod rfl (ld_box ts9 ta9 rfl rfl)) rfl (t1 ([], false) (bi rfl rfl q_str_eql) rfl (tn (by decide +kernel) (cB h7 rfl (fun h7 => ?_) (fun h7 => ?_)))))
                ·have q := si h7; subst q; have q : _ = _ := hv7; subst q; have q := si h5; subst q; have q := si h4; subst q; have q := si h3; subst q; have q : _ = _ := hv3; subst q; have q := si h1; subst q; have q := si h0; subst q
                 exact sr (sa rfl (sn (SC.ret (finR (wc (e' := [(2, .d (eI (6 : Int)))]) [] [] (by kernel_rfl) rfl (by kernel_rfl)) (lresT rfl lresN) rfl))))
                ·refine SC.skip ?_
                 change SC _ _ _ _ _
                 have q := si h7; subst q
                 exact SC.region (sm rfl (s1 (bi rfl rfl q_i64_add) (sa rfl (SO.nil (lf (wq rfl))))))
               ·have q := si h7; subst q; have q : _ = _ := hv7; subst q; have q := si h5; subst q
                exact SC.exit (lf (wq rfl))
              ·intro _ h4
               obtain ⟨r1323, hq1322, h4⟩ := ob h4
               refine sr (s1 (lod (v := .d (eApiTable p0)) rfl (ld_box ts26 ta26 rfl rfl)) (s1 (lod (v := .d (eApiIndex v1302)) rfl (ld_box ts82 ta82 rfl rfl)) (c0 (ref17_index_ok p0 v1302 _ hq1322) wf rfl rfl rfl cb28 rfl (fun _ => rfl) (fun _ => rfl) (sa rfl (sn (sr (sm rfl (s1 (bi rfl rfl q_i64_neq) (sn ?_)))))))))
               refine cB h4 rfl (fun h4 => ?_) (fun h4 => ?_)
               ·have q := si h4; subst q; have q := si h3; subst q; have q : _ = _ := hv3; subst q; have q := si h1; subst q; have q := si h0; subst q
                exact sr (sm rfl (sa rfl (sn (SC.ret (finR (wc (e' := [(2, .d (eI r1323))]) [] [] (by kernel_rfl) rfl (by kernel_rfl)) (lresT rfl lresN) rfl)))))
               ·have q := si h4; subst q
                exact SC.skip (lf (wc [0] [0] (by kernel_rfl) rfl (by kernel_rfl)))
            ·intro _ h3
             have q := si h3; subst q
             exact SC.region (sm rfl (s1 (bi rfl rfl q_i64_add) (sa rfl (SO.nil (lf (wq rfl))))))
           ·have q := si h3; subst q; have q : _ = _ := hv3; subst q; have q := si h1; subst q
            exact SC.exit (lf (wc [] [] (by kernel_rfl) rfl (by kernel_rfl)))
          ·intro _ h0
           have q := si h0; subst q
           exact sr (sa rfl (sn (SC.ret (finR (Wk.refl _) (lresT rfl lresN) rfl))))
noncomputable def ref17_Copy (p0 : ApiTable) : Option ((List ApiIndex)) :=
 bif decide ((([] : List ApiColumn).length + p0.Cols.length) * 72 ≤ room) then
 bif decide ((([] : List Int).length + p0.Primary.length) * 8 ≤ room) then
 Option.bind (α := (List ApiIndex))
 (Option.bind (α := (List ApiIndex))
 (loop (Y := (List ApiIndex) × Int) (W := (List ApiIndex)) (fun (y113, y114) =>
 bif (decide (y114 < (p0.Indexes.length : Int))) then
 Option.bind (getI p0.Indexes y114) fun v123 =>
 bif decide ((([] : List ApiPart).length + v123.Parts.length) * 16 ≤ room) then
 bif decide ((([] : List Int).length + v123.Extra.length) * 8 ≤ room) then
 bif decide ((y113.length + [(ApiIndex.mk v123.Name (([] : List ApiPart) ++ v123.Parts) (([] : List Int) ++ v123.Extra) v123.Unique v123.Ready v123.Tree)].length) * 80 ≤ room) then
 some (Sum.inl ((y113 ++ [(ApiIndex.mk v123.Name (([] : List ApiPart) ++ v123.Parts) (([] : List Int) ++ v123.Extra) v123.Unique v123.Ready v123.Tree)]), (w64 (y114 + (1 : Int)))))
 else none
 else none
 else none
 else
 some (Sum.inr y113)) (([] : List ApiIndex), (0 : Int)))
 (fun e => some e))
 fun y107 =>
 some y107
 else none
 else none
theorem ref17_Copy_ok (p0 : ApiTable) (r : (List ApiIndex)) (h0 : ref17_Copy p0 = some r) : CallAt Tryz.prog 9 [.d (eApiTable p0)] [] (.agg [.d (eS p0.Name), .slc 1 7 0 ((([] : List ApiColumn) ++ p0.Cols).length) none, .slc 2 1 0 ((([] : List Int) ++ p0.Primary).length) none, .slc 3 6 0 r.length none, .d (eI p0.Tree)]) [.box (.agg [.d (eS p0.Name), .slc 1 7 0 ((([] : List ApiColumn) ++ p0.Cols).length) none, .slc 2 1 0 ((([] : List Int) ++ p0.Primary).length) none, .slc 3 6 0 r.length none, .d (eI p0.Tree)]), .row 7 (List.map eApiColumn (([] : List ApiColumn) ++ p0.Cols)) true, .row 1 (List.map eI (([] : List Int) ++ p0.Primary)) true, .row 6 (List.map eApiIndex r) true] := by
 unfold ref17_Copy at h0
 refine fn0 [0] Tryz.func9 rfl rfl rfl rfl rfl ?_
 obtain ⟨hg86, h0⟩ := gd h0; obtain ⟨hg87, h0⟩ := gd h0
 refine sr (s1 (bxo (k := 0) rfl rfl rfl) (s1 (alo (k := 1) zo26 rfl) (sn (sr (s1 (bsn (k := 2) (ds := List.map eApiColumn ([] : List ApiColumn)) (off := 0) (l' := ([] : List ApiColumn).length) rfl un22 ei77 rfl rfl rfl rfl rfl rfl) (s1 (far (k := 1) rfl fo26_1 ts22 rfl) (s1 (lod rfl (ld_box ts22 ta22 rfl rfl)) (s1 (app rfl rfl rfl rfl bc22 (aF (f := eApiColumn) (xs := ([] : List ApiColumn)) (k := 3) rfl un22 ei77 rfl el_lst hg86 rfl)) (s1 (far (k := 1) rfl fo26_1 ts22 rfl) ?_)))))))))
 refine s0 (sto rfl rfl (sB (d' := .agg [.d (eS p0.Name), .slc 3 7 0 ((([] : List ApiColumn) ++ p0.Cols).length) none, .d ((eL 1 eI) p0.Primary), .d ((eL 6 eApiIndex) p0.Indexes), .d (eI p0.Tree)]) ts22 rfl rfl rfl rfl rfl rfl rfl)) (sn (sr (s1 (bsn (k := 4) (ds := List.map eI ([] : List Int)) (off := 0) (l' := ([] : List Int).length) rfl un23 ei3 rfl rfl rfl rfl rfl rfl) (s1 (far (k := 2) rfl fo26_2 ts23 rfl) (s1 (lod rfl (ld_box ts23 ta23 rfl rfl)) (s1 (app rfl rfl rfl rfl bc23 (aF (f := eI) (xs := ([] : List Int)) (k := 5) rfl un23 ei3 rfl el_lst hg87 rfl)) (s1 (far (k := 2) rfl fo26_2 ts23 rfl) (s0 (sto rfl rfl (sB (d' := .agg [.d (eS p0.Name), .slc 3 7 0 ((([] : List ApiColumn) ++ p0.Cols).length) none, .slc 5 1 0 ((([] : List Int) ++ p0.Primary).length) none, .d ((eL 6 eApiIndex) p0.Indexes), .d (eI p0.Tree)]) ts23 rfl rfl rfl rfl rfl rfl rfl)) (sn ?_)))))))))
 refine sr (s1 (asg (v := .d .nils) rfl) (sn (SC.seqP h0 (fun y => ⟨mk 45 [(1, .ref 0 0 0), (2, .ref 1 0 0), (3, .slc 2 6 0 y.length none)], [.box (.agg [.d (eS p0.Name), .slc 3 7 0 ((([] : List ApiColumn) ++ p0.Cols).length) none, .slc 4 1 0 ((([] : List Int) ++ p0.Primary).length) none, .d ((eL 6 eApiIndex) p0.Indexes), .d (eI p0.Tree)]), .box (.d (.agg [(eS ([] : List UInt8)), .nils, .nils, .nils, (eI (0 : Int))])), .row 6 (List.map eApiIndex y) true, .row 7 (List.map eApiColumn (([] : List ApiColumn) ++ p0.Cols)) true, .row 1 (List.map eI (([] : List Int) ++ p0.Primary)) true]⟩) ?_ ?_)))
 ·intro u1_108 h1
  obtain ⟨u2_122, h2, h1⟩ := ob h1
  refine sr (sa rfl (sn (SC.blk (SC.loopB h2 (fun y => ⟨mk 45 [(1, .ref 0 0 0), (2, .ref 1 0 0), (3, .slc 2 6 0 y.1.length none), (4, .d (eI y.2))], [.box (.agg [.d (eS p0.Name), .slc 3 7 0 ((([] : List ApiColumn) ++ p0.Cols).length) none, .slc 4 1 0 ((([] : List Int) ++ p0.Primary).length) none, .d ((eL 6 eApiIndex) p0.Indexes), .d (eI p0.Tree)]), .box (.d (.agg [(eS ([] : List UInt8)), .nils, .nils, .nils, (eI (0 : Int))])), .row 6 (List.map eApiIndex y.1) true, .row 7 (List.map eApiColumn (([] : List ApiColumn) ++ p0.Cols)) true, .row 1 (List.map eI (([] : List Int) ++ p0.Primary)) true]⟩) (Wk.trans (Wk.pushE (σ' := [.box (.agg [.d (eS p0.Name), .slc 3 7 0 ((([] : List ApiColumn) ++ p0.Cols).length) none, .slc 5 1 0 ((([] : List Int) ++ p0.Primary).length) none, .d ((eL 6 eApiIndex) p0.Indexes), .d (eI p0.Tree)]), .box (.d (.agg [(eS ([] : List UInt8)), .nils, .nils, .nils, (eI (0 : Int))])), .dead, .row 7 (List.map eApiColumn (([] : List ApiColumn) ++ p0.Cols)) true, .dead, .row 1 (List.map eI (([] : List Int) ++ p0.Primary)) true, .row 6 (List.map eApiIndex ([] : List ApiIndex)) true]) (.row 6 [] true) (fun _ hh => by cases hh) rfl) (Wk.trans (Wk.env (e' := [(1, .ref 0 0 0), (2, .ref 1 0 0), (3, .slc 6 6 0 (([] : List ApiIndex).length) none), (4, .d (eI (0 : Int)))]) (EW.cons (AW.refl _) (EW.cons (AW.refl _) (EW.cons (AW.slcn _ _ _) (EW.cons (AW.refl _) EW.nil))))) (wc [0, 1, 6, 3, 5] [0, 1, 6] (by kernel_rfl) rfl (by kernel_rfl)))) ?_))))
  intro n127
  rintro ⟨y113, y114⟩ w2_121 h3 hv3
  refine sq (sr (sm rfl (s1 (far (k := 3) rfl fo26_3 ts24 rfl) (s1 (lod rfl (ld_box ts24 ta24 rfl rfl)) (s1 (len rfl rfl rfl (len_lst un24)) (s1 (bi rfl rfl q_i64_lss) (sn (cB h3 rfl (fun h3 => ?_) (fun h3 => ?_)))))))))
  ·obtain ⟨v123, hv123, h3⟩ := ob h3; obtain ⟨hg124, h3⟩ := gd h3; obtain ⟨hg125, h3⟩ := gd h3; obtain ⟨hg126, h3⟩ := gd h3
   refine sk (sq (SC.blk (sr (s1 (far (k := 3) rfl fo26_3 ts24 rfl) (s1 (lod rfl (ld_box ts24 ta24 rfl rfl)) (sm rfl (s1 (ial rfl rfl un24 ts82 (getI_some hv123).1 (map_get (getI_some hv123).2) rfl) (s1 (lod (v := .d (eApiIndex v123)) rfl (ld_rop ts82 ta82 rfl)) (s1 (alo (k := 5) zo82 rfl) ?_)))))))))
   refine s0 (sto rfl rfl (sB (d' := .d (eApiIndex v123)) ts82 rfl rfl rfl rfl rfl rfl rfl)) (sn (sr (s1 (bsn (k := 6) (ds := List.map eApiPart ([] : List ApiPart)) (off := 0) (l' := ([] : List ApiPart).length) rfl un80 ei79 rfl rfl rfl rfl rfl rfl) (s1 (far (k := 1) rfl fo82_1 ts80 rfl) (s1 (lod rfl (ld_box ts80 ta80 rfl rfl)) (s1 (app rfl rfl rfl rfl bc80 (aF (f := eApiPart) (xs := ([] : List ApiPart)) (k := 7) rfl un80 ei79 rfl el_lst hg124 rfl)) (s1 (far (k := 1) rfl fo82_1 ts80 rfl) (s0 (sto rfl rfl (sB (d' := .agg [.d (eS v123.Name), .slc 7 2 0 ((([] : List ApiPart) ++ v123.Parts).length) none, .d ((eL 1 eI) v123.Extra), .d (eB v123.Unique), .d (eB v123.Ready), .d (eI v123.Tree)]) ts80 rfl rfl rfl rfl rfl rfl rfl)) (sn ?_)))))))))
   refine sr (s1 (bsn (k := 8) (ds := List.map eI ([] : List Int)) (off := 0) (l' := ([] : List Int).length) rfl un23 ei3 rfl rfl rfl rfl rfl rfl) (s1 (far (k := 2) rfl fo82_2 ts23 rfl) (s1 (lod rfl (ld_box ts23 ta23 rfl rfl)) (s1 (app rfl rfl rfl rfl bc23 (aF (f := eI) (xs := ([] : List Int)) (k := 9) rfl un23 ei3 rfl el_lst hg125 rfl)) (s1 (far (k := 2) rfl fo82_2 ts23 rfl) (s0 (sto rfl rfl (sB (d' := .agg [.d (eS v123.Name), .slc 7 2 0 ((([] : List ApiPart) ++ v123.Parts).length) none, .slc 9 1 0 ((([] : List Int) ++ v123.Extra).length) none, .d (eB v123.Unique), .d (eB v123.Ready), .d (eI v123.Tree)]) ts23 rfl rfl rfl rfl rfl rfl rfl)) (sn (SC.region (sm rfl ?_)))))))))
   refine s1 (lod (v := .agg [.d (eS v123.Name), .slc 7 2 0 ((([] : List ApiPart) ++ v123.Parts).length) none, .slc 9 1 0 ((([] : List Int) ++ v123.Extra).length) none, .d (eB v123.Unique), .d (eB v123.Ready), .d (eI v123.Tree)]) rfl (ld_box ts82 ta82 rfl rfl)) (SO.wk (Wk.frzs (i := 39) (x := .agg [.d (eS v123.Name), .slc 7 2 0 ((([] : List ApiPart) ++ v123.Parts).length) none, .slc 9 1 0 ((([] : List Int) ++ v123.Extra).length) none, .d (eB v123.Unique), .d (eB v123.Ready), .d (eI v123.Tree)]) rfl rfl rfl (frzs_d rfl (frzs_slc (fF rfl rfl rfl) (frzs_slc (fF rfl rfl rfl) (frzs_d rfl (frzs_d rfl (frzs_d rfl frzs_nil))))))) (s1 (bsn (k := 10) (ds := List.map eApiIndex [(ApiIndex.mk v123.Name (([] : List ApiPart) ++ v123.Parts) (([] : List Int) ++ v123.Extra) v123.Unique v123.Ready v123.Tree)]) (off := 0) (l' := [(ApiIndex.mk v123.Name (([] : List ApiPart) ++ v123.Parts) (([] : List Int) ++ v123.Extra) v123.Unique v123.Ready v123.Tree)].length) rfl un24 ei82 rfl rfl (by rfl) rfl rfl rfl) (s1 (app rfl rfl rfl rfl bc24 (aF (f := eApiIndex) (xs := y113) (k := 11) rfl un24 ei82 rfl (el_full (xs := [(ApiIndex.mk v123.Name (([] : List ApiPart) ++ v123.Parts) (([] : List Int) ++ v123.Extra) v123.Unique v123.Ready v123.Tree)]) rfl) hg126 rfl)) (sa rfl (SO.nil ?_)))))
   change SC _ _ _ _ _
   have q := si h3; subst q
   exact SC.region (sm rfl (s1 (bi rfl rfl q_i64_add) (sa rfl (SO.nil (lf (wc [0, 1, 11, 3, 4] [0, 1, 11] (by kernel_rfl) rfl (by kernel_rfl)))))))
  ·have q := si h3; subst q; have q : _ = _ := hv3; subst q; have q := si h1; subst q
   exact SC.exit ((wq rfl))
 ·rintro y107 h0
  have q := si h0; subst q
  refine sr (sm rfl (s1 (far (k := 3) rfl fo26_3 ts24 rfl) (s0 (sto rfl rfl (sB (d' := .agg [.d (eS p0.Name), .slc 3 7 0 ((([] : List ApiColumn) ++ p0.Cols).length) none, .slc 4 1 0 ((([] : List Int) ++ p0.Primary).length) none, .slc 2 6 0 y107.length none, .d (eI p0.Tree)]) ts24 rfl rfl rfl rfl rfl rfl rfl)) (sn (sr (s1 (lod (v := .agg [.d (eS p0.Name), .slc 3 7 0 ((([] : List ApiColumn) ++ p0.Cols).length) none, .slc 4 1 0 ((([] : List Int) ++ p0.Primary).length) none, .slc 2 6 0 y107.length none, .d (eI p0.Tree)]) rfl (ld_box ts26 ta26 rfl rfl)) (s0 (sto rfl rfl (sB (d' := .agg [.d (eS p0.Name), .slc 3 7 0 ((([] : List ApiColumn) ++ p0.Cols).length) none, .slc 4 1 0 ((([] : List Int) ++ p0.Primary).length) none, .slc 2 6 0 y107.length none, .d (eI p0.Tree)]) ts26 rfl rfl rfl rfl rfl rfl rfl)) (sn (SC.ret ?_)))))))))
  exact finR (wc (e' := [(2, .ref 0 0 0)]) [1, 3, 4, 2] [1] (by kernel_rfl) rfl (by kernel_rfl)) (lresC rfl (ld_box ts26 ta26 rfl rfl) lresN) rfl
theorem ref17_Copy_ok_f (p0 : ApiTable) (r : (List ApiIndex)) (h0 : ref17_Copy p0 = some r) : CallAt Tryz.prog 9 [.d (eApiTable p0)] [] (.d (eApiTable (ApiTable.mk p0.Name (([] : List ApiColumn) ++ p0.Cols) (([] : List Int) ++ p0.Primary) r p0.Tree))) [.box (.agg [.d (eS p0.Name), .slc 1 7 0 ((([] : List ApiColumn) ++ p0.Cols).length) none, .slc 2 1 0 ((([] : List Int) ++ p0.Primary).length) none, .slc 3 6 0 r.length none, .d (eI p0.Tree)]), .row 7 (List.map eApiColumn (([] : List ApiColumn) ++ p0.Cols)) false, .row 1 (List.map eI (([] : List Int) ++ p0.Primary)) false, .row 6 (List.map eApiIndex r) false] :=
 CallAt.frzA (ref17_Copy_ok p0 r h0) (frzs_d rfl (frzs_slc (frz_full rfl rfl) (frzs_slc (frz_full rfl rfl) (frzs_slc (frz_full rfl rfl) (frzs_d rfl frzs_nil)))))
noncomputable def law19_built (p0 : List FanBuilt) : Option ((List Granaryref19Built)) :=
 Option.bind (α := (List Granaryref19Built))
 (Option.bind (α := (List Granaryref19Built))
 (loop (Y := (List Granaryref19Built) × Int) (W := (List Granaryref19Built)) (fun (y91, y92) =>
 bif (decide (y92 < (p0.length : Int))) then
 Option.bind (getI p0 y92) fun v100 =>
 Option.bind (getI p0 y92) fun v101 =>
 bif decide ((y91.length + [(Granaryref19Built.mk v100.Key v101.Any)].length) * 24 ≤ room) then
 some (Sum.inl ((y91 ++ [(Granaryref19Built.mk v100.Key v101.Any)]), (w64 (y92 + (1 : Int)))))
 else none
 else
 some (Sum.inr y91)) (([] : List Granaryref19Built), (0 : Int)))
 (fun e => some e))
 fun y86 =>
 some y86
theorem law19_built_ok (p0 : List FanBuilt) (r : (List Granaryref19Built)) (h0 : law19_built p0 = some r) : CallAt Tryz.prog 12 [.d ((eL 2 eFanBuilt) p0)] [] (.d ((eL 2 eGranaryref19Built) r)) [] := by
 unfold law19_built at h0
 refine fn0 [0] Tryz.func12 rfl rfl rfl rfl rfl ?_
 refine sr (s1 (asg (v := .d .nils) rfl) (sn (sr (s1 (asg (v := .d .nils) rfl) (sn (SC.seqP h0 (fun y => ⟨mk 26 [(3, .slc 0 2 0 y.length none)], [.row 2 (List.map eGranaryref19Built y) true]⟩) ?_ ?_))))))
 ·intro u1_87 h1
  obtain ⟨u2_99, h2, h1⟩ := ob h1
  refine sr (sa rfl (sn (SC.blk (SC.loopB h2 (fun y => ⟨mk 26 [(0, .d ((eL 2 eFanBuilt) p0)), (3, .slc 0 2 0 y.1.length none), (4, .d (eI y.2))], [.row 2 (List.map eGranaryref19Built y.1) true]⟩) (Wk.trans (Wk.pushE (σ' := [.row 2 (List.map eGranaryref19Built ([] : List Granaryref19Built)) true]) (.row 2 [] true) (fun _ hh => by cases hh) rfl) (Wk.trans (Wk.env (e' := [(0, .d ((eL 2 eFanBuilt) p0)), (3, .slc 0 2 0 (([] : List Granaryref19Built).length) none), (4, .d (eI (0 : Int)))]) (EW.cons (AW.refl _) (EW.cons (AW.slcn _ _ _) (EW.cons (AW.refl _) EW.nil)))) (wq rfl))) ?_))))
  intro n103
  rintro ⟨y91, y92⟩ w2_98 h3 hv3
  refine sq (sr (sm rfl (sm rfl (s1 (len rfl rfl rfl (len_lst un27)) (s1 (bi rfl rfl q_i64_lss) (sn (cB h3 rfl (fun h3 => ?_) (fun h3 => ?_))))))))
  ·obtain ⟨v100, hv100, h3⟩ := ob h3; obtain ⟨v101, hv101, h3⟩ := ob h3; obtain ⟨hg102, h3⟩ := gd h3
   refine sk (sq (SC.blk (SC.draws (by kernel_rfl) (t1 ([], false) (mv rfl) rfl (t1 ([], false) (mv rfl) rfl (t1 ([], false) (mv rfl) rfl (t1 ([], false) (ial rfl rfl un27 ts99 (getI_some hv100).1 (map_get (getI_some hv100).2) rfl) rfl (t1 ([], false) (fap rfl fo99_0 ts9 rfl) rfl (t1 ([], false) (lod rfl (ld_rop ts9 ta9 rfl)) rfl ?_)))))))))
   refine t1 ([], false) (mv rfl) rfl (t1 ([], false) (mv rfl) rfl (t1 ([], false) (ial rfl rfl un27 ts99 (getI_some hv101).1 (map_get (getI_some hv101).2) rfl) rfl (t1 ([], false) (fap rfl fo99_1 ts4 rfl) rfl (t1 ([], false) (lod rfl (ld_rop ts4 ta4 rfl)) rfl (t1 ([], false) (bld rfl (bd105_0_1 v100.Key v101.Any)) rfl (t1 ([1], true) (bsn (k := 1) (ds := List.map eGranaryref19Built [(Granaryref19Built.mk v100.Key v101.Any)]) (off := 0) (l' := [(Granaryref19Built.mk v100.Key v101.Any)].length) rfl un49 ei105 rfl rfl (by rfl) rfl rfl rfl) rfl (t1 ([0, 1, 2], true) (app rfl rfl rfl rfl bc49 (aF (f := eGranaryref19Built) (xs := y91) (k := 2) rfl un49 ei105 rfl (el_full (xs := [(Granaryref19Built.mk v100.Key v101.Any)]) rfl) hg102 rfl)) rfl (t1 ([], false) (asg rfl) rfl (ST.nil (And.intro (by decide +kernel) ?_))))))))))
   change SC _ _ _ _ _
   have q := si h3; subst q
   exact SC.region (sm rfl (s1 (bi rfl rfl q_i64_add) (sa rfl (SO.nil (lf (wc [2] [2] (by kernel_rfl) rfl (by kernel_rfl)))))))
  ·have q := si h3; subst q; have q : _ = _ := hv3; subst q; have q := si h1; subst q
   exact SC.exit ((wq rfl))
 ·rintro y86 h0
  have q := si h0; subst q
  exact sr (sm rfl (sa rfl (sn (SC.ret (finR (Wk.trans (Wk.frz (i := 2) (x := .slc 0 2 0 y86.length none) rfl rfl (fF rfl rfl rfl)) (wc (e' := [(2, .d ((eL 2 eGranaryref19Built) y86))]) [] [] (by kernel_rfl) rfl (by kernel_rfl))) (lresT rfl lresN) rfl)))))
noncomputable def ref08_Columns (p0 : List ApiColumn) : Option Bool :=
 Option.bind (α := Bool)
 (bif (decide ((p0.length : Int) < (1 : Int))) then
 some true
 else
 some (decide ((p0.length : Int) > (24 : Int))))
 fun y64 =>
 bif y64 then
 some false
 else
 bindE (Y := Unit) (E := Bool)
 (Option.bind (α := Unit ⊕ Bool)
 (loop (Y := Int) (W := Unit ⊕ Bool) (fun y84 =>
 bif (decide (y84 < (p0.length : Int))) then
 Option.bind (getI p0 y84) fun v91 =>
 Option.bind (ref06_Column v91) fun r93 =>
 bif (r93 != (0 : Int)) then
 some (Sum.inr (Sum.inr false))
 else
 some (Sum.inl (w64 (y84 + (1 : Int))))
 else
 some (Sum.inr (Sum.inl ()))) (0 : Int))
 (Sum.elim (fun e => some (Sum.inl e)) (fun e => some (Sum.inr e))))
 (fun _ =>
 some true)
 (fun e => some e)
theorem ref08_Columns_ok (p0 : List ApiColumn) (r : Bool) (h0 : ref08_Columns p0 = some r) : CallAt Tryz.prog 72 [.d ((eL 7 eApiColumn) p0)] [] (.d (eB r)) [] := by
 unfold ref08_Columns at h0
 refine fn0 [0] Tryz.func72 rfl rfl rfl rfl rfl ?_
 refine sr (sa rfl (sn (sq (SC.seqP h0 (fun y => ⟨mk 24 [(0, .d ((eL 7 eApiColumn) p0)), (11, .d (eB y))], []⟩) ?_ ?_))))
 ·intro u1_65 h1
  refine SC.region (sm rfl (s1 (len rfl rfl rfl (len_lst un22)) (s1 (bi rfl rfl q_i64_lss) (sm rfl (sp h1 (fun h1 => ?_) (fun h1 => ?_))))))
  ·have q := si h1; subst q
   exact kw rfl (kw rfl (kw rfl (s1 (pkt rfl rfl) (SO.nil ((wq rfl))))))
  ·have q := si h1; subst q
   exact gw rfl (mv rfl) (gw rfl (len rfl rfl rfl (len_lst un22)) (gw rfl (bi rfl rfl q_i64_gtr) (s1 (pkf rfl rfl) (SO.nil ((wq rfl))))))
 ·rintro y64 h0
  refine cB h0 rfl (fun h0 => ?_) (fun h0 => ?_)
  ·have q := si h0; subst q
   exact sr (sa rfl (sn (SC.ret (finR (Wk.refl _) (lresT rfl lresN) rfl))))
  ·refine sk (SC.seqB h0 (fun y => ⟨mk 24 [], []⟩) ?_ ?_)
   ·intro u1_80 h1 h0
    obtain ⟨u2_90, h2, h1⟩ := ob h1
    refine sr (sa rfl (sn (SC.blk (SC.loopB h2 (fun y => ⟨mk 24 [(0, .d ((eL 7 eApiColumn) p0)), (3, .d (eI y))], []⟩) (wq rfl) ?_))))
    intro n94
    rintro y84 w2_89 h3 hv3
    refine sq (sr (sm rfl (sm rfl (s1 (len rfl rfl rfl (len_lst un22)) (s1 (bi rfl rfl q_i64_lss) (sn (cB h3 rfl (fun h3 => ?_) (fun h3 => ?_))))))))
    ·obtain ⟨v91, hv91, h3⟩ := ob h3; obtain ⟨r93, hq92, h3⟩ := ob h3
     refine sk (sq (SC.blk (sr (sm rfl (sm rfl (s1 (ial rfl rfl un22 ts77 (getI_some hv91).1 (map_get (getI_some hv91).2) rfl) (s1 (lod (v := .d (eApiColumn v91)) rfl (ld_rop ts77 ta77 rfl)) (c0 (ref06_Column_ok v91 _ hq92) wf rfl rfl rfl cb23 rfl (fun _ => rfl) (fun _ => rfl) (s1 (bi rfl rfl q_i64_neq) ?_)))))))))
     refine sn (cB h3 rfl (fun h3 => ?_) (fun h3 => ?_))
     ·have q := si h3; subst q; have q : _ = _ := hv3; subst q; have q := si h1; subst q; have q := si h0; subst q
      exact sr (sa rfl (sn (SC.ret (finR (Wk.refl _) (lresT rfl lresN) rfl))))
     ·refine SC.skip ?_
      change SC _ _ _ _ _
      have q := si h3; subst q
      exact SC.region (sm rfl (s1 (bi rfl rfl q_i64_add) (sa rfl (SO.nil (lf (wq rfl))))))
    ·have q := si h3; subst q; have q : _ = _ := hv3; subst q; have q := si h1; subst q
     exact SC.exit (lf (wq rfl))
   ·intro _ h0
    have q := si h0; subst q
    exact sr (sa rfl (sn (SC.ret (finR (Wk.refl _) (lresT rfl lresN) rfl))))
noncomputable def ref08_Fits (p0 : List ApiColumn) (p1 : List ApiValue) : Option Int :=
 Option.bind (α := Bool)
 (Option.bind (ref08_Columns p0) fun r89 =>
 bif (!r89) then
 some true
 else
 some ((p1.length : Int) != (p0.length : Int)))
 fun y86 =>
 bif y86 then
 some (1 : Int)
 else
 bindE (Y := Unit) (E := Int)
 (Option.bind (α := Unit ⊕ Int)
 (loop (Y := Int) (W := Unit ⊕ Int) (fun y112 =>
 bif (decide (y112 < (p1.length : Int))) then
 Option.bind (getI p0 y112) fun v120 =>
 Option.bind (getI p1 y112) fun v121 =>
 Option.bind (ref06_Fits v120 v121) fun r123 =>
 bif (r123 != (0 : Int)) then
 some (Sum.inr (Sum.inr r123))
 else
 some (Sum.inl (w64 (y112 + (1 : Int))))
 else
 some (Sum.inr (Sum.inl ()))) (0 : Int))
 (Sum.elim (fun e => some (Sum.inl e)) (fun e => some (Sum.inr e))))
 (fun _ =>
 some (0 : Int))
 (fun e => some e)
theorem ref08_Fits_ok (p0 : List ApiColumn) (p1 : List ApiValue) (r : Int) (h0 : ref08_Fits p0 p1 = some r) : CallAt Tryz.prog 36 [.d ((eL 7 eApiColumn) p0), .d ((eL 3 eApiValue) p1)] [] (.d (eI r)) [] := by
 unfold ref08_Fits at h0
 refine fn0 [0, 1] Tryz.func36 rfl rfl rfl rfl rfl ?_
 refine sr (sa rfl (sn (sq (SC.seqP h0 (fun y => ⟨mk 35 [(0, .d ((eL 7 eApiColumn) p0)), (1, .d ((eL 3 eApiValue) p1)), (16, .d (eB y))], []⟩) ?_ ?_))))
 ·intro u1_87 h1
  obtain ⟨r89, hq88, h1⟩ := ob h1
  refine SC.region (sm rfl (c0 (ref08_Columns_ok p0 _ hq88) wf rfl rfl rfl cb72 rfl (fun _ => rfl) (fun _ => rfl) (s1 (nt rfl) (sm rfl (sp h1 (fun h1 => ?_) (fun h1 => ?_))))))
  ·have q := si h1; subst q
   exact kw rfl (kw rfl (kw rfl (kw rfl (kw rfl (s1 (pkt rfl rfl) (SO.nil ((wq rfl))))))))
  ·have q := si h1; subst q
   exact gw rfl (mv rfl) (gw rfl (len rfl rfl rfl (len_lst un28)) (gw rfl (mv rfl) (gw rfl (len rfl rfl rfl (len_lst un22)) (gw rfl (bi rfl rfl q_i64_neq) (s1 (pkf rfl rfl) (SO.nil ((wq rfl))))))))
 ·rintro y86 h0
  refine cB h0 rfl (fun h0 => ?_) (fun h0 => ?_)
  ·have q := si h0; subst q
   exact sr (sa rfl (sn (SC.ret (finR (Wk.refl _) (lresT rfl lresN) rfl))))
  ·refine sk (SC.seqB h0 (fun y => ⟨mk 35 [], []⟩) ?_ ?_)
   ·intro u1_107 h1 h0
    obtain ⟨u2_119, h2, h1⟩ := ob h1
    refine sr (sa rfl (sn (SC.blk (SC.loopB h2 (fun y => ⟨mk 35 [(0, .d ((eL 7 eApiColumn) p0)), (1, .d ((eL 3 eApiValue) p1)), (5, .d (eI y))], []⟩) (wq rfl) ?_))))
    intro n124
    rintro y112 w2_118 h3 hv3
    refine sq (sr (sm rfl (sm rfl (s1 (len rfl rfl rfl (len_lst un28)) (s1 (bi rfl rfl q_i64_lss) (sn (cB h3 rfl (fun h3 => ?_) (fun h3 => ?_))))))))
    ·obtain ⟨v120, hv120, h3⟩ := ob h3; obtain ⟨v121, hv121, h3⟩ := ob h3; obtain ⟨r123, hq122, h3⟩ := ob h3
     refine sk (sq (SC.blk (sd (by kernel_rfl) (t1 ([], false) (mv rfl) rfl (t1 ([], false) (mv rfl) rfl (t1 ([], false) (ial rfl rfl un22 ts77 (getI_some hv120).1 (map_get (getI_some hv120).2) rfl) rfl (t1 ([], false) (lod (v := .d (eApiColumn v120)) rfl (ld_rop ts77 ta77 rfl)) rfl (t1 ([], false) (mv rfl) rfl (t1 ([], false) (mv rfl) rfl ?_)))))))))
     refine t1 ([], false) (ial rfl rfl un28 ts68 (getI_some hv121).1 (map_get (getI_some hv121).2) rfl) rfl (t1 ([], false) (lod (v := .d (eApiValue v121)) rfl (ld_rop ts68 ta68 rfl)) rfl (tc0 (ref06_Fits_ok v120 v121 _ hq122) wf rfl rfl rfl cb62 rfl (fun _ => rfl) (fun _ => rfl) (t1 ([], false) (asg rfl) rfl (tn (by decide +kernel) (sr (sm rfl (s1 (bi rfl rfl q_i64_neq) (sn (cB h3 rfl (fun h3 => ?_) (fun h3 => ?_))))))))))
     ·have q := si h3; subst q; have q : _ = _ := hv3; subst q; have q := si h1; subst q; have q := si h0; subst q
      exact sr (sm rfl (sa rfl (sn (SC.ret (finR (Wk.refl _) (lresT rfl lresN) rfl)))))
     ·refine SC.skip ?_
      change SC _ _ _ _ _
      have q := si h3; subst q
      exact SC.region (sm rfl (s1 (bi rfl rfl q_i64_add) (sa rfl (SO.nil (lf (wq rfl))))))
    ·have q := si h3; subst q; have q : _ = _ := hv3; subst q; have q := si h1; subst q
     exact SC.exit (lf (wq rfl))
   ·intro _ h0
    have q := si h0; subst q
    exact sr (sa rfl (sn (SC.ret (finR (Wk.refl _) (lresT rfl lresN) rfl))))
noncomputable def ref01_Out_Num (p0 : UInt64) (p1 : Int) : Option ((List UInt8)) :=
 Option.bind (α := (List UInt8))
 (loop (Y := Int × (List UInt8)) (W := (List UInt8)) (fun (y30, y31) =>
 bif (decide (y30 ≥ (0 : Int))) then
 bif decide (0 ≤ (w64 ((8 : Int) * y30))) then
 bif decide ((y31.length + [((shr64 p0 ((w64 ((8 : Int) * y30)).toNat)).toUInt8)].length) * 1 ≤ room) then
 some (Sum.inl ((w64 (y30 - (1 : Int))), (y31 ++ [((shr64 p0 ((w64 ((8 : Int) * y30)).toNat)).toUInt8)])))
 else none
 else none
 else
 some (Sum.inr y31)) ((w64 (p1 - (1 : Int))), ([] : List UInt8)))
 (fun e => some e)
theorem ref01_Out_Num_ok (p0 : UInt64) (p1 : Int) (r : (List UInt8)) (h0 : ref01_Out_Num p0 p1 = some r) : CallAt Tryz.prog 57 [.ref 0 0 0, .d (eU64 p0), .d (eI p1)] [.box (.d (.agg [.nils]))] (.tuple []) [.box (.agg [.slc 1 1 0 r.length none]), .row 1 (List.map eU8 r) true] := by
 unfold ref01_Out_Num at h0
 refine fn0 [0, 1, 2] Tryz.func57 rfl rfl rfl rfl rfl ?_
 obtain ⟨u1_37, h1, h0⟩ := ob h0
 refine sr (sm rfl (s1 (bi rfl rfl q_i64_sub) (sa rfl (sn (SC.blk (SC.loopB h1 (fun y => ⟨mk 27 [(0, .ref 0 0 0), (1, .d (eU64 p0)), (6, .d (eI y.1))], [.box (.agg [.slc 1 1 0 y.2.length none]), .row 1 (List.map eU8 y.2) true]⟩) (Wk.trans (Wk.pushE (σ' := [.box (.d (.agg [.nils])), .row 1 (List.map eU8 ([] : List UInt8)) true]) (.row 1 [] true) (fun _ hh => by cases hh) rfl) (Wk.trans (Wk.boxE (id := 0) (y := .agg [.slc 1 1 0 (([] : List UInt8).length) none]) (σ' := [.box (.agg [.slc 1 1 0 (([] : List UInt8).length) none]), .row 1 (List.map eU8 ([] : List UInt8)) true]) rfl (AWs.cons (AW.slcn _ _ _) AWs.nil) rfl) (wq rfl))) ?_))))))
 intro n40
 rintro ⟨y30, y31⟩ w1_36 h2 hv2
 refine sq (sr (sm rfl (s1 (bi rfl rfl q_i64_geq) (sn (cB h2 rfl (fun h2 => ?_) (fun h2 => ?_))))))
 ·obtain ⟨hg38, h2⟩ := gd h2; obtain ⟨hg39, h2⟩ := gd h2
  refine sk (sq (SC.blk (SC.draws (by kernel_rfl) (t1 ([], false) (mv rfl) rfl (t1 ([], false) (mv rfl) rfl (t1 ([], false) (nkr rfl) rfl (t1 ([], false) (far (k := 0) rfl fo127_0 ts125 rfl) rfl (t1 ([0], false) (lod rfl (ld_box ts125 ta125 rfl rfl)) rfl (t1 ([], false) (mv rfl) rfl ?_)))))))))
  refine t1 ([], false) (mv rfl) rfl (t1 ([], false) (bi rfl rfl q_i64_mul) rfl (t1 ([], false) (bi (v := .d (eU64 (shr64 p0 ((w64 ((8 : Int) * y30)).toNat)))) rfl rfl (fun X Y => b_u64_shr _ X Y p0 _ hg38)) rfl (t1 ([], false) (cvo rfl (cv_u64_u8 un54 un5 (shr64 p0 ((w64 ((8 : Int) * y30)).toNat)))) rfl (t1 ([2], true) (bsn (k := 2) (ds := List.map eU8 [((shr64 p0 ((w64 ((8 : Int) * y30)).toNat)).toUInt8)]) (off := 0) (l' := [((shr64 p0 ((w64 ((8 : Int) * y30)).toNat)).toUInt8)].length) rfl un125 ei5 rfl rfl (by rfl) rfl rfl rfl) rfl (t1 ([1, 2, 3], true) (app rfl rfl rfl rfl bc125 (aF (f := eU8) (xs := y31) (k := 3) rfl un125 ei5 rfl (el_full (xs := [((shr64 p0 ((w64 ((8 : Int) * y30)).toNat)).toUInt8)]) rfl) hg39 rfl)) rfl (t1 ([], false) (nkr rfl) rfl (t1 ([], false) (far (k := 0) rfl fo127_0 ts125 rfl) rfl (t0 ([0, 3], true) (sto rfl rfl (sB (d' := .agg [.slc 3 1 0 ((y31 ++ [((shr64 p0 ((w64 ((8 : Int) * y30)).toNat)).toUInt8)]).length) none]) ts125 rfl rfl rfl rfl rfl rfl rfl)) rfl (ST.nil (And.intro (by decide +kernel) ?_))))))))))
  change SC _ _ _ _ _
  have q := si h2; subst q
  exact SC.region (sm rfl (s1 (bi rfl rfl q_i64_sub) (sa rfl (SO.nil (lf (wc [0, 3] [0, 0] (by kernel_rfl) rfl (by kernel_rfl)))))))
 ·have q := si h2; subst q; have q : _ = _ := hv2; subst q; have q := si h0; subst q
  exact SC.exit (finN (Wk.refl _) lresN rfl)
noncomputable def ref01_Out_Num_1 (p0 : UInt64) (p1 : Int) (p2 : List UInt8) : Option ((List UInt8)) :=
 Option.bind (α := (List UInt8))
 (loop (Y := Int × (List UInt8)) (W := (List UInt8)) (fun (y30, y31) =>
 bif (decide (y30 ≥ (0 : Int))) then
 bif decide (0 ≤ (w64 ((8 : Int) * y30))) then
 bif decide ((y31.length + [((shr64 p0 ((w64 ((8 : Int) * y30)).toNat)).toUInt8)].length) * 1 ≤ room) then
 some (Sum.inl ((w64 (y30 - (1 : Int))), (y31 ++ [((shr64 p0 ((w64 ((8 : Int) * y30)).toNat)).toUInt8)])))
 else none
 else none
 else
 some (Sum.inr y31)) ((w64 (p1 - (1 : Int))), p2))
 (fun e => some e)
theorem ref01_Out_Num_1_ok (p0 : UInt64) (p1 : Int) (p2 : List UInt8) (r : (List UInt8)) (h0 : ref01_Out_Num_1 p0 p1 p2 = some r) : CallAt Tryz.prog 57 [.ref 0 0 0, .d (eU64 p0), .d (eI p1)] [.box (.agg [.slc 1 1 0 p2.length none]), .row 1 (List.map eU8 p2) true] (.tuple []) [.box (.agg [.slc 2 1 0 r.length none]), .dead, .row 1 (List.map eU8 r) true] := by
 unfold ref01_Out_Num_1 at h0
 refine fn0 [0, 1, 2] Tryz.func57 rfl rfl rfl rfl rfl ?_
 obtain ⟨u1_37, h1, h0⟩ := ob h0
 refine sr (sm rfl (s1 (bi rfl rfl q_i64_sub) (sa rfl (sn (SC.blk (SC.loopB h1 (fun y => ⟨mk 27 [(0, .ref 0 0 0), (1, .d (eU64 p0)), (6, .d (eI y.1))], [.box (.agg [.slc 2 1 0 y.2.length none]), .dead, .row 1 (List.map eU8 y.2) true]⟩) (Wk.trans (wq (e' := [(0, .ref 0 0 0), (1, .d (eU64 p0)), (6, .d (eI (w64 (p1 - (1 : Int)))))]) rfl) (Wk.trans (Wk.move (e' := [(0, .ref 0 0 0), (1, .d (eU64 p0)), (6, .d (eI (w64 (p1 - (1 : Int)))))]) (os := [.box (.agg [.slc 2 1 0 p2.length none]), .row 1 (List.map eU8 p2) true]) (o := .row 1 (List.map eU8 p2) true) (σ' := [.box (.agg [.slc 2 1 0 p2.length none]), .dead, .row 1 (List.map eU8 p2) true]) 1 (Nat.le_of_ble_eq_true rfl) rfl rfl rfl rfl) (wq rfl))) ?_))))))
 intro n40
 rintro ⟨y30, y31⟩ w1_36 h2 hv2
 refine sq (sr (sm rfl (s1 (bi rfl rfl q_i64_geq) (sn (cB h2 rfl (fun h2 => ?_) (fun h2 => ?_))))))
 ·obtain ⟨hg38, h2⟩ := gd h2; obtain ⟨hg39, h2⟩ := gd h2
  refine sk (sq (SC.blk (SC.draws (by kernel_rfl) (t1 ([], false) (mv rfl) rfl (t1 ([], false) (mv rfl) rfl (t1 ([], false) (nkr rfl) rfl (t1 ([], false) (far (k := 0) rfl fo127_0 ts125 rfl) rfl (t1 ([0], false) (lod rfl (ld_box ts125 ta125 rfl rfl)) rfl (t1 ([], false) (mv rfl) rfl ?_)))))))))
  refine t1 ([], false) (mv rfl) rfl (t1 ([], false) (bi rfl rfl q_i64_mul) rfl (t1 ([], false) (bi (v := .d (eU64 (shr64 p0 ((w64 ((8 : Int) * y30)).toNat)))) rfl rfl (fun X Y => b_u64_shr _ X Y p0 _ hg38)) rfl (t1 ([], false) (cvo rfl (cv_u64_u8 un54 un5 (shr64 p0 ((w64 ((8 : Int) * y30)).toNat)))) rfl (t1 ([3], true) (bsn (k := 3) (ds := List.map eU8 [((shr64 p0 ((w64 ((8 : Int) * y30)).toNat)).toUInt8)]) (off := 0) (l' := [((shr64 p0 ((w64 ((8 : Int) * y30)).toNat)).toUInt8)].length) rfl un125 ei5 rfl rfl (by rfl) rfl rfl rfl) rfl (t1 ([2, 3, 4], true) (app rfl rfl rfl rfl bc125 (aF (f := eU8) (xs := y31) (k := 4) rfl un125 ei5 rfl (el_full (xs := [((shr64 p0 ((w64 ((8 : Int) * y30)).toNat)).toUInt8)]) rfl) hg39 rfl)) rfl (t1 ([], false) (nkr rfl) rfl (t1 ([], false) (far (k := 0) rfl fo127_0 ts125 rfl) rfl (t0 ([0, 4], true) (sto rfl rfl (sB (d' := .agg [.slc 4 1 0 ((y31 ++ [((shr64 p0 ((w64 ((8 : Int) * y30)).toNat)).toUInt8)]).length) none]) ts125 rfl rfl rfl rfl rfl rfl rfl)) rfl (ST.nil (And.intro (by decide +kernel) ?_))))))))))
  change SC _ _ _ _ _
  have q := si h2; subst q
  exact SC.region (sm rfl (s1 (bi rfl rfl q_i64_sub) (sa rfl (SO.nil (lf (Wk.trans (wq (e' := [(0, .ref 0 0 0), (1, .d (eU64 p0)), (6, .d (eI (w64 (y30 - (1 : Int)))))]) rfl) (wc [0, 1, 4] [0, 1, 0] (by kernel_rfl) rfl (by kernel_rfl))))))))
 ·have q := si h2; subst q; have q : _ = _ := hv2; subst q; have q := si h0; subst q
  exact SC.exit (finN (Wk.refl _) lresN rfl)
noncomputable def ref07_part_1 (p0 : ApiValue) (p1 : Bool) : Option ((List UInt8)) :=
 Option.bind (α := (List UInt8))
 (bif (p0.Kind == (0 : Int)) then
 Option.bind (ref01_Out_Num (0 : UInt64) (1 : Int)) fun r553 =>
 some r553
 else
 Option.bind (ref01_Out_Num (1 : UInt64) (1 : Int)) fun r555 =>
 some r555)
 fun y550 =>
 Option.bind (α := (List UInt8))
 (bif (p0.Kind == (1 : Int)) then
 Option.bind (ref01_Out_Num_1 (p0.N ^^^ (9223372036854775808 : UInt64)) (8 : Int) y550) fun r669 =>
 some r669
 else
 bif (p0.Kind == (2 : Int)) then
 Option.bind (ref01_Out_Num_1 p0.N (8 : Int) y550) fun r671 =>
 some r671
 else
 bif (p0.Kind == (3 : Int)) then
 Option.bind (ref01_Out_Num_1 p0.N (1 : Int) y550) fun r673 =>
 some r673
 else
 Option.bind (α := Bool)
 (bif (p0.Kind == (4 : Int)) then
 some (p0.Kind == (4 : Int))
 else
 some (p0.Kind == (5 : Int)))
 fun y674 =>
 bif y674 then
 Option.bind (α := (List UInt8))
 (Option.bind (α := (List UInt8))
 (loop (Y := Int × (List UInt8)) (W := (List UInt8)) (fun (y741, y742) =>
 bif (decide (y741 < (p0.S.length : Int))) then
 Option.bind (α := (List UInt8))
 (Option.bind (getI p0.S y741) fun v769 =>
 Option.bind (ref01_Out_Num_1 (v769.toUInt64) (1 : Int) y742) fun r771 =>
 Option.bind (getI p0.S y741) fun v772 =>
 bif (v772 == (0 : UInt8)) then
 Option.bind (ref01_Out_Num_1 (255 : UInt64) (1 : Int) r771) fun r774 =>
 some r774
 else
 some r771)
 fun y767 =>
 some (Sum.inl ((w64 (y741 + (1 : Int))), y767))
 else
 some (Sum.inr y742)) ((0 : Int), y550))
 (fun e => some e))
 fun y725 =>
 Option.bind (ref01_Out_Num_1 (0 : UInt64) (2 : Int) y725) fun r777 =>
 some r777
 else
 some y550)
 fun y666 =>
 Option.bind (α := (List UInt8))
 (Option.bind (α := (List UInt8))
 (loop (Y := Int × (List UInt8)) (W := (List UInt8)) (fun (y803, y804) =>
 Option.bind (α := Bool)
 (bif (decide (y803 < (y804.length : Int))) then
 some p1
 else
 some false)
 fun y813 =>
 bif y813 then
 Option.bind (getI y804 y803) fun v815 =>
 Option.bind (getI y804 y803) fun v816 =>
 some (Sum.inl ((w64 (y803 + (1 : Int))), (List.set y804 y803.toNat ((255 : UInt8) - v815))))
 else
 some (Sum.inr y804)) ((0 : Int), y666))
 (fun e => some e))
 fun y797 =>
 some y797
theorem ref07_part_1_ok (p0 : ApiValue) (p1 : Bool) (r : (List UInt8)) (h0 : ref07_part_1 p0 p1 = some r) : CallAt Tryz.prog 123 [.d (eApiValue p0), .d (eB p1)] [] (.d ((eL 1 eU8) r)) [] := by
 unfold ref07_part_1 at h0
 refine fn0 [0, 1] Tryz.func123 rfl rfl rfl rfl rfl ?_
 refine sr (s1 (bxo (k := 0) rfl rfl rfl) (s1 (asg (v := .d .nils) rfl) (sn (sr (s1 (bld rfl (bd127_ )) (s1 (bxo (k := 1) rfl rfl rfl) (sa rfl (sn (SC.seqP h0 (fun y => ⟨mk 94 [(1, .d (eB p1)), (2, .ref 0 0 0), (5, .ref 1 0 0)], [.box (.d (eApiValue p0)), .box (.agg [.slc 2 1 0 y.length none]), .row 1 (List.map eU8 y) true]⟩) ?_ ?_)))))))))
 ·intro u1_551 h1
  refine sr (s1 (far (k := 0) rfl fo68_0 ts3 rfl) (s1 (lod rfl (ld_box ts3 ta3 rfl rfl)) (s1 (bi rfl rfl q_i64_eql) (sn (cB h1 rfl (fun h1 => ?_) (fun h1 => ?_))))))
  ·obtain ⟨r553, hq552, h1⟩ := ob h1; have q := si h1; subst q
   exact SC.region (sm rfl (cq [1] [2] (ref01_Out_Num_ok (0 : UInt64) (1 : Int) _ hq552) wf rfl rfl rfl cb57 rfl rfl rfl rfl rfl rfl rfl rfl (SO.nil ((wq rfl)))))
  ·obtain ⟨r555, hq554, h1⟩ := ob h1; have q := si h1; subst q
   exact SC.region (sm rfl (cq [1] [2] (ref01_Out_Num_ok (1 : UInt64) (1 : Int) _ hq554) wf rfl rfl rfl cb57 rfl rfl rfl rfl rfl rfl rfl rfl (SO.nil ((wq rfl)))))
 ·rintro y550 h0
  refine SC.seqP h0 (fun y => ⟨mk 94 [(1, .d (eB p1)), (5, .ref 0 0 0)], [.box (.agg [.slc 1 1 0 y.length none]), .row 1 (List.map eU8 y) true]⟩) ?_ ?_
  ·intro u1_667 h1
   refine sr (s1 (far (k := 0) rfl fo68_0 ts3 rfl) (s1 (lod rfl (ld_box ts3 ta3 rfl rfl)) (sn (SC.blk (sr (s1 (bi rfl rfl q_i64_eql) (sa rfl (sn (cB h1 rfl (fun h1 => ?_) (fun h1 => ?_))))))))))
   ·obtain ⟨r669, hq668, h1⟩ := ob h1; have q := si h1; subst q
    exact SC.region (sm rfl (s1 (far (k := 1) rfl fo68_1 ts54 rfl) (s1 (lod rfl (ld_box ts54 ta54 rfl rfl)) (s1 (bi rfl rfl (q_u64_xor (b := (9223372036854775808 : UInt64)))) (cq [1, 2] [3] (ref01_Out_Num_1_ok (p0.N ^^^ (9223372036854775808 : UInt64)) (8 : Int) y550 _ hq668) wf rfl rfl rfl cb57 rfl rfl rfl rfl rfl rfl rfl rfl (SO.nil ((wc [1, 3] [1] (by kernel_rfl) rfl (by kernel_rfl)))))))))
   ·refine sr (s1 (bi rfl rfl q_i64_eql) (sa rfl (sn (cB h1 rfl (fun h1 => ?_) (fun h1 => ?_)))))
    ·obtain ⟨r671, hq670, h1⟩ := ob h1; have q := si h1; subst q
     exact SC.region (sm rfl (s1 (far (k := 1) rfl fo68_1 ts54 rfl) (s1 (lod rfl (ld_box ts54 ta54 rfl rfl)) (cq [1, 2] [3] (ref01_Out_Num_1_ok p0.N (8 : Int) y550 _ hq670) wf rfl rfl rfl cb57 rfl rfl rfl rfl rfl rfl rfl rfl (SO.nil ((wc [1, 3] [1] (by kernel_rfl) rfl (by kernel_rfl))))))))
    ·refine sr (s1 (bi rfl rfl q_i64_eql) (sa rfl (sn (cB h1 rfl (fun h1 => ?_) (fun h1 => ?_)))))
     ·obtain ⟨r673, hq672, h1⟩ := ob h1; have q := si h1; subst q
      exact SC.region (sm rfl (s1 (far (k := 1) rfl fo68_1 ts54 rfl) (s1 (lod rfl (ld_box ts54 ta54 rfl rfl)) (cq [1, 2] [3] (ref01_Out_Num_1_ok p0.N (1 : Int) y550 _ hq672) wf rfl rfl rfl cb57 rfl rfl rfl rfl rfl rfl rfl rfl (SO.nil ((wc [1, 3] [1] (by kernel_rfl) rfl (by kernel_rfl))))))))
     ·refine SC.seqP h1 (fun y => ⟨mk 94 [(1, .d (eB p1)), (2, .ref 0 0 0), (5, .ref 1 0 0), (38, .d (eB y))], [.box (.d (eApiValue p0)), .box (.agg [.slc 2 1 0 y550.length none]), .row 1 (List.map eU8 y550) true]⟩) ?_ ?_
      ·intro u2_675 h2
       refine sr (s1 (bi rfl rfl q_i64_eql) (sa rfl (sn (cB h2 rfl (fun h2 => ?_) (fun h2 => ?_)))))
       ·have q := si h2; subst q
        exact SC.skip ((wq rfl))
       ·have q := si h2; subst q
        exact SC.region (s1 (bi rfl rfl q_i64_eql) (sa rfl (SO.nil ((wq rfl)))))
      ·rintro y674 h1
       refine cB h1 rfl (fun h1 => ?_) (fun h1 => ?_)
       ·refine SC.seqP h1 (fun y => ⟨mk 94 [(1, .d (eB p1)), (5, .ref 0 0 0)], [.box (.agg [.slc 1 1 0 y.length none]), .row 1 (List.map eU8 y) true]⟩) ?_ ?_
        ·intro u2_726 h2
         obtain ⟨u3_760, h3, h2⟩ := ob h2
         refine sr (sa rfl (sn (SC.blk (SC.loopB h3 (fun y => ⟨mk 94 [(1, .d (eB p1)), (2, .ref 0 0 0), (5, .ref 1 0 0), (6, .d (eI y.1))], [.box (.d (eApiValue p0)), .box (.agg [.slc 2 1 0 y.2.length none]), .row 1 (List.map eU8 y.2) true]⟩) (wq rfl) ?_))))
         intro n775
         rintro ⟨y741, y742⟩ w3_759 h4 hv4
         refine sq (sr (sm rfl (s1 (far (k := 2) rfl fo68_2 ts9 rfl) (s1 (lod rfl (ld_box ts9 ta9 rfl rfl)) (s1 (len rfl rfl rfl (len_str un9)) (s1 (bi rfl rfl q_i64_lss) (sn (cB h4 rfl (fun h4 => ?_) (fun h4 => ?_)))))))))
         ·refine sk (SC.seqP h4 (fun y => ⟨mk 94 [(1, .d (eB p1)), (2, .ref 0 0 0), (5, .ref 1 0 0), (6, .d (eI y741))], [.box (.d (eApiValue p0)), .box (.agg [.slc 2 1 0 y.length none]), .row 1 (List.map eU8 y) true]⟩) ?_ ?_)
          ·intro u5_768 h5
           obtain ⟨v769, hv769, h5⟩ := ob h5; obtain ⟨r771, hq770, h5⟩ := ob h5; obtain ⟨v772, hv772, h5⟩ := ob h5
           refine SC.blk (sr (sm rfl (s1 (far (k := 2) rfl fo68_2 ts9 rfl) (s1 (lod rfl (ld_box ts9 ta9 rfl rfl)) (sm rfl (s1 (ixs rfl rfl rfl rfl (ix_str un9 (getI_some hv769).1 (getI_some hv769).2)) (s1 (cvo rfl (cv_u8_u64 un5 un54 v769)) (cq [1, 2] [3] (ref01_Out_Num_1_ok (v769.toUInt64) (1 : Int) y742 _ hq770) wf rfl rfl rfl cb57 rfl rfl rfl rfl rfl rfl rfl rfl (sn ?_)))))))))
           refine sr (s1 (far (k := 2) rfl fo68_2 ts9 rfl) (s1 (lod rfl (ld_box ts9 ta9 rfl rfl)) (sm rfl (s1 (ixs rfl rfl rfl rfl (ix_str un9 (getI_some hv772).1 (getI_some hv772).2)) (s1 (bi rfl rfl (q_u8_eql (b := (0 : UInt8)))) (sn (cB h5 rfl (fun h5 => ?_) (fun h5 => ?_))))))))
           ·obtain ⟨r774, hq773, h5⟩ := ob h5; have q := si h5; subst q
            exact SC.region (sm rfl (cq [1, 3] [4] (ref01_Out_Num_1_ok (255 : UInt64) (1 : Int) r771 _ hq773) wf rfl rfl rfl cb57 rfl rfl rfl rfl rfl rfl rfl rfl (SO.nil ((wc [0, 1, 4] [0, 1] (by kernel_rfl) rfl (by kernel_rfl))))))
           ·have q := si h5; subst q
            exact SC.skip ((wc [0, 1, 3] [0, 1] (by kernel_rfl) rfl (by kernel_rfl)))
          ·rintro y767 h4
           have q := si h4; subst q
           exact SC.region (sm rfl (s1 (bi rfl rfl q_i64_add) (sa rfl (SO.nil (lf (wq rfl))))))
         ·have q := si h4; subst q; have q : _ = _ := hv4; subst q; have q := si h2; subst q
          exact SC.exit ((wc [1, 2] [1] (by kernel_rfl) rfl (by kernel_rfl)))
        ·rintro y725 h1
         obtain ⟨r777, hq776, h1⟩ := ob h1; have q := si h1; subst q
         exact SC.region (sm rfl (cq [0, 1] [2] (ref01_Out_Num_1_ok (0 : UInt64) (2 : Int) y725 _ hq776) wf rfl rfl rfl cb57 rfl rfl rfl rfl rfl rfl rfl rfl (SO.nil ((wc [0, 2] [0] (by kernel_rfl) rfl (by kernel_rfl))))))
       ·have q := si h1; subst q
        exact SC.skip ((wc [1, 2] [1] (by kernel_rfl) rfl (by kernel_rfl)))
  ·rintro y666 h0
   refine SC.seqP h0 (fun y => ⟨mk 94 [(5, .ref 0 0 0)], [.box (.agg [.slc 1 1 0 y.length none]), .row 1 (List.map eU8 y) true]⟩) ?_ ?_
   ·intro u1_798 h1
    obtain ⟨u2_812, h2, h1⟩ := ob h1
    refine sr (sa rfl (sn (SC.blk (SC.loopB h2 (fun y => ⟨mk 94 [(1, .d (eB p1)), (5, .ref 0 0 0), (7, .d (eI y.1))], [.box (.agg [.slc 1 1 0 y.2.length none]), .row 1 (List.map eU8 y.2) true]⟩) (wq rfl) ?_))))
    intro n817
    rintro ⟨y803, y804⟩ w2_811 h3 hv3
    refine sq (SC.seqP h3 (fun y => ⟨mk 94 [(1, .d (eB p1)), (5, .ref 0 0 0), (7, .d (eI y803)), (73, .d (eB y))], [.box (.agg [.slc 1 1 0 y804.length none]), .row 1 (List.map eU8 y804) true]⟩) ?_ ?_)
    ·intro u4_814 h4
     refine SC.region (sm rfl (sm rfl (s1 (nkr rfl) (s1 (far (k := 0) rfl fo127_0 ts125 rfl) (s1 (lod rfl (ld_box ts125 ta125 rfl rfl)) (s1 (len rfl rfl rfl (len_slc un125)) (s1 (bi rfl rfl q_i64_lss) (sm rfl (sp h4 (fun h4 => ?_) (fun h4 => ?_))))))))))
     ·have q := si h4; subst q
      exact gw rfl (mv rfl) (s1 (pkt rfl rfl) (SO.nil ((wq rfl))))
     ·have q := si h4; subst q
      exact kw rfl (s1 (pkf rfl rfl) (SO.nil ((wq rfl))))
    ·rintro y813 h3
     refine cB h3 rfl (fun h3 => ?_) (fun h3 => ?_)
     ·obtain ⟨v815, hv815, h3⟩ := ob h3; obtain ⟨v816, hv816, h3⟩ := ob h3
      refine sk (sq (SC.blk (SC.draws (by kernel_rfl) (t1 ([], false) (mv rfl) rfl (t1 ([], false) (nkr rfl) rfl (t1 ([], false) (far (k := 0) rfl fo127_0 ts125 rfl) rfl (t1 ([0], false) (lod rfl (ld_box ts125 ta125 rfl rfl)) rfl (t1 ([], false) (mv rfl) rfl (t1 ([], false) (mv rfl) rfl ?_)))))))))
      refine t1 ([], false) (nkr rfl) rfl (t1 ([], false) (far (k := 0) rfl fo127_0 ts125 rfl) rfl (t1 ([0], false) (lod rfl (ld_box ts125 ta125 rfl rfl)) rfl (t1 ([], false) (mv rfl) rfl (t1 ([], false) (iaz rfl rfl un125 ts5 (getI_lt hv815)) rfl (t1 ([1], false) (lod rfl (ld_row ts5 ta5 rfl (map_get (getI_some hv815).2) rfl)) rfl (t1 ([], false) (bi rfl rfl (q_u8_sub (a := (255 : UInt8)))) rfl (t1 ([], false) (iaz rfl rfl un125 ts5 (getI_lt hv816)) rfl (t0 ([1], true) (sto (b := .d (eU8 ((255 : UInt8) - v815))) rfl rfl (sR (f := eU8) (v := ((255 : UInt8) - v815)) ts5 rfl rfl rfl rfl (getI_some hv816).2 rfl rfl)) rfl (ST.nil (And.intro (by decide +kernel) ?_))))))))))
      change SC _ _ _ _ _
      have q := si h3; subst q
      exact SC.region (sm rfl (s1 (bi rfl rfl q_i64_add) (sa rfl (SO.nil (lf (Wk.trans (wq (e' := [(1, .d (eB p1)), (5, .ref 0 0 0), (7, .d (eI (w64 (y803 + (1 : Int)))))]) rfl) (Wk.boxE (id := 0) (y := .agg [.slc 1 1 0 ((List.set y804 y803.toNat ((255 : UInt8) - v815)).length) none]) (σ' := [.box (.agg [.slc 1 1 0 ((List.set y804 y803.toNat ((255 : UInt8) - v815)).length) none]), .row 1 (List.map eU8 (List.set y804 y803.toNat ((255 : UInt8) - v815))) true]) rfl (AWs.cons (AW.slc rfl (by simp)) AWs.nil) rfl)))))))
     ·have q := si h3; subst q; have q : _ = _ := hv3; subst q; have q := si h1; subst q
      exact SC.exit ((wq rfl))
   ·rintro y797 h0
    have q := si h0; subst q
    exact sr (sm rfl (s1 (nkr rfl) (s1 (far (k := 0) rfl fo127_0 ts125 rfl) (s1 (lod rfl (ld_box ts125 ta125 rfl rfl)) (sa rfl (sn (SC.ret (finR (Wk.trans (Wk.frz (i := 4) (x := .slc 1 1 0 y797.length none) rfl rfl (fF rfl rfl rfl)) (wc (e' := [(4, .d ((eL 1 eU8) y797))]) [] [] (by kernel_rfl) rfl (by kernel_rfl))) (lresT rfl lresN) rfl))))))))
noncomputable def ref07_Key_1 (p0 : List ApiValue) (p1 : List Bool) : Option ((List UInt8)) :=
 Option.bind (α := (List UInt8))
 (Option.bind (α := (List UInt8))
 (loop (Y := (List UInt8) × Int) (W := (List UInt8)) (fun (y123, y124) =>
 bif (decide (y124 < (p0.length : Int))) then
 Option.bind (getI p0 y124) fun v134 =>
 Option.bind (getI p1 y124) fun v135 =>
 Option.bind (ref07_part_1 v134 v135) fun r137 =>
 bif decide ((y123.length + r137.length) * 1 ≤ room) then
 some (Sum.inl ((y123 ++ r137), (w64 (y124 + (1 : Int)))))
 else none
 else
 some (Sum.inr y123)) (([] : List UInt8), (0 : Int)))
 (fun e => some e))
 fun y116 =>
 some y116
theorem ref07_Key_1_ok (p0 : List ApiValue) (p1 : List Bool) (r : (List UInt8)) (h0 : ref07_Key_1 p0 p1 = some r) : CallAt Tryz.prog 105 [.d ((eL 3 eApiValue) p0), .d ((eL 1 eB) p1)] [] (.d (eS r)) [] := by
 unfold ref07_Key_1 at h0
 refine fn0 [0, 1] Tryz.func105 rfl rfl rfl rfl rfl ?_
 refine sr (s1 (asg (v := .d (eS ([] : List UInt8))) rfl) (sn (sr (s1 (asg (v := .d .nils) rfl) (sn (SC.seqP h0 (fun y => ⟨mk 26 [(5, .slc 0 1 0 y.length none)], [.row 1 (List.map eU8 y) true]⟩) ?_ ?_))))))
 ·intro u1_117 h1
  obtain ⟨u2_133, h2, h1⟩ := ob h1
  refine sr (sa rfl (sn (SC.blk (SC.loopB h2 (fun y => ⟨mk 26 [(0, .d ((eL 3 eApiValue) p0)), (1, .d ((eL 1 eB) p1)), (5, .slc 0 1 0 y.1.length none), (6, .d (eI y.2))], [.row 1 (List.map eU8 y.1) true]⟩) (Wk.trans (Wk.pushE (σ' := [.row 1 (List.map eU8 ([] : List UInt8)) true]) (.row 1 [] true) (fun _ hh => by cases hh) rfl) (Wk.trans (Wk.env (e' := [(0, .d ((eL 3 eApiValue) p0)), (1, .d ((eL 1 eB) p1)), (5, .slc 0 1 0 (([] : List UInt8).length) none), (6, .d (eI (0 : Int)))]) (EW.cons (AW.refl _) (EW.cons (AW.refl _) (EW.cons (AW.slcn _ _ _) (EW.cons (AW.refl _) EW.nil))))) (wq rfl))) ?_))))
  intro n139
  rintro ⟨y123, y124⟩ w2_132 h3 hv3
  refine sq (sr (sm rfl (sm rfl (s1 (len rfl rfl rfl (len_lst un28)) (s1 (bi rfl rfl q_i64_lss) (sn (cB h3 rfl (fun h3 => ?_) (fun h3 => ?_))))))))
  ·obtain ⟨v134, hv134, h3⟩ := ob h3; obtain ⟨v135, hv135, h3⟩ := ob h3; obtain ⟨r137, hq136, h3⟩ := ob h3; obtain ⟨hg138, h3⟩ := gd h3
   refine sk (sq (SC.blk (SC.draws (by kernel_rfl) (t1 ([], false) (mv rfl) rfl (t1 ([], false) (mv rfl) rfl (t1 ([], false) (mv rfl) rfl (t1 ([], false) (ial rfl rfl un28 ts68 (getI_some hv134).1 (map_get (getI_some hv134).2) rfl) rfl (t1 ([], false) (lod (v := .d (eApiValue v134)) rfl (ld_rop ts68 ta68 rfl)) rfl (t1 ([], false) (mv rfl) rfl ?_)))))))))
   refine t1 ([], false) (mv rfl) rfl (t1 ([], false) (ial rfl rfl un177 ts4 (getI_some hv135).1 (map_get (getI_some hv135).2) rfl) rfl (t1 ([], false) (lod rfl (ld_rop ts4 ta4 rfl)) rfl (tc0 (ref07_part_1_ok v134 v135 _ hq136) wf rfl rfl rfl cb123 rfl (fun _ => rfl) (fun _ => rfl) (t1 ([0, 1], true) (app rfl rfl rfl rfl bc125 (aF (f := eU8) (xs := y123) (k := 1) rfl un125 ei5 rfl el_lst hg138 rfl)) rfl (t1 ([], false) (asg rfl) rfl (ST.nil (And.intro (by decide +kernel) ?_)))))))
   change SC _ _ _ _ _
   have q := si h3; subst q
   exact SC.region (sm rfl (s1 (bi rfl rfl q_i64_add) (sa rfl (SO.nil (lf (wc [1] [1] (by kernel_rfl) rfl (by kernel_rfl)))))))
  ·have q := si h3; subst q; have q : _ = _ := hv3; subst q; have q := si h1; subst q
   exact SC.exit ((wq rfl))
 ·rintro y116 h0
  have q := si h0; subst q
  exact sr (sm rfl (s1 (cvo (v := .d (eS y116)) rfl (cv_bytes_str un125 un9 un5 (el_full (xs := y116) rfl) (fun _ hh => by cases hh))) (sa rfl (sn (SC.ret (finR (wc (e' := [(4, .d (eS y116))]) [] [] (by kernel_rfl) rfl (by kernel_rfl)) (lresT rfl lresN) rfl))))))
noncomputable def ref17_keyed (p0 : List ApiPart) (p1 : List ApiValue) : Option ((List UInt8) × Bool) :=
 Option.bind (α := (List ApiValue) × (List Bool) × Bool)
 (Option.bind (α := (List ApiValue) × (List Bool) × Bool)
 (loop (Y := (List ApiValue) × (List Bool) × Bool × Int) (W := (List ApiValue) × (List Bool) × Bool) (fun (y154, y155, y156, y157) =>
 bif (decide (y157 < (p0.length : Int))) then
 Option.bind (getI p0 y157) fun v169 =>
 Option.bind (getI p1 v169.Col) fun v170 =>
 bif decide ((y154.length + [v170].length) * 32 ≤ room) then
 Option.bind (getI p0 y157) fun v172 =>
 bif decide ((y155.length + [v172.Down].length) * 1 ≤ room) then
 bif y156 then
 some (Sum.inl ((y154 ++ [v170]), (y155 ++ [v172.Down]), true, (w64 (y157 + (1 : Int)))))
 else
 some (Sum.inl ((y154 ++ [v170]), (y155 ++ [v172.Down]), (v170.Kind == (0 : Int)), (w64 (y157 + (1 : Int)))))
 else none
 else none
 else
 some (Sum.inr (y154, y155, y156))) (([] : List ApiValue), ([] : List Bool), false, (0 : Int)))
 (fun e => some e))
 fun (y145, y146, y147) =>
 Option.bind (ref07_Key_1 y145 y146) fun r176 =>
 some (r176, y147)
theorem ref17_keyed_ok (p0 : List ApiPart) (p1 : List ApiValue) (r : (List UInt8) × Bool) (h0 : ref17_keyed p0 p1 = some r) : CallAt Tryz.prog 73 [.d ((eL 2 eApiPart) p0), .d ((eL 3 eApiValue) p1)] [] (.tuple [.d (eS r.1), .d (eB r.2)]) [] := by
 unfold ref17_keyed at h0
 refine fn0 [0, 1] Tryz.func73 rfl rfl rfl rfl rfl ?_
 refine sr (s1 (asg (v := .d (eS ([] : List UInt8))) rfl) (sa rfl (sn (sr (s1 (asg (v := .d .nils) rfl) (sn (sr (s1 (asg (v := .d .nils) rfl) (sn ?_)))))))))
 refine sr (sa rfl (sn (SC.seqP h0 (fun y => ⟨mk 47 [(6, .slc 0 3 0 y.1.length none), (7, .slc 1 1 0 y.2.1.length none), (8, .d (eB y.2.2))], [.row 3 (List.map eApiValue y.1) true, .row 1 (List.map eB y.2.1) true]⟩) ?_ ?_)))
 ·intro u1_148 h1
  obtain ⟨u2_168, h2, h1⟩ := ob h1
  refine sr (sa rfl (sn (SC.blk (SC.loopB h2 (fun y => ⟨mk 47 [(0, .d ((eL 2 eApiPart) p0)), (1, .d ((eL 3 eApiValue) p1)), (6, .slc 0 3 0 y.1.length none), (7, .slc 1 1 0 y.2.1.length none), (8, .d (eB y.2.2.1)), (9, .d (eI y.2.2.2))], [.row 3 (List.map eApiValue y.1) true, .row 1 (List.map eB y.2.1) true]⟩) (Wk.trans (Wk.pushE (σ' := [.row 3 (List.map eApiValue ([] : List ApiValue)) true]) (.row 3 [] true) (fun _ hh => by cases hh) rfl) (Wk.trans (Wk.env (e' := [(0, .d ((eL 2 eApiPart) p0)), (1, .d ((eL 3 eApiValue) p1)), (6, .slc 0 3 0 (([] : List ApiValue).length) none), (7, .d .nils), (8, .d (eB false)), (9, .d (eI (0 : Int)))]) (EW.cons (AW.refl _) (EW.cons (AW.refl _) (EW.cons (AW.slcn _ _ _) (EW.cons (AW.refl _) (EW.cons (AW.refl _) (EW.cons (AW.refl _) EW.nil))))))) (Wk.trans (Wk.pushE (σ' := [.row 3 (List.map eApiValue ([] : List ApiValue)) true, .row 1 (List.map eB ([] : List Bool)) true]) (.row 1 [] true) (fun _ hh => by cases hh) rfl) (Wk.trans (Wk.env (e' := [(0, .d ((eL 2 eApiPart) p0)), (1, .d ((eL 3 eApiValue) p1)), (6, .slc 0 3 0 (([] : List ApiValue).length) none), (7, .slc 1 1 0 (([] : List Bool).length) none), (8, .d (eB false)), (9, .d (eI (0 : Int)))]) (EW.cons (AW.refl _) (EW.cons (AW.refl _) (EW.cons (AW.refl _) (EW.cons (AW.slcn _ _ _) (EW.cons (AW.refl _) (EW.cons (AW.refl _) EW.nil))))))) (wq rfl))))) ?_))))
  intro n174
  rintro ⟨y154, y155, y156, y157⟩ w2_167 h3 hv3
  refine sq (sr (sm rfl (sm rfl (s1 (len rfl rfl rfl (len_lst un80)) (s1 (bi rfl rfl q_i64_lss) (sn (cB h3 rfl (fun h3 => ?_) (fun h3 => ?_))))))))
  ·obtain ⟨v169, hv169, h3⟩ := ob h3; obtain ⟨v170, hv170, h3⟩ := ob h3; obtain ⟨hg171, h3⟩ := gd h3; obtain ⟨v172, hv172, h3⟩ := ob h3; obtain ⟨hg173, h3⟩ := gd h3
   refine sk (sq (SC.blk (sr (sm rfl (sm rfl (sm rfl (s1 (ial rfl rfl un80 ts79 (getI_some hv169).1 (map_get (getI_some hv169).2) rfl) (s1 (fap rfl fo79_0 ts3 rfl) (s1 (lod rfl (ld_rop ts3 ta3 rfl)) ?_)))))))))
   refine s1 (ial rfl rfl un28 ts68 (getI_some hv170).1 (map_get (getI_some hv170).2) rfl) (s1 (lod (v := .d (eApiValue v170)) rfl (ld_rop ts68 ta68 rfl)) (s1 (alo (k := 2) zo68 rfl) (s0 (sto rfl rfl (sB (d' := .d (eApiValue v170)) ts68 rfl rfl rfl rfl rfl rfl rfl)) (sn (sr (sm rfl (s1 (lod (v := .d (eApiValue v170)) rfl (ld_box ts68 ta68 rfl rfl)) (s1 (bsn (k := 3) (ds := List.map eApiValue [v170]) (off := 0) (l' := [v170].length) rfl un28 ei68 rfl rfl (by rfl) rfl rfl rfl) (s1 (app rfl rfl rfl rfl bc28 (aF (f := eApiValue) (xs := y154) (k := 4) rfl un28 ei68 rfl (el_full (xs := [v170]) rfl) hg171 rfl)) ?_)))))))))
   refine sa rfl (sn (sr (sm rfl (sm rfl (sm rfl (s1 (ial rfl rfl un80 ts79 (getI_some hv172).1 (map_get (getI_some hv172).2) rfl) (s1 (fap rfl fo79_1 ts4 rfl) (s1 (lod rfl (ld_rop ts4 ta4 rfl)) (s1 (bsn (k := 5) (ds := List.map eB [v172.Down]) (off := 0) (l' := [v172.Down].length) rfl un177 ei4 rfl rfl (by rfl) rfl rfl rfl) ?_)))))))))
   refine s1 (app rfl rfl rfl rfl bc177 (aF (f := eB) (xs := y155) (k := 6) rfl un177 ei4 rfl (el_full (xs := [v172.Down]) rfl) hg173 rfl)) (sa rfl (sn (SC.region (sm rfl (sm rfl (sp h3 (fun h3 => ?_) (fun h3 => ?_)))))))
   ·refine kw rfl (kw rfl (kw rfl (s1 (pkt rfl rfl) (sa rfl (SO.nil ?_)))))
    change SC _ _ _ _ _
    have q := si h3; subst q
    exact SC.region (sm rfl (s1 (bi rfl rfl q_i64_add) (sa rfl (SO.nil (lf (wc [4, 6] [4, 6] (by kernel_rfl) rfl (by kernel_rfl)))))))
   ·refine gw rfl (far (k := 0) rfl fo68_0 ts3 rfl) (gw rfl (lod rfl (ld_box ts3 ta3 rfl rfl)) (gw rfl (bi rfl rfl q_i64_eql) (s1 (pkf rfl rfl) (sa rfl (SO.nil ?_)))))
    change SC _ _ _ _ _
    have q := si h3; subst q
    exact SC.region (sm rfl (s1 (bi rfl rfl q_i64_add) (sa rfl (SO.nil (lf (wc [4, 6] [4, 6] (by kernel_rfl) rfl (by kernel_rfl)))))))
  ·have q := si h3; subst q; have q : _ = _ := hv3; subst q; have q := si h1; subst q
   exact SC.exit ((wq rfl))
 ·rintro ⟨y145, y146, y147⟩ h0
  obtain ⟨r176, hq175, h0⟩ := ob h0; have q := si h0; subst q
  exact sr (sm rfl (sm rfl (cq (args' := [.slc 0 3 0 y145.length none, .slc 1 1 0 y146.length none]) (σc := [.row 3 (List.map eApiValue y145) true, .row 1 (List.map eB y146) true]) [0, 1] [] (CallAt.frz (ArgF.frz (fF rfl rfl rfl) (ArgF.frz (fF rfl rfl rfl) (ArgF.nil _))) (fq [] [] (ref07_Key_1_ok y145 y146 _ hq175) rfl rfl rfl rfl rfl rfl rfl rfl)) wf rfl rfl rfl cb105 rfl rfl rfl rfl rfl rfl rfl rfl (sm rfl (sa rfl (sa rfl (sn (SC.ret (finR (wc (e' := [(4, .d (eS r176)), (5, .d (eB y147))]) [] [] (by kernel_rfl) rfl (by kernel_rfl)) (lresT rfl (lresT rfl lresN)) rfl)))))))))
noncomputable def ref17_Primary (p0 : ApiTable) (p1 : List ApiValue) : Option ((List UInt8)) :=
 Option.bind (ref17_Up p0.Primary) fun r13 =>
 Option.bind (ref17_keyed r13 p1) fun (r15, r16) =>
 some r15
theorem ref17_Primary_ok (p0 : ApiTable) (p1 : List ApiValue) (r : (List UInt8)) (h0 : ref17_Primary p0 p1 = some r) : CallAt Tryz.prog 37 [.d (eApiTable p0), .d ((eL 3 eApiValue) p1)] [] (.d (eS r)) [] := by
 unfold ref17_Primary at h0
 refine fn0 [0, 1] Tryz.func37 rfl rfl rfl rfl rfl ?_
 obtain ⟨r13, hq12, h0⟩ := ob h0; obtain ⟨⟨r15, r16⟩, hq14, h0⟩ := ob h0; have q := si h0; subst q
 refine sr (s1 (bxo (k := 0) rfl rfl rfl) (s1 (asg (v := .d (eS ([] : List UInt8))) rfl) (sn (sr (s1 (far (k := 2) rfl fo26_2 ts23 rfl) (s1 (lod rfl (ld_box ts23 ta23 rfl rfl)) (c0 (ref17_Up_ok p0.Primary _ hq12) wf rfl rfl rfl cb27 rfl (fun _ => rfl) (fun _ => rfl) (sm rfl (c0 (ref17_keyed_ok r13 p1 _ hq14) wf rfl rfl rfl cb73 rfl (fun _ => rfl) (fun _ => rfl) ?_)))))))))
 refine sm rfl (s1 (ext rfl rfl) (s1 (ext rfl rfl) (sa rfl (sa rfl (sn (sr (sm rfl (sa rfl (sn ?_)))))))))
 exact SC.ret (finR (wc (e' := [(4, .d (eS r15))]) [] [] (by kernel_rfl) rfl (by kernel_rfl)) (lresT rfl lresN) rfl)
noncomputable def ref19_Work_own (p0 : Int) (p1 : List UInt8) : Option Unit :=
 Option.bind (ref19_Point p1) fun _ =>
 bif decide ([(ApiLock.mk p0 (ApiSpan.mk p1 (p1 ++ ([0] : List UInt8)) false) true)].length * 56 ≤ room) then
 some ()
 else none
theorem ref19_Work_own_ok (p0 : Int) (p1 : List UInt8) (r : Unit) (h0 : ref19_Work_own p0 p1 = some r) : CallAt Tryz.prog 38 [.ref 0 0 0, .d (eI p0), .d (eS p1)] [.box (.d (.agg [.nils, .nils, .nils]))] (.tuple []) [.box (.agg [.d .nils, .slc 1 5 0 ([(ApiLock.mk p0 (ApiSpan.mk p1 (p1 ++ ([0] : List UInt8)) false) true)].length) none, .d .nils]), .row 5 (List.map eApiLock [(ApiLock.mk p0 (ApiSpan.mk p1 (p1 ++ ([0] : List UInt8)) false) true)]) true] := by
 unfold ref19_Work_own at h0
 refine fn0 [0, 1, 2] Tryz.func38 rfl rfl rfl rfl rfl ?_
 obtain ⟨_, hq5, h0⟩ := ob h0; obtain ⟨hg6, h0⟩ := gd h0; have q := si h0; subst q
 refine SC.draws (by kernel_rfl) (t1 ([], false) (mv rfl) rfl (t1 ([], false) (mv rfl) rfl (t1 ([], false) (nkr rfl) rfl (t1 ([], false) (far (k := 1) rfl fo46_1 ts37 rfl) rfl (t1 ([0], false) (lod rfl (ld_box ts37 ta37 rfl rfl)) rfl (t1 ([], false) (mv rfl) rfl (t1 ([], false) (mv rfl) rfl (tq [] [1] ([1], true) (ref19_Point_ok p1 _ hq5) wf rfl rfl rfl cb7 rfl rfl rfl rfl rfl rfl rfl rfl rfl (t1 ([], false) (bld rfl (bd137_0_1_2 p0 (ApiSpan.mk p1 (p1 ++ ([0] : List UInt8)) false) true)) rfl ?_)))))))))
 refine t1 ([2], true) (bsn (k := 2) (ds := List.map eApiLock [(ApiLock.mk p0 (ApiSpan.mk p1 (p1 ++ ([0] : List UInt8)) false) true)]) (off := 0) (l' := [(ApiLock.mk p0 (ApiSpan.mk p1 (p1 ++ ([0] : List UInt8)) false) true)].length) rfl un37 ei137 rfl rfl (by rfl) rfl rfl rfl) rfl (t1 ([2, 3], true) (app rfl rfl rfl rfl bc37 (aN (f := eApiLock) (k := 3) un37 ei137 (el_full (xs := [(ApiLock.mk p0 (ApiSpan.mk p1 (p1 ++ ([0] : List UInt8)) false) true)]) rfl) hg6 rfl)) rfl (t1 ([], false) (nkr rfl) rfl (t1 ([], false) (far (k := 1) rfl fo46_1 ts37 rfl) rfl (t0 ([0, 3], true) (sto rfl rfl (sB (d' := .agg [.d .nils, .slc 3 5 0 ([(ApiLock.mk p0 (ApiSpan.mk p1 (p1 ++ ([0] : List UInt8)) false) true)].length) none, .d .nils]) ts37 rfl rfl rfl rfl rfl rfl rfl)) rfl (ST.nil (And.intro (by decide +kernel) ?_))))))
 exact finN (wc (e' := []) [0, 3] [0] (by kernel_rfl) rfl (by kernel_rfl)) lresN rfl
noncomputable def raw_Values (p0 : List ApiValue) (p1 : List ApiValue) : Option Bool :=
 bif ((p0.length : Int) != (p1.length : Int)) then
 some false
 else
 bindE (Y := Unit) (E := Bool)
 (Option.bind (α := Unit ⊕ Bool)
 (loop (Y := Int) (W := Unit ⊕ Bool) (fun y62 =>
 bif (decide (y62 < (p0.length : Int))) then
 Option.bind (getI p0 y62) fun v68 =>
 Option.bind (getI p1 y62) fun v69 =>
 bif (!(eqApiValue v68 v69)) then
 some (Sum.inr (Sum.inr false))
 else
 some (Sum.inl (w64 (y62 + (1 : Int))))
 else
 some (Sum.inr (Sum.inl ()))) (0 : Int))
 (Sum.elim (fun e => some (Sum.inl e)) (fun e => some (Sum.inr e))))
 (fun _ =>
 some true)
 (fun e => some e)
theorem raw_Values_ok (p0 : List ApiValue) (p1 : List ApiValue) (r : Bool) (h0 : raw_Values p0 p1 = some r) : CallAt Tryz.prog 21 [.d ((eL 3 eApiValue) p0), .d ((eL 3 eApiValue) p1)] [] (.d (eB r)) [] := by
 unfold raw_Values at h0
 refine fn0 [0, 1] Tryz.func21 rfl rfl rfl rfl rfl ?_
 refine sr (sa rfl (sn (sq (sr (sm rfl (s1 (len rfl rfl rfl (len_lst un28)) (sm rfl (s1 (len rfl rfl rfl (len_lst un28)) (s1 (bi rfl rfl q_i64_neq) ?_)))))))))
 refine sn (cB h0 rfl (fun h0 => ?_) (fun h0 => ?_))
 ·have q := si h0; subst q
  exact sr (sa rfl (sn (SC.ret (finR (Wk.refl _) (lresT rfl lresN) rfl))))
 ·refine sk (SC.seqB h0 (fun y => ⟨mk 26 [], []⟩) ?_ ?_)
  ·intro u1_59 h1 h0
   obtain ⟨u2_67, h2, h1⟩ := ob h1
   refine sr (sa rfl (sn (SC.blk (SC.loopB h2 (fun y => ⟨mk 26 [(0, .d ((eL 3 eApiValue) p0)), (1, .d ((eL 3 eApiValue) p1)), (5, .d (eI y))], []⟩) (wq rfl) ?_))))
   intro n70
   rintro y62 w2_66 h3 hv3
   refine sq (sr (sm rfl (sm rfl (s1 (len rfl rfl rfl (len_lst un28)) (s1 (bi rfl rfl q_i64_lss) (sn (cB h3 rfl (fun h3 => ?_) (fun h3 => ?_))))))))
   ·obtain ⟨v68, hv68, h3⟩ := ob h3; obtain ⟨v69, hv69, h3⟩ := ob h3
    refine sk (sq (SC.blk (sd (by kernel_rfl) (t1 ([], false) (mv rfl) rfl (t1 ([], false) (mv rfl) rfl (t1 ([], false) (ial rfl rfl un28 ts68 (getI_some hv68).1 (map_get (getI_some hv68).2) rfl) rfl (t1 ([], false) (lod (v := .d (eApiValue v68)) rfl (ld_rop ts68 ta68 rfl)) rfl (t1 ([], false) (mv rfl) rfl (t1 ([], false) (mv rfl) rfl ?_)))))))))
    refine t1 ([], false) (ial rfl rfl un28 ts68 (getI_some hv69).1 (map_get (getI_some hv69).2) rfl) rfl (t1 ([], false) (lod (v := .d (eApiValue v69)) rfl (ld_rop ts68 ta68 rfl)) rfl (t1 ([], false) (bi (v := .d (eB (!(eqApiValue v68 v69)))) rfl rfl (fun X Y => eqApiValue_neq_68 X Y v68 v69)) rfl (tn (by decide +kernel) (cB h3 rfl (fun h3 => ?_) (fun h3 => ?_)))))
    ·have q := si h3; subst q; have q : _ = _ := hv3; subst q; have q := si h1; subst q; have q := si h0; subst q
     exact sr (sa rfl (sn (SC.ret (finR (Wk.refl _) (lresT rfl lresN) rfl))))
    ·refine SC.skip ?_
     change SC _ _ _ _ _
     have q := si h3; subst q
     exact SC.region (sm rfl (s1 (bi rfl rfl q_i64_add) (sa rfl (SO.nil (lf (wq rfl))))))
   ·have q := si h3; subst q; have q : _ = _ := hv3; subst q; have q := si h1; subst q
    exact SC.exit (lf (wq rfl))
  ·intro _ h0
   have q := si h0; subst q
   exact sr (sa rfl (sn (SC.ret (finR (Wk.refl _) (lresT rfl lresN) rfl))))
noncomputable def ref08_Same (p0 : List ApiValue) (p1 : List ApiValue) : Option Bool :=
 Option.bind (raw_Values p0 p1) fun r7 =>
 some r7
theorem ref08_Same_ok (p0 : List ApiValue) (p1 : List ApiValue) (r : Bool) (h0 : ref08_Same p0 p1 = some r) : CallAt Tryz.prog 39 [.d ((eL 3 eApiValue) p0), .d ((eL 3 eApiValue) p1)] [] (.d (eB r)) [] := by
 unfold ref08_Same at h0
 refine fn0 [0, 1] Tryz.func39 rfl rfl rfl rfl rfl ?_
 obtain ⟨r7, hq6, h0⟩ := ob h0; have q := si h0; subst q
 refine sr (sa rfl (sn (sr (sm rfl (sm rfl (c0 (raw_Values_ok p0 p1 _ hq6) wf rfl rfl rfl cb21 rfl (fun _ => rfl) (fun _ => rfl) (sa rfl (sn (SC.ret ?_)))))))))
 exact finR (Wk.refl _) (lresT rfl lresN) rfl
noncomputable def ref19_Work_op (p0 : Int) (p1 : Int) (p2 : List UInt8) (p3 : List UInt8) (p4 : List ApiLock) : Option Unit :=
 bif decide ([(Granaryref14Op.mk (1 : Int) p0 (ApiMsg.mk (0 : UInt64) p1 p2 (0 : UInt64) p3 (0 : Int) (0 : UInt64)))].length * 88 ≤ room) then
 some ()
 else none
theorem ref19_Work_op_ok (p0 : Int) (p1 : Int) (p2 : List UInt8) (p3 : List UInt8) (p4 : List ApiLock) (r : Unit) (h0 : ref19_Work_op p0 p1 p2 p3 p4 = some r) : CallAt Tryz.prog 40 [.ref 0 0 0, .d (eI p0), .d (eI p1), .d (eS p2), .d (eS p3)] [.box (.agg [.d .nils, .slc 1 5 0 p4.length none, .d .nils]), .row 5 (List.map eApiLock p4) true] (.tuple []) [.box (.agg [.slc 2 9 0 ([(Granaryref14Op.mk (1 : Int) p0 (ApiMsg.mk (0 : UInt64) p1 p2 (0 : UInt64) p3 (0 : Int) (0 : UInt64)))].length) none, .slc 1 5 0 p4.length none, .d .nils]), .row 5 (List.map eApiLock p4) true, .row 9 (List.map eGranaryref14Op [(Granaryref14Op.mk (1 : Int) p0 (ApiMsg.mk (0 : UInt64) p1 p2 (0 : UInt64) p3 (0 : Int) (0 : UInt64)))]) true] := by
 unfold ref19_Work_op at h0
 refine fn0 [0, 1, 2, 3, 4] Tryz.func40 rfl rfl rfl rfl rfl ?_
 obtain ⟨hg3, h0⟩ := gd h0; have q := si h0; subst q
 refine SC.region (sm rfl (sm rfl (s1 (nkr rfl) (s1 (far (k := 0) rfl fo46_0 ts43 rfl) (s1 (lod rfl (ld_box ts43 ta43 rfl rfl)) (sm rfl (sm rfl (sm rfl (sm rfl ?_)))))))))
 exact s1 (bld rfl (bd63_1_2_4 p1 p2 p3)) (s1 (bld rfl (bd108_0_1_2 (1 : Int) p0 (ApiMsg.mk (0 : UInt64) p1 p2 (0 : UInt64) p3 (0 : Int) (0 : UInt64)))) (s1 (bsn (k := 2) (ds := List.map eGranaryref14Op [(Granaryref14Op.mk (1 : Int) p0 (ApiMsg.mk (0 : UInt64) p1 p2 (0 : UInt64) p3 (0 : Int) (0 : UInt64)))]) (off := 0) (l' := [(Granaryref14Op.mk (1 : Int) p0 (ApiMsg.mk (0 : UInt64) p1 p2 (0 : UInt64) p3 (0 : Int) (0 : UInt64)))].length) rfl un43 ei108 rfl rfl (by rfl) rfl rfl rfl) (s1 (app rfl rfl rfl rfl bc43 (aN (f := eGranaryref14Op) (k := 3) un43 ei108 (el_full (xs := [(Granaryref14Op.mk (1 : Int) p0 (ApiMsg.mk (0 : UInt64) p1 p2 (0 : UInt64) p3 (0 : Int) (0 : UInt64)))]) rfl) hg3 rfl)) (s1 (nkr rfl) (s1 (far (k := 0) rfl fo46_0 ts43 rfl) (s0 (sto rfl rfl (sB (d' := .agg [.slc 3 9 0 ([(Granaryref14Op.mk (1 : Int) p0 (ApiMsg.mk (0 : UInt64) p1 p2 (0 : UInt64) p3 (0 : Int) (0 : UInt64)))].length) none, .slc 1 5 0 p4.length none, .d .nils]) ts43 rfl rfl rfl rfl rfl rfl rfl)) (SO.nil (finN (wc (e' := []) [0, 1, 3] [0, 1] (by kernel_rfl) rfl (by kernel_rfl)) lresN rfl))))))))
noncomputable def ref01_Out_Flag (p0 : Bool) (p1 : List UInt8) : Option ((List UInt8)) :=
 bif p0 then
 bif decide ((p1.length + [(1 : UInt8)].length) * 1 ≤ room) then
 some (p1 ++ [(1 : UInt8)])
 else none
 else
 bif decide ((p1.length + [(0 : UInt8)].length) * 1 ≤ room) then
 some (p1 ++ [(0 : UInt8)])
 else none
theorem ref01_Out_Flag_ok (p0 : Bool) (p1 : List UInt8) (r : (List UInt8)) (h0 : ref01_Out_Flag p0 p1 = some r) : CallAt Tryz.prog 86 [.ref 0 0 0, .d (eB p0)] [.box (.agg [.slc 1 1 0 p1.length none]), .row 1 (List.map eU8 p1) true] (.tuple []) [.box (.agg [.slc 2 1 0 r.length none]), .dead, .row 1 (List.map eU8 r) true] := by
 unfold ref01_Out_Flag at h0
 refine fn0 [0, 1] Tryz.func86 rfl rfl rfl rfl rfl ?_
 refine sr (sm rfl (sn (cB h0 rfl (fun h0 => ?_) (fun h0 => ?_))))
 ·obtain ⟨hg6, h0⟩ := gd h0; have q := si h0; subst q
  refine SC.region (sm rfl (sm rfl (s1 (nkr rfl) (s1 (far (k := 0) rfl fo127_0 ts125 rfl) (s1 (lod rfl (ld_box ts125 ta125 rfl rfl)) (s1 (bsn (k := 2) (ds := List.map eU8 [(1 : UInt8)]) (off := 0) (l' := [(1 : UInt8)].length) rfl un125 ei5 rfl rfl (by rfl) rfl rfl rfl) (s1 (app rfl rfl rfl rfl bc125 (aF (f := eU8) (xs := p1) (k := 3) rfl un125 ei5 rfl (el_full (xs := [(1 : UInt8)]) rfl) hg6 rfl)) (s1 (nkr rfl) (s1 (far (k := 0) rfl fo127_0 ts125 rfl) ?_)))))))))
  exact s0 (sto rfl rfl (sB (d' := .agg [.slc 3 1 0 ((p1 ++ [(1 : UInt8)]).length) none]) ts125 rfl rfl rfl rfl rfl rfl rfl)) (SO.nil (finN (wc (e' := []) [0, 1, 3] [0, 1] (by kernel_rfl) rfl (by kernel_rfl)) lresN rfl))
 ·obtain ⟨hg7, h0⟩ := gd h0; have q := si h0; subst q
  refine SC.region (sm rfl (sm rfl (s1 (nkr rfl) (s1 (far (k := 0) rfl fo127_0 ts125 rfl) (s1 (lod rfl (ld_box ts125 ta125 rfl rfl)) (s1 (bsn (k := 2) (ds := List.map eU8 [(0 : UInt8)]) (off := 0) (l' := [(0 : UInt8)].length) rfl un125 ei5 rfl rfl (by rfl) rfl rfl rfl) (s1 (app rfl rfl rfl rfl bc125 (aF (f := eU8) (xs := p1) (k := 3) rfl un125 ei5 rfl (el_full (xs := [(0 : UInt8)]) rfl) hg7 rfl)) (s1 (nkr rfl) (s1 (far (k := 0) rfl fo127_0 ts125 rfl) ?_)))))))))
  exact s0 (sto rfl rfl (sB (d' := .agg [.slc 3 1 0 ((p1 ++ [(0 : UInt8)]).length) none]) ts125 rfl rfl rfl rfl rfl rfl rfl)) (SO.nil (finN (wc (e' := []) [0, 1, 3] [0, 1] (by kernel_rfl) rfl (by kernel_rfl)) lresN rfl))
noncomputable def ref01_Out_Text (p0 : List UInt8) (p1 : List UInt8) : Option (Bool × (List UInt8)) :=
 bif (decide ((p0.length : Int) > (65535 : Int))) then
 some (false, p1)
 else
 Option.bind (ref01_Out_Num_1 (u64i (p0.length : Int)) (2 : Int) p1) fun r10 =>
 bif decide ((r10.length + p0.length) * 1 ≤ room) then
 some (true, (r10 ++ p0))
 else none
theorem ref01_Out_Text_ok (p0 : List UInt8) (p1 : List UInt8) (r : Bool × (List UInt8)) (h0 : ref01_Out_Text p0 p1 = some r) : CallAt Tryz.prog 87 [.ref 0 0 0, .d (eS p0)] [.box (.agg [.slc 1 1 0 p1.length none]), .row 1 (List.map eU8 p1) true] (.d (eB r.1)) [.box (.agg [.slc 2 1 0 r.2.length none]), .dead, .row 1 (List.map eU8 r.2) true] := by
 unfold ref01_Out_Text at h0
 refine fn0 [0, 1] Tryz.func87 rfl rfl rfl rfl rfl ?_
 refine sr (sa rfl (sn (sq (sr (sm rfl (s1 (len rfl rfl rfl (len_str un9)) (s1 (bi rfl rfl q_i64_gtr) (sn (cB h0 rfl (fun h0 => ?_) (fun h0 => ?_))))))))))
 ·have q := si h0; subst q
  exact sr (sa rfl (sn (SC.ret (finR (Wk.trans (wq (e' := [(4, .d (eB false))]) rfl) (Wk.trans (Wk.move (e' := [(4, .d (eB false))]) (os := [.box (.agg [.slc 2 1 0 p1.length none]), .row 1 (List.map eU8 p1) true]) (o := .row 1 (List.map eU8 p1) true) (σ' := [.box (.agg [.slc 2 1 0 p1.length none]), .dead, .row 1 (List.map eU8 p1) true]) 1 (Nat.le_of_ble_eq_true rfl) rfl rfl rfl rfl) (wq (e' := [(4, .d (eB false))]) rfl))) (lresT rfl lresN) rfl))))
 ·obtain ⟨r10, hq9, h0⟩ := ob h0; obtain ⟨hg11, h0⟩ := gd h0; have q := si h0; subst q
  refine sk (sr (sm rfl (sm rfl (s1 (len rfl rfl rfl (len_str un9)) (s1 (cvo rfl (cv_i64_u64 un3 un54 (p0.length : Int))) (cq [0, 1] [2] (ref01_Out_Num_1_ok (u64i (p0.length : Int)) (2 : Int) p1 _ hq9) wf rfl rfl rfl cb57 rfl rfl rfl rfl rfl rfl rfl rfl (sn (sr (sm rfl ?_)))))))))
  refine sm rfl (s1 (nkr rfl) (s1 (far (k := 0) rfl fo127_0 ts125 rfl) (s1 (lod rfl (ld_box ts125 ta125 rfl rfl)) (sm rfl (s1 (app rfl rfl rfl rfl bc9 (aF (f := eU8) (xs := r10) (k := 3) rfl un125 ei5 rfl el_str hg11 rfl)) (s1 (nkr rfl) (s1 (far (k := 0) rfl fo127_0 ts125 rfl) (s0 (sto rfl rfl (sB (d' := .agg [.slc 3 1 0 ((r10 ++ p0).length) none]) ts125 rfl rfl rfl rfl rfl rfl rfl)) (sn ?_)))))))))
  exact sr (sa rfl (sn (SC.ret (finR (Wk.trans (wq (e' := [(4, .d (eB true))]) rfl) (wc (e' := [(4, .d (eB true))]) [0, 1, 3] [0, 1] (by kernel_rfl) rfl (by kernel_rfl))) (lresT rfl lresN) rfl))))
noncomputable def ref08_put (p0 : ApiValue) (p1 : List UInt8) : Option ((List UInt8)) :=
 Option.bind (ref01_Out_Flag (p0.Kind == (0 : Int)) p1) fun r29 =>
 Option.bind (α := Bool)
 (bif (p0.Kind == (1 : Int)) then
 some (p0.Kind == (1 : Int))
 else
 some (p0.Kind == (2 : Int)))
 fun y30 =>
 bif y30 then
 Option.bind (ref01_Out_Num_1 p0.N (8 : Int) r29) fun r33 =>
 some r33
 else
 bif (p0.Kind == (3 : Int)) then
 Option.bind (ref01_Out_Num_1 p0.N (1 : Int) r29) fun r35 =>
 some r35
 else
 Option.bind (α := Bool)
 (bif (p0.Kind == (4 : Int)) then
 some (p0.Kind == (4 : Int))
 else
 some (p0.Kind == (5 : Int)))
 fun y36 =>
 bif y36 then
 Option.bind (ref01_Out_Text p0.S r29) fun (r39, r40) =>
 some r40
 else
 some r29
theorem ref08_put_ok (p0 : ApiValue) (p1 : List UInt8) (r : (List UInt8)) (h0 : ref08_put p0 p1 = some r) : CallAt Tryz.prog 58 [.ref 0 0 0, .d (eApiValue p0)] [.box (.agg [.slc 1 1 0 p1.length none]), .row 1 (List.map eU8 p1) true] (.tuple []) [.box (.agg [.slc 2 1 0 r.length none]), .dead, .row 1 (List.map eU8 r) true] := by
 unfold ref08_put at h0
 refine fn0 [0, 1] Tryz.func58 rfl rfl rfl rfl rfl ?_
 obtain ⟨r29, hq28, h0⟩ := ob h0
 refine sr (s1 (bxo (k := 2) rfl rfl rfl) (sn (sr (sm rfl (s1 (far (k := 0) rfl fo68_0 ts3 rfl) (s1 (lod rfl (ld_box ts3 ta3 rfl rfl)) (s1 (bi rfl rfl q_i64_eql) (cq [0, 1] [3] (ref01_Out_Flag_ok (p0.Kind == (0 : Int)) p1 _ hq28) wf rfl rfl rfl cb86 rfl rfl rfl rfl rfl rfl rfl rfl (sn ?_)))))))))
 refine sr (s1 (far (k := 0) rfl fo68_0 ts3 rfl) (s1 (lod rfl (ld_box ts3 ta3 rfl rfl)) (sn (SC.blk (SC.seqP h0 (fun y => ⟨mk 31 [(0, .ref 0 0 0), (3, .ref 2 0 0), (10, .d (eI p0.Kind)), (11, .d (eB y))], [.box (.agg [.slc 3 1 0 r29.length none]), .dead, .box (.d (eApiValue p0)), .row 1 (List.map eU8 r29) true]⟩) ?_ ?_)))))
 ·intro u1_31 h1
  refine sr (s1 (bi rfl rfl q_i64_eql) (sa rfl (sn (cB h1 rfl (fun h1 => ?_) (fun h1 => ?_)))))
  ·have q := si h1; subst q
   exact SC.skip ((wq rfl))
  ·have q := si h1; subst q
   exact SC.region (s1 (bi rfl rfl q_i64_eql) (sa rfl (SO.nil ((wq rfl)))))
 ·rintro y30 h0
  refine cB h0 rfl (fun h0 => ?_) (fun h0 => ?_)
  ·obtain ⟨r33, hq32, h0⟩ := ob h0; have q := si h0; subst q
   exact SC.region (sm rfl (s1 (far (k := 1) rfl fo68_1 ts54 rfl) (s1 (lod rfl (ld_box ts54 ta54 rfl rfl)) (cq [0, 3] [4] (ref01_Out_Num_1_ok p0.N (8 : Int) r29 _ hq32) wf rfl rfl rfl cb57 rfl rfl rfl rfl rfl rfl rfl rfl (SO.nil (finN (wc (e' := []) [0, 1, 4] [0, 1] (by kernel_rfl) rfl (by kernel_rfl)) lresN rfl))))))
  ·refine sr (s1 (bi rfl rfl q_i64_eql) (sa rfl (sn (cB h0 rfl (fun h0 => ?_) (fun h0 => ?_)))))
   ·obtain ⟨r35, hq34, h0⟩ := ob h0; have q := si h0; subst q
    exact SC.region (sm rfl (s1 (far (k := 1) rfl fo68_1 ts54 rfl) (s1 (lod rfl (ld_box ts54 ta54 rfl rfl)) (cq [0, 3] [4] (ref01_Out_Num_1_ok p0.N (1 : Int) r29 _ hq34) wf rfl rfl rfl cb57 rfl rfl rfl rfl rfl rfl rfl rfl (SO.nil (finN (wc (e' := []) [0, 1, 4] [0, 1] (by kernel_rfl) rfl (by kernel_rfl)) lresN rfl))))))
   ·refine SC.seqP h0 (fun y => ⟨mk 31 [(0, .ref 0 0 0), (3, .ref 2 0 0), (24, .d (eB y))], [.box (.agg [.slc 3 1 0 r29.length none]), .dead, .box (.d (eApiValue p0)), .row 1 (List.map eU8 r29) true]⟩) ?_ ?_
    ·intro u1_37 h1
     refine sr (s1 (bi rfl rfl q_i64_eql) (sa rfl (sn (cB h1 rfl (fun h1 => ?_) (fun h1 => ?_)))))
     ·have q := si h1; subst q
      exact SC.skip ((wq rfl))
     ·have q := si h1; subst q
      exact SC.region (s1 (bi rfl rfl q_i64_eql) (sa rfl (SO.nil ((wq rfl)))))
    ·rintro y36 h0
     refine cB h0 rfl (fun h0 => ?_) (fun h0 => ?_)
     ·obtain ⟨⟨r39, r40⟩, hq38, h0⟩ := ob h0; have q := si h0; subst q
      exact SC.region (sm rfl (s1 (far (k := 2) rfl fo68_2 ts9 rfl) (s1 (lod rfl (ld_box ts9 ta9 rfl rfl)) (cq [0, 3] [4] (ref01_Out_Text_ok p0.S r29 _ hq38) wf rfl rfl rfl cb87 rfl rfl rfl rfl rfl rfl rfl rfl (SO.nil (finN (wc (e' := []) [0, 1, 4] [0, 1] (by kernel_rfl) rfl (by kernel_rfl)) lresN rfl))))))
     ·have q := si h0; subst q
      exact SC.skip (finN (wc (e' := []) [0, 1, 3] [0, 1] (by kernel_rfl) rfl (by kernel_rfl)) lresN rfl)
noncomputable def ref08_Bytes (p0 : List ApiValue) : Option ((List UInt8)) :=
 Option.bind (ref01_Out_Num (u64i (p0.length : Int)) (1 : Int)) fun r75 =>
 Option.bind (α := (List UInt8))
 (Option.bind (α := (List UInt8))
 (loop (Y := Int × (List UInt8)) (W := (List UInt8)) (fun (y97, y98) =>
 bif (decide (y97 < (p0.length : Int))) then
 Option.bind (getI p0 y97) fun v106 =>
 Option.bind (ref08_put v106 y98) fun r108 =>
 some (Sum.inl ((w64 (y97 + (1 : Int))), r108))
 else
 some (Sum.inr y98)) ((0 : Int), r75))
 (fun e => some e))
 fun y92 =>
 some y92
theorem ref08_Bytes_ok (p0 : List ApiValue) (r : (List UInt8)) (h0 : ref08_Bytes p0 = some r) : CallAt Tryz.prog 18 [.d ((eL 3 eApiValue) p0)] [] (.d (eS r)) [] := by
 unfold ref08_Bytes at h0
 refine fn0 [0] Tryz.func18 rfl rfl rfl rfl rfl ?_
 obtain ⟨r75, hq74, h0⟩ := ob h0
 refine sr (s1 (asg (v := .d (eS ([] : List UInt8))) rfl) (sn (sr (s1 (bld rfl (bd127_ )) (s1 (bxo (k := 0) rfl rfl rfl) (sa rfl (sn (sr (sm rfl ?_)))))))))
 refine sm rfl (s1 (len rfl rfl rfl (len_lst un28)) (s1 (cvo rfl (cv_i64_u64 un3 un54 (p0.length : Int))) (cq [0] [1] (ref01_Out_Num_ok (u64i (p0.length : Int)) (1 : Int) _ hq74) wf rfl rfl rfl cb57 rfl rfl rfl rfl rfl rfl rfl rfl (sn (SC.seqP h0 (fun y => ⟨mk 29 [(3, .ref 0 0 0)], [.box (.agg [.slc 1 1 0 y.length none]), .row 1 (List.map eU8 y) true]⟩) ?_ ?_)))))
 ·intro u1_93 h1
  obtain ⟨u2_105, h2, h1⟩ := ob h1
  refine sr (sa rfl (sn (SC.blk (SC.loopB h2 (fun y => ⟨mk 29 [(0, .d ((eL 3 eApiValue) p0)), (3, .ref 0 0 0), (4, .d (eI y.1))], [.box (.agg [.slc 1 1 0 y.2.length none]), .row 1 (List.map eU8 y.2) true]⟩) (wq rfl) ?_))))
  intro n109
  rintro ⟨y97, y98⟩ w2_104 h3 hv3
  refine sq (sr (sm rfl (sm rfl (s1 (len rfl rfl rfl (len_lst un28)) (s1 (bi rfl rfl q_i64_lss) (sn (cB h3 rfl (fun h3 => ?_) (fun h3 => ?_))))))))
  ·obtain ⟨v106, hv106, h3⟩ := ob h3; obtain ⟨r108, hq107, h3⟩ := ob h3
   refine sk (sq (SC.blk (SC.region (sm rfl (sm rfl (sm rfl (s1 (ial rfl rfl un28 ts68 (getI_some hv106).1 (map_get (getI_some hv106).2) rfl) (s1 (lod (v := .d (eApiValue v106)) rfl (ld_rop ts68 ta68 rfl)) (cq [0, 1] [2] (ref08_put_ok v106 y98 _ hq107) wf rfl rfl rfl cb58 rfl rfl rfl rfl rfl rfl rfl rfl ?_)))))))))
   refine SO.nil ?_
   change SC _ _ _ _ _
   have q := si h3; subst q
   exact SC.region (sm rfl (s1 (bi rfl rfl q_i64_add) (sa rfl (SO.nil (lf (wc [0, 2] [0] (by kernel_rfl) rfl (by kernel_rfl)))))))
  ·have q := si h3; subst q; have q : _ = _ := hv3; subst q; have q := si h1; subst q
   exact SC.exit ((wq rfl))
 ·rintro y92 h0
  have q := si h0; subst q
  exact sr (sm rfl (s1 (nkr rfl) (s1 (far (k := 0) rfl fo127_0 ts125 rfl) (s1 (lod rfl (ld_box ts125 ta125 rfl rfl)) (s1 (cvo (v := .d (eS y92)) rfl (cv_bytes_str un125 un9 un5 (el_full (xs := y92) rfl) (fun _ hh => by cases hh))) (sa rfl (sn (SC.ret (finR (wc (e' := [(2, .d (eS y92))]) [] [] (by kernel_rfl) rfl (by kernel_rfl)) (lresT rfl lresN) rfl)))))))))
noncomputable def ref19_Kept (p0 : ApiIndex) (p1 : Granaryref19Built) (p2 : List UInt8) : Option Bool :=
 Option.bind (α := Bool)
 (bif p0.Ready then
 some true
 else
 bif p1.Any then
 some (ltS p2 p1.Key || p2 == p1.Key)
 else
 some false)
 fun y6 =>
 some y6
theorem ref19_Kept_ok (p0 : ApiIndex) (p1 : Granaryref19Built) (p2 : List UInt8) (r : Bool) (h0 : ref19_Kept p0 p1 p2 = some r) : CallAt Tryz.prog 41 [.d (eApiIndex p0), .d (eGranaryref19Built p1), .d (eS p2)] [] (.d (eB r)) [] := by
 unfold ref19_Kept at h0
 refine fn0 [0, 1, 2] Tryz.func41 rfl rfl rfl rfl rfl ?_
 refine sr (s1 (bxo (k := 0) rfl rfl rfl) (s1 (bxo (k := 1) rfl rfl rfl) (sa rfl (sn (SC.seqP h0 (fun y => ⟨mk 19 [(6, .d (eB y))], []⟩) ?_ ?_)))))
 ·intro u1_7 h1
  refine SC.region (s1 (far (k := 4) rfl fo82_4 ts4 rfl) (s1 (lod rfl (ld_box ts4 ta4 rfl rfl)) (sm rfl (sp h1 (fun h1 => ?_) (fun h1 => ?_)))))
  ·have q := si h1; subst q
   refine kw rfl (kw rfl (kw rfl (kw rfl (kw rfl (kw rfl (kw rfl (kw rfl (s1 (pkt rfl rfl) (sa rfl ?_)))))))))
   exact SO.nil ((wc [] [] (by kernel_rfl) rfl (by kernel_rfl)))
  ·refine gw rfl (far (k := 1) rfl fo105_1 ts4 rfl) (gw rfl (lod rfl (ld_box ts4 ta4 rfl rfl)) (gw rfl (mv rfl) (sp h1 (fun h1 => ?_) (fun h1 => ?_))))
   ·have q := si h1; subst q
    exact gw rfl (mv rfl) (gw rfl (far (k := 0) rfl fo105_0 ts9 rfl) (gw rfl (lod rfl (ld_box ts9 ta9 rfl rfl)) (gw rfl (bi rfl rfl q_str_leq) (gw rfl (pkt rfl rfl) (s1 (pkf rfl rfl) (sa rfl (SO.nil ((wc [] [] (by kernel_rfl) rfl (by kernel_rfl))))))))))
   ·have q := si h1; subst q
    exact kw rfl (kw rfl (kw rfl (kw rfl (gw rfl (pkf rfl rfl) (s1 (pkf rfl rfl) (sa rfl (SO.nil ((wc [] [] (by kernel_rfl) rfl (by kernel_rfl))))))))))
 ·rintro y6 h0
  have q := si h0; subst q
  exact SC.ret (finR (Wk.refl _) (lresT rfl lresN) rfl)
noncomputable def ref17_Front (p0 : ApiIndex) (p1 : List ApiValue) : Option ((List UInt8) × Bool) :=
 Option.bind (ref17_keyed p0.Parts p1) fun (r10, r11) =>
 some (r10, r11)
theorem ref17_Front_ok (p0 : ApiIndex) (p1 : List ApiValue) (r : (List UInt8) × Bool) (h0 : ref17_Front p0 p1 = some r) : CallAt Tryz.prog 75 [.d (eApiIndex p0), .d ((eL 3 eApiValue) p1)] [] (.tuple [.d (eS r.1), .d (eB r.2)]) [] := by
 unfold ref17_Front at h0
 refine fn0 [0, 1] Tryz.func75 rfl rfl rfl rfl rfl ?_
 obtain ⟨⟨r10, r11⟩, hq9, h0⟩ := ob h0; have q := si h0; subst q
 refine sr (s1 (bxo (k := 0) rfl rfl rfl) (s1 (asg (v := .d (eS ([] : List UInt8))) rfl) (sa rfl (sn (sr (s1 (far (k := 1) rfl fo82_1 ts80 rfl) (s1 (lod rfl (ld_box ts80 ta80 rfl rfl)) (sm rfl (c0 (ref17_keyed_ok p0.Parts p1 _ hq9) wf rfl rfl rfl cb73 rfl (fun _ => rfl) (fun _ => rfl) ?_)))))))))
 exact s1 (ext rfl rfl) (s1 (ext rfl rfl) (sa rfl (sa rfl (sn (SC.ret (finR (wc (e' := [(4, .d (eS r10)), (5, .d (eB r11))]) [] [] (by kernel_rfl) rfl (by kernel_rfl)) (lresT rfl (lresT rfl lresN)) rfl))))))
end Lv
