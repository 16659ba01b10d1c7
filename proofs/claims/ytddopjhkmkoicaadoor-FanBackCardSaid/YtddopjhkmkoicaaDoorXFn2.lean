/- Part of the proof of a law: functions and their walks. -/
import Derived.Test.YtddopjhkmkoicaaDoorXFn1
namespace Lv
open Go Go.Proofs
set_option linter.unusedVariables false
set_option linter.unusedSimpArgs false
set_option linter.unusedSectionVars false
set_option maxRecDepth 100000
variable [BaseTab] [TabOk]
noncomputable def ref17_wide (p0 : ApiColumn) (p1 : Int) : Option Int :=
 Option.bind (α := Bool)
 (bif (p0.Kind == (1 : Int)) then
 some (p0.Kind == (1 : Int))
 else
 some (p0.Kind == (2 : Int)))
 fun y6 =>
 bif y6 then
 some (9 : Int)
 else
 bif (p0.Kind == (3 : Int)) then
 some (2 : Int)
 else
 some (w64 ((3 : Int) + (w64 (p1 * p0.Max))))
theorem ref17_wide_ok (p0 : ApiColumn) (p1 : Int) (r : Int) (h0 : ref17_wide p0 p1 = some r) : CallAt Tryd.prog 35 [.d (eApiColumn p0), .d (eI p1)] [] (.d (eI r)) [] := by
 unfold ref17_wide at h0
 refine fn0 [0, 1] Tryd.func35 rfl rfl rfl rfl rfl ?_
 refine sr (s1 (bxo (k := 0) rfl rfl rfl) (sa rfl (sn (sq (sr (s1 (far (k := 1) rfl fo74_1 ts3 rfl) (s1 (lod rfl (ld_box ts3 ta3 rfl rfl)) (sn (SC.blk ?_)))))))))
 refine SC.seqP h0 (fun y => ⟨mk 17 [(1, .d (eI p1)), (2, .ref 0 0 0), (6, .d (eI p0.Kind)), (7, .d (eB y))], [.box (.d (eApiColumn p0))]⟩) ?_ ?_
 ·intro u1_7 h1
  refine sr (s1 (bi rfl rfl q_i64_eql) (sa rfl (sn (cB h1 rfl (fun h1 => ?_) (fun h1 => ?_)))))
  ·have q := si h1; subst q
   exact SC.skip ((wq rfl))
  ·have q := si h1; subst q
   exact SC.region (s1 (bi rfl rfl q_i64_eql) (sa rfl (SO.nil ((wq rfl)))))
 ·rintro y6 h0
  refine cB h0 rfl (fun h0 => ?_) (fun h0 => ?_)
  ·have q := si h0; subst q
   exact sr (sa rfl (sn (SC.ret (finR (wc (e' := [(4, .d (eI (9 : Int)))]) [] [] (by kernel_rfl) rfl (by kernel_rfl)) (lresT rfl lresN) rfl))))
  ·refine sr (s1 (bi rfl rfl q_i64_eql) (sa rfl (sn (cB h0 rfl (fun h0 => ?_) (fun h0 => ?_)))))
   ·have q := si h0; subst q
    exact sr (sa rfl (sn (SC.ret (finR (wc (e' := [(4, .d (eI (2 : Int)))]) [] [] (by kernel_rfl) rfl (by kernel_rfl)) (lresT rfl lresN) rfl))))
   ·refine SC.skip ?_
    change SC _ _ _ _ _
    have q := si h0; subst q
    exact sr (sm rfl (s1 (far (k := 2) rfl fo74_2 ts3 rfl) (s1 (lod rfl (ld_box ts3 ta3 rfl rfl)) (s1 (bi rfl rfl q_i64_mul) (s1 (bi rfl rfl q_i64_add) (sa rfl (sn (SC.ret (finR (wc (e' := [(4, .d (eI (w64 ((3 : Int) + (w64 (p1 * p0.Max))))))]) [] [] (by kernel_rfl) rfl (by kernel_rfl)) (lresT rfl lresN) rfl)))))))))
noncomputable def ref17_RowMax (p0 : List ApiColumn) : Option Int :=
 Option.bind (α := Int)
 (Option.bind (α := Int)
 (loop (Y := Int × Int) (W := Int) (fun (y91, y92) =>
 bif (decide (y92 < (p0.length : Int))) then
 Option.bind (getI p0 y92) fun v100 =>
 Option.bind (ref17_wide v100 (1 : Int)) fun r102 =>
 some (Sum.inl ((w64 (y91 + r102)), (w64 (y92 + (1 : Int)))))
 else
 some (Sum.inr y91)) ((1 : Int), (0 : Int)))
 (fun e => some e))
 fun y86 =>
 some y86
theorem ref17_RowMax_ok (p0 : List ApiColumn) (r : Int) (h0 : ref17_RowMax p0 = some r) : CallAt Tryd.prog 18 [.d ((eL 7 eApiColumn) p0)] [] (.d (eI r)) [] := by
 unfold ref17_RowMax at h0
 refine fn0 [0] Tryd.func18 rfl rfl rfl rfl rfl ?_
 refine sr (sa rfl (sn (sr (sa rfl (sn (SC.seqP h0 (fun y => ⟨mk 19 [(3, .d (eI y))], []⟩) ?_ ?_))))))
 ·intro u1_87 h1
  obtain ⟨u2_99, h2, h1⟩ := ob h1
  refine sr (sa rfl (sn (SC.blk (SC.loopB h2 (fun y => ⟨mk 19 [(0, .d ((eL 7 eApiColumn) p0)), (3, .d (eI y.1)), (4, .d (eI y.2))], []⟩) (wq rfl) ?_))))
  intro n103
  rintro ⟨y91, y92⟩ w2_98 h3 hv3
  refine sq (sr (sm rfl (sm rfl (s1 (len rfl rfl rfl (len_lst un22)) (s1 (bi rfl rfl q_i64_lss) (sn (cB h3 rfl (fun h3 => ?_) (fun h3 => ?_))))))))
  ·obtain ⟨v100, hv100, h3⟩ := ob h3; obtain ⟨r102, hq101, h3⟩ := ob h3
   refine sk (sq (SC.blk (SC.region (sm rfl (sm rfl (sm rfl (s1 (ial rfl rfl un22 ts74 (getI_some hv100).1 (map_get (getI_some hv100).2) rfl) (s1 (lod (v := .d (eApiColumn v100)) rfl (ld_rop ts74 ta74 rfl)) (c0 (ref17_wide_ok v100 (1 : Int) _ hq101) wf rfl rfl rfl cb35 rfl (fun _ => rfl) (fun _ => rfl) ?_)))))))))
   refine s1 (bi rfl rfl q_i64_add) (sa rfl (SO.nil ?_))
   change SC _ _ _ _ _
   have q := si h3; subst q
   exact SC.region (sm rfl (s1 (bi rfl rfl q_i64_add) (sa rfl (SO.nil (lf (wq rfl))))))
  ·have q := si h3; subst q; have q : _ = _ := hv3; subst q; have q := si h1; subst q
   exact SC.exit ((wq rfl))
 ·rintro y86 h0
  have q := si h0; subst q
  exact sr (sm rfl (sa rfl (sn (SC.ret (finR (Wk.refl _) (lresT rfl lresN) rfl)))))
noncomputable def ref17_Up (p0 : List Int) : Option ((List ApiPart)) :=
 Option.bind (α := (List ApiPart))
 (Option.bind (α := (List ApiPart))
 (loop (Y := (List ApiPart) × Int) (W := (List ApiPart)) (fun (y75, y76) =>
 bif (decide (y76 < (p0.length : Int))) then
 Option.bind (getI p0 y76) fun v83 =>
 bif decide ((y75.length + [(ApiPart.mk v83 false)].length) * 16 ≤ room) then
 some (Sum.inl ((y75 ++ [(ApiPart.mk v83 false)]), (w64 (y76 + (1 : Int)))))
 else none
 else
 some (Sum.inr y75)) (([] : List ApiPart), (0 : Int)))
 (fun e => some e))
 fun y71 =>
 some y71
theorem ref17_Up_ok (p0 : List Int) (r : (List ApiPart)) (h0 : ref17_Up p0 = some r) : CallAt Tryd.prog 20 [.d ((eL 1 eI) p0)] [] (.d ((eL 2 eApiPart) r)) [] := by
 unfold ref17_Up at h0
 refine fn0 [0] Tryd.func20 rfl rfl rfl rfl rfl ?_
 refine sr (s1 (asg (v := .d .nils) rfl) (sn (sr (s1 (asg (v := .d .nils) rfl) (sn (SC.seqP h0 (fun y => ⟨mk 20 [(3, .slc 0 2 0 y.length none)], [.row 2 (List.map eApiPart y) true]⟩) ?_ ?_))))))
 ·intro u1_72 h1
  obtain ⟨u2_82, h2, h1⟩ := ob h1
  refine sr (sa rfl (sn (SC.blk (SC.loopB h2 (fun y => ⟨mk 20 [(0, .d ((eL 1 eI) p0)), (3, .slc 0 2 0 y.1.length none), (4, .d (eI y.2))], [.row 2 (List.map eApiPart y.1) true]⟩) (Wk.trans (Wk.pushE (σ' := [.row 2 (List.map eApiPart ([] : List ApiPart)) true]) (.row 2 [] true) (fun _ hh => by cases hh) rfl) (Wk.trans (Wk.env (e' := [(0, .d ((eL 1 eI) p0)), (3, .slc 0 2 0 (([] : List ApiPart).length) none), (4, .d (eI (0 : Int)))]) (EW.cons (AW.refl _) (EW.cons (AW.slcn _ _ _) (EW.cons (AW.refl _) EW.nil)))) (wq rfl))) ?_))))
  intro n85
  rintro ⟨y75, y76⟩ w2_81 h3 hv3
  refine sq (sr (sm rfl (sm rfl (s1 (len rfl rfl rfl (len_lst un23)) (s1 (bi rfl rfl q_i64_lss) (sn (cB h3 rfl (fun h3 => ?_) (fun h3 => ?_))))))))
  ·obtain ⟨v83, hv83, h3⟩ := ob h3; obtain ⟨hg84, h3⟩ := gd h3
   refine sk (sq (SC.blk (SC.region (sm rfl (sm rfl (sm rfl (s1 (ial rfl rfl un23 ts3 (getI_some hv83).1 (map_get (getI_some hv83).2) rfl) (s1 (lod rfl (ld_rop ts3 ta3 rfl)) (s1 (bld rfl (bd76_0 v83)) ?_)))))))))
   refine s1 (bsn (k := 1) (ds := List.map eApiPart [(ApiPart.mk v83 false)]) (off := 0) (l' := [(ApiPart.mk v83 false)].length) rfl un40 ei76 rfl rfl (by rfl) rfl rfl rfl) (s1 (app rfl rfl rfl rfl bc40 (aF (f := eApiPart) (xs := y75) (k := 2) rfl un40 ei76 rfl (el_full (xs := [(ApiPart.mk v83 false)]) rfl) hg84 rfl)) (sa rfl (SO.nil ?_)))
   change SC _ _ _ _ _
   have q := si h3; subst q
   exact SC.region (sm rfl (s1 (bi rfl rfl q_i64_add) (sa rfl (SO.nil (lf (wc [2] [2] (by kernel_rfl) rfl (by kernel_rfl)))))))
  ·have q := si h3; subst q; have q : _ = _ := hv3; subst q; have q := si h1; subst q
   exact SC.exit ((wq rfl))
 ·rintro y71 h0
  have q := si h0; subst q
  exact sr (sm rfl (sa rfl (sn (SC.ret (finR (Wk.trans (Wk.frz (i := 2) (x := .slc 0 2 0 y71.length none) rfl rfl (fF rfl rfl rfl)) (wc (e' := [(2, .d ((eL 2 eApiPart) y71))]) [] [] (by kernel_rfl) rfl (by kernel_rfl))) (lresT rfl lresN) rfl)))))
noncomputable def ref17_KeyMax (p0 : List ApiColumn) (p1 : List ApiPart) : Option Int :=
 Option.bind (α := Int)
 (Option.bind (α := Int)
 (loop (Y := Int × Int) (W := Int) (fun (y107, y108) =>
 bif (decide (y108 < (p1.length : Int))) then
 Option.bind (getI p1 y108) fun v117 =>
 Option.bind (getI p0 v117.Col) fun v118 =>
 Option.bind (ref17_wide v118 (2 : Int)) fun r120 =>
 some (Sum.inl ((w64 (y107 + r120)), (w64 (y108 + (1 : Int)))))
 else
 some (Sum.inr y107)) ((0 : Int), (0 : Int)))
 (fun e => some e))
 fun y101 =>
 some y101
theorem ref17_KeyMax_ok (p0 : List ApiColumn) (p1 : List ApiPart) (r : Int) (h0 : ref17_KeyMax p0 p1 = some r) : CallAt Tryd.prog 19 [.d ((eL 7 eApiColumn) p0), .d ((eL 2 eApiPart) p1)] [] (.d (eI r)) [] := by
 unfold ref17_KeyMax at h0
 refine fn0 [0, 1] Tryd.func19 rfl rfl rfl rfl rfl ?_
 refine sr (sa rfl (sn (sr (sa rfl (sn (SC.seqP h0 (fun y => ⟨mk 25 [(5, .d (eI y))], []⟩) ?_ ?_))))))
 ·intro u1_102 h1
  obtain ⟨u2_116, h2, h1⟩ := ob h1
  refine sr (sa rfl (sn (SC.blk (SC.loopB h2 (fun y => ⟨mk 25 [(0, .d ((eL 7 eApiColumn) p0)), (1, .d ((eL 2 eApiPart) p1)), (5, .d (eI y.1)), (6, .d (eI y.2))], []⟩) (wq rfl) ?_))))
  intro n121
  rintro ⟨y107, y108⟩ w2_115 h3 hv3
  refine sq (sr (sm rfl (sm rfl (s1 (len rfl rfl rfl (len_lst un40)) (s1 (bi rfl rfl q_i64_lss) (sn (cB h3 rfl (fun h3 => ?_) (fun h3 => ?_))))))))
  ·obtain ⟨v117, hv117, h3⟩ := ob h3; obtain ⟨v118, hv118, h3⟩ := ob h3; obtain ⟨r120, hq119, h3⟩ := ob h3
   refine sk (sq (SC.blk (SC.region (sm rfl (sm rfl (sm rfl (sm rfl (s1 (ial rfl rfl un40 ts76 (getI_some hv117).1 (map_get (getI_some hv117).2) rfl) (s1 (fap rfl fo76_0 ts3 rfl) ?_)))))))))
   refine s1 (lod rfl (ld_rop ts3 ta3 rfl)) (s1 (ial rfl rfl un22 ts74 (getI_some hv118).1 (map_get (getI_some hv118).2) rfl) (s1 (lod (v := .d (eApiColumn v118)) rfl (ld_rop ts74 ta74 rfl)) (c0 (ref17_wide_ok v118 (2 : Int) _ hq119) wf rfl rfl rfl cb35 rfl (fun _ => rfl) (fun _ => rfl) (s1 (bi rfl rfl q_i64_add) (sa rfl (SO.nil ?_))))))
   change SC _ _ _ _ _
   have q := si h3; subst q
   exact SC.region (sm rfl (s1 (bi rfl rfl q_i64_add) (sa rfl (SO.nil (lf (wq rfl))))))
  ·have q := si h3; subst q; have q : _ = _ := hv3; subst q; have q := si h1; subst q
   exact SC.exit ((wq rfl))
 ·rintro y101 h0
  have q := si h0; subst q
  exact sr (sm rfl (sa rfl (sn (SC.ret (finR (Wk.refl _) (lresT rfl lresN) rfl)))))
noncomputable def ref17_Cols (p0 : List ApiPart) : Option ((List Int)) :=
 Option.bind (α := (List Int))
 (Option.bind (α := (List Int))
 (loop (Y := (List Int) × Int) (W := (List Int)) (fun (y75, y76) =>
 bif (decide (y76 < (p0.length : Int))) then
 Option.bind (getI p0 y76) fun v83 =>
 bif decide ((y75.length + [v83.Col].length) * 8 ≤ room) then
 some (Sum.inl ((y75 ++ [v83.Col]), (w64 (y76 + (1 : Int)))))
 else none
 else
 some (Sum.inr y75)) (([] : List Int), (0 : Int)))
 (fun e => some e))
 fun y71 =>
 some y71
theorem ref17_Cols_ok (p0 : List ApiPart) (r : (List Int)) (h0 : ref17_Cols p0 = some r) : CallAt Tryd.prog 36 [.d ((eL 2 eApiPart) p0)] [] (.d ((eL 1 eI) r)) [] := by
 unfold ref17_Cols at h0
 refine fn0 [0] Tryd.func36 rfl rfl rfl rfl rfl ?_
 refine sr (s1 (asg (v := .d .nils) rfl) (sn (sr (s1 (asg (v := .d .nils) rfl) (sn (SC.seqP h0 (fun y => ⟨mk 20 [(3, .slc 0 1 0 y.length none)], [.row 1 (List.map eI y) true]⟩) ?_ ?_))))))
 ·intro u1_72 h1
  obtain ⟨u2_82, h2, h1⟩ := ob h1
  refine sr (sa rfl (sn (SC.blk (SC.loopB h2 (fun y => ⟨mk 20 [(0, .d ((eL 2 eApiPart) p0)), (3, .slc 0 1 0 y.1.length none), (4, .d (eI y.2))], [.row 1 (List.map eI y.1) true]⟩) (Wk.trans (Wk.pushE (σ' := [.row 1 (List.map eI ([] : List Int)) true]) (.row 1 [] true) (fun _ hh => by cases hh) rfl) (Wk.trans (Wk.env (e' := [(0, .d ((eL 2 eApiPart) p0)), (3, .slc 0 1 0 (([] : List Int).length) none), (4, .d (eI (0 : Int)))]) (EW.cons (AW.refl _) (EW.cons (AW.slcn _ _ _) (EW.cons (AW.refl _) EW.nil)))) (wq rfl))) ?_))))
  intro n85
  rintro ⟨y75, y76⟩ w2_81 h3 hv3
  refine sq (sr (sm rfl (sm rfl (s1 (len rfl rfl rfl (len_lst un40)) (s1 (bi rfl rfl q_i64_lss) (sn (cB h3 rfl (fun h3 => ?_) (fun h3 => ?_))))))))
  ·obtain ⟨v83, hv83, h3⟩ := ob h3; obtain ⟨hg84, h3⟩ := gd h3
   refine sk (sq (SC.blk (SC.region (sm rfl (sm rfl (sm rfl (s1 (ial rfl rfl un40 ts76 (getI_some hv83).1 (map_get (getI_some hv83).2) rfl) (s1 (fap rfl fo76_0 ts3 rfl) (s1 (lod rfl (ld_rop ts3 ta3 rfl)) ?_)))))))))
   refine s1 (bsn (k := 1) (ds := List.map eI [v83.Col]) (off := 0) (l' := [v83.Col].length) rfl un23 ei3 rfl rfl (by rfl) rfl rfl rfl) (s1 (app rfl rfl rfl rfl bc23 (aF (f := eI) (xs := y75) (k := 2) rfl un23 ei3 rfl (el_full (xs := [v83.Col]) rfl) hg84 rfl)) (sa rfl (SO.nil ?_)))
   change SC _ _ _ _ _
   have q := si h3; subst q
   exact SC.region (sm rfl (s1 (bi rfl rfl q_i64_add) (sa rfl (SO.nil (lf (wc [2] [2] (by kernel_rfl) rfl (by kernel_rfl)))))))
  ·have q := si h3; subst q; have q : _ = _ := hv3; subst q; have q := si h1; subst q
   exact SC.exit ((wq rfl))
 ·rintro y71 h0
  have q := si h0; subst q
  exact sr (sm rfl (sa rfl (sn (SC.ret (finR (Wk.trans (Wk.frz (i := 2) (x := .slc 0 1 0 y71.length none) rfl rfl (fF rfl rfl rfl)) (wc (e' := [(2, .d ((eL 1 eI) y71))]) [] [] (by kernel_rfl) rfl (by kernel_rfl))) (lresT rfl lresN) rfl)))))
noncomputable def ref17_index (p0 : ApiTable) (p1 : ApiIndex) : Option Int :=
 Option.bind (α := Bool)
 (bif (decide ((p1.Parts.length : Int) < (1 : Int))) then
 some true
 else
 bif (decide ((p1.Parts.length : Int) > (4 : Int))) then
 some true
 else
 Option.bind (ref17_Cols p1.Parts) fun r281 =>
 Option.bind (ref17_places (p0.Cols.length : Int) r281) fun r283 =>
 bif (!r283) then
 some true
 else
 Option.bind (ref17_places (p0.Cols.length : Int) p1.Extra) fun r285 =>
 some (!r285))
 fun y278 =>
 bif y278 then
 some (1 : Int)
 else
 bindE (Y := Unit) (E := Int)
 (Option.bind (α := Unit ⊕ Int)
 (loop (Y := Int) (W := Unit ⊕ Int) (fun y364 =>
 bif (decide (y364 < (p1.Extra.length : Int))) then
 Option.bind (α := Bool)
 (Option.bind (ref17_Cols p1.Parts) fun r397 =>
 Option.bind (getI p1.Extra y364) fun v398 =>
 Option.bind (ref17_Has r397 v398) fun r400 =>
 bif r400 then
 some true
 else
 Option.bind (getI p1.Extra y364) fun v401 =>
 Option.bind (ref17_Has p0.Primary v401) fun r403 =>
 some r403)
 fun y394 =>
 bif y394 then
 some (Sum.inr (Sum.inr (1 : Int)))
 else
 some (Sum.inl (w64 (y364 + (1 : Int))))
 else
 some (Sum.inr (Sum.inl ()))) (0 : Int))
 (Sum.elim (fun e => some (Sum.inl e)) (fun e => some (Sum.inr e))))
 (fun _ =>
 Option.bind (ref17_KeyMax p0.Cols p1.Parts) fun r406 =>
 bif (decide (r406 > (128 : Int))) then
 some (7 : Int)
 else
 some (0 : Int))
 (fun e => some e)
theorem ref17_index_ok (p0 : ApiTable) (p1 : ApiIndex) (r : Int) (h0 : ref17_index p0 p1 = some r) : CallAt Tryd.prog 21 [.d (eApiTable p0), .d (eApiIndex p1)] [] (.d (eI r)) [] := by
 unfold ref17_index at h0
 refine fn0 [0, 1] Tryd.func21 rfl rfl rfl rfl rfl ?_
 refine sr (s1 (bxo (k := 0) rfl rfl rfl) (s1 (bxo (k := 1) rfl rfl rfl) (sa rfl (sn (sr (s1 (far (k := 1) rfl fo26_1 ts22 rfl) (s1 (lod rfl (ld_box ts22 ta22 rfl rfl)) (s1 (len rfl rfl rfl (len_lst un22)) (sa rfl ?_)))))))))
 refine sn (sq (SC.seqP h0 (fun y => ⟨mk 67 [(2, .ref 0 0 0), (3, .ref 1 0 0), (34, .d (eB y))], [.box (.d (eApiTable p0)), .box (.d (eApiIndex p1))]⟩) ?_ ?_))
 ·intro u1_279 h1
  refine SC.region (s1 (far (k := 1) rfl fo42_1 ts40 rfl) (s1 (lod rfl (ld_box ts40 ta40 rfl rfl)) (s1 (len rfl rfl rfl (len_lst un40)) (s1 (bi rfl rfl q_i64_lss) (sm rfl (sp h1 (fun h1 => ?_) (fun h1 => ?_)))))))
  ·have q := si h1; subst q
   refine kw rfl (kw rfl (kw rfl (kw rfl (s1 (pkt rfl rfl) (sm rfl (kw rfl (kw rfl (kw rfl (kw rfl ?_)))))))))
   refine kw rfl (kw rfl (s1 (pkt rfl rfl) (sm rfl (kw rfl (kw rfl (kw rfl (kw rfl (kw rfl (s1 (pkt rfl rfl) ?_)))))))))
   exact SO.nil ((wq rfl))
  ·refine gw rfl (far (k := 1) rfl fo42_1 ts40 rfl) (gw rfl (lod rfl (ld_box ts40 ta40 rfl rfl)) (gw rfl (len rfl rfl rfl (len_lst un40)) (gw rfl (bi rfl rfl q_i64_gtr) (s1 (pkf rfl rfl) (sm rfl (sp h1 (fun h1 => ?_) (fun h1 => ?_)))))))
   ·have q := si h1; subst q
    refine kw rfl (kw rfl (kw rfl (kw rfl (kw rfl (kw rfl (s1 (pkt rfl rfl) (sm rfl (kw rfl (kw rfl ?_)))))))))
    exact kw rfl (kw rfl (kw rfl (s1 (pkt rfl rfl) (SO.nil ((wq rfl))))))
   ·obtain ⟨r281, hq280, h1⟩ := ob h1; obtain ⟨r283, hq282, h1⟩ := ob h1
    refine gw rfl (mv rfl) (gw rfl (far (k := 1) rfl fo42_1 ts40 rfl) (gw rfl (lod rfl (ld_box ts40 ta40 rfl rfl)) (c0 (ref17_Cols_ok p1.Parts _ hq280) (ww rfl) rfl rfl rfl cb36 rfl (fun _ => rfl) (fun _ => rfl) (c0 (ref17_places_ok (p0.Cols.length : Int) r281 _ hq282) (ww rfl) rfl rfl rfl cb17 rfl (fun _ => rfl) (fun _ => rfl) (gw rfl (nt rfl) (s1 (pkf rfl rfl) (sm rfl (sp h1 (fun h1 => ?_) (fun h1 => ?_)))))))))
    ·have q := si h1; subst q
     exact kw rfl (kw rfl (kw rfl (kw rfl (kw rfl (s1 (pkt rfl rfl) (SO.nil ((wq rfl))))))))
    ·obtain ⟨r285, hq284, h1⟩ := ob h1; have q := si h1; subst q
     exact gw rfl (mv rfl) (gw rfl (far (k := 2) rfl fo42_2 ts23 rfl) (gw rfl (lod rfl (ld_box ts23 ta23 rfl rfl)) (c0 (ref17_places_ok (p0.Cols.length : Int) p1.Extra _ hq284) (ww rfl) rfl rfl rfl cb17 rfl (fun _ => rfl) (fun _ => rfl) (gw rfl (nt rfl) (s1 (pkf rfl rfl) (SO.nil ((wq rfl))))))))
 ·rintro y278 h0
  refine cB h0 rfl (fun h0 => ?_) (fun h0 => ?_)
  ·have q := si h0; subst q
   exact sr (sa rfl (sn (SC.ret (finR (wc (e' := [(4, .d (eI (1 : Int)))]) [] [] (by kernel_rfl) rfl (by kernel_rfl)) (lresT rfl lresN) rfl))))
  ·refine sk (SC.seqB h0 (fun y => ⟨mk 67 [(2, .ref 0 0 0), (3, .ref 1 0 0)], [.box (.d (eApiTable p0)), .box (.d (eApiIndex p1))]⟩) ?_ ?_)
   ·intro u1_345 h1 h0
    obtain ⟨u2_385, h2, h1⟩ := ob h1
    refine sr (sa rfl (sn (SC.blk (SC.loopB h2 (fun y => ⟨mk 67 [(2, .ref 0 0 0), (3, .ref 1 0 0), (6, .d (eI y))], [.box (.d (eApiTable p0)), .box (.d (eApiIndex p1))]⟩) (wq rfl) ?_))))
    intro n404
    rintro y364 w2_384 h3 hv3
    refine sq (sr (sm rfl (s1 (far (k := 2) rfl fo42_2 ts23 rfl) (s1 (lod rfl (ld_box ts23 ta23 rfl rfl)) (s1 (len rfl rfl rfl (len_lst un23)) (s1 (bi rfl rfl q_i64_lss) (sn (cB h3 rfl (fun h3 => ?_) (fun h3 => ?_)))))))))
    ·refine sk (sq (SC.blk (SC.seqP h3 (fun y => ⟨mk 67 [(2, .ref 0 0 0), (3, .ref 1 0 0), (6, .d (eI y364)), (60, .d (eB y))], [.box (.d (eApiTable p0)), .box (.d (eApiIndex p1))]⟩) ?_ ?_)))
     ·intro u4_395 h4
      obtain ⟨r397, hq396, h4⟩ := ob h4; obtain ⟨v398, hv398, h4⟩ := ob h4; obtain ⟨r400, hq399, h4⟩ := ob h4
      refine SC.draws (by kernel_rfl) (t1 ([], false) (far (k := 1) rfl fo42_1 ts40 rfl) rfl (t1 ([1], false) (lod rfl (ld_box ts40 ta40 rfl rfl)) rfl (tc0 (ref17_Cols_ok p1.Parts _ hq396) wf rfl rfl rfl cb36 rfl (fun _ => rfl) (fun _ => rfl) (t1 ([], false) (far (k := 2) rfl fo42_2 ts23 rfl) rfl (t1 ([1], false) (lod rfl (ld_box ts23 ta23 rfl rfl)) rfl (t1 ([], false) (mv rfl) rfl (t1 ([], false) (ial rfl rfl un23 ts3 (getI_some hv398).1 (map_get (getI_some hv398).2) rfl) rfl (t1 ([], false) (lod rfl (ld_rop ts3 ta3 rfl)) rfl (tc0 (ref17_Has_ok r397 v398 _ hq399) wf rfl rfl rfl cb34 rfl (fun _ => rfl) (fun _ => rfl) ?_)))))))))
      refine t1 ([], false) (mv rfl) rfl (tp h4 (fun h4 => ?_) (fun h4 => ?_))
      ·have q := si h4; subst q
       refine jw rfl (jw rfl (jw rfl (jw rfl (jw rfl (jw rfl (jw rfl (jw rfl (t1 ([], false) (pkt rfl rfl) rfl (ST.nil (And.intro (by decide +kernel) ?_))))))))))
       exact (wq rfl)
      ·obtain ⟨v401, hv401, h4⟩ := ob h4; obtain ⟨r403, hq402, h4⟩ := ob h4; have q := si h4; subst q
       refine u1 ([], false) (ww rfl) (far (k := 2) rfl fo26_2 ts23 rfl) rfl (u1 ([0], false) (ww rfl) (lod rfl (ld_box ts23 ta23 rfl rfl)) rfl (u1 ([], false) (ww rfl) (far (k := 2) rfl fo42_2 ts23 rfl) rfl (u1 ([1], false) (ww rfl) (lod rfl (ld_box ts23 ta23 rfl rfl)) rfl (u1 ([], false) (ww rfl) (mv rfl) rfl (u1 ([], false) (ww rfl) (ial rfl rfl un23 ts3 (getI_some hv401).1 (map_get (getI_some hv401).2) rfl) rfl (u1 ([], false) (ww rfl) (lod rfl (ld_rop ts3 ta3 rfl)) rfl (tc0 (ref17_Has_ok p0.Primary v401 _ hq402) (ww rfl) rfl rfl rfl cb34 rfl (fun _ => rfl) (fun _ => rfl) (t1 ([], false) (pkf rfl rfl) rfl (ST.nil (And.intro (by decide +kernel) ?_))))))))))
       exact (wq rfl)
     ·rintro y394 h3
      refine cB h3 rfl (fun h3 => ?_) (fun h3 => ?_)
      ·have q := si h3; subst q; have q : _ = _ := hv3; subst q; have q := si h1; subst q; have q := si h0; subst q
       exact sr (sa rfl (sn (SC.ret (finR (wc (e' := [(4, .d (eI (1 : Int)))]) [] [] (by kernel_rfl) rfl (by kernel_rfl)) (lresT rfl lresN) rfl))))
      ·refine SC.skip ?_
       change SC _ _ _ _ _
       have q := si h3; subst q
       exact SC.region (sm rfl (s1 (bi rfl rfl q_i64_add) (sa rfl (SO.nil (lf (wq rfl))))))
    ·have q := si h3; subst q; have q : _ = _ := hv3; subst q; have q := si h1; subst q
     exact SC.exit (lf (wq rfl))
   ·intro _ h0
    obtain ⟨r406, hq405, h0⟩ := ob h0
    refine sq (sr (s1 (far (k := 1) rfl fo26_1 ts22 rfl) (s1 (lod rfl (ld_box ts22 ta22 rfl rfl)) (s1 (far (k := 1) rfl fo42_1 ts40 rfl) (s1 (lod rfl (ld_box ts40 ta40 rfl rfl)) (c0 (ref17_KeyMax_ok p0.Cols p1.Parts _ hq405) wf rfl rfl rfl cb19 rfl (fun _ => rfl) (fun _ => rfl) (s1 (bi rfl rfl q_i64_gtr) (sn (cB h0 rfl (fun h0 => ?_) (fun h0 => ?_))))))))))
    ·have q := si h0; subst q
     exact sr (sa rfl (sn (SC.ret (finR (wc (e' := [(4, .d (eI (7 : Int)))]) [] [] (by kernel_rfl) rfl (by kernel_rfl)) (lresT rfl lresN) rfl))))
    ·have q := si h0; subst q
     exact sk (sr (sa rfl (sn (SC.ret (finR (wc (e' := [(4, .d (eI (0 : Int)))]) [] [] (by kernel_rfl) rfl (by kernel_rfl)) (lresT rfl lresN) rfl)))))
noncomputable def ref17_Check (p0 : ApiTable) : Option Int :=
 Option.bind (ref06_Name p0.Name) fun r885 =>
 bif (!r885) then
 some (1 : Int)
 else
 Option.bind (α := Bool)
 (bif (decide ((p0.Cols.length : Int) < (1 : Int))) then
 some true
 else
 some (decide ((p0.Cols.length : Int) > (24 : Int))))
 fun y886 =>
 bif y886 then
 some (7 : Int)
 else
 bindE (Y := Unit) (E := Int)
 (Option.bind (α := Unit ⊕ Int)
 (loop (Y := Int) (W := Unit ⊕ Int) (fun y978 =>
 bif (decide (y978 < (p0.Cols.length : Int))) then
 bindE (Y := Unit) (E := Int)
 (Option.bind (getI p0.Cols y978) fun v1026 =>
 Option.bind (ref06_Column v1026) fun r1028 =>
 bif (r1028 != (0 : Int)) then
 some (Sum.inr r1028)
 else
 Option.bind (α := Unit ⊕ Int)
 (loop (Y := Int) (W := Unit ⊕ Int) (fun y1031 =>
 bif (decide (y1031 < y978)) then
 Option.bind (getI p0.Cols y1031) fun v1037 =>
 Option.bind (getI p0.Cols y978) fun v1038 =>
 bif (v1037.Name == v1038.Name) then
 some (Sum.inr (Sum.inr (6 : Int)))
 else
 some (Sum.inl (w64 (y1031 + (1 : Int))))
 else
 some (Sum.inr (Sum.inl ()))) (0 : Int))
 (Sum.elim (fun e => some (Sum.inl e)) (fun e => some (Sum.inr e))))
 (fun _ =>
 some (Sum.inl (w64 (y978 + (1 : Int)))))
 (fun e => some (Sum.inr (Sum.inr e)))
 else
 some (Sum.inr (Sum.inl ()))) (0 : Int))
 (Sum.elim (fun e => some (Sum.inl e)) (fun e => some (Sum.inr e))))
 (fun _ =>
 Option.bind (α := Bool)
 (bif (decide ((p0.Primary.length : Int) < (1 : Int))) then
 some true
 else
 bif (decide ((p0.Primary.length : Int) > (4 : Int))) then
 some true
 else
 Option.bind (ref17_places (p0.Cols.length : Int) p0.Primary) fun r1046 =>
 some (!r1046))
 fun y1043 =>
 bif y1043 then
 some (1 : Int)
 else
 bindE (Y := Unit) (E := Int)
 (Option.bind (α := Unit ⊕ Int)
 (loop (Y := Int) (W := Unit ⊕ Int) (fun y1061 =>
 bif (decide (y1061 < (p0.Primary.length : Int))) then
 Option.bind (getI p0.Primary y1061) fun v1067 =>
 Option.bind (getI p0.Cols v1067) fun v1068 =>
 bif v1068.Nulls then
 some (Sum.inr (Sum.inr (1 : Int)))
 else
 some (Sum.inl (w64 (y1061 + (1 : Int))))
 else
 some (Sum.inr (Sum.inl ()))) (0 : Int))
 (Sum.elim (fun e => some (Sum.inl e)) (fun e => some (Sum.inr e))))
 (fun _ =>
 Option.bind (α := Bool)
 (Option.bind (ref17_RowMax p0.Cols) fun r1079 =>
 bif (decide (r1079 > (512 : Int))) then
 some true
 else
 Option.bind (ref17_Up p0.Primary) fun r1081 =>
 Option.bind (ref17_KeyMax p0.Cols r1081) fun r1083 =>
 bif (decide (r1083 > (128 : Int))) then
 some true
 else
 some (decide ((p0.Indexes.length : Int) > (6 : Int))))
 fun y1076 =>
 bif y1076 then
 some (7 : Int)
 else
 bindE (Y := Unit) (E := Int)
 (Option.bind (α := Unit ⊕ Int)
 (loop (Y := Int) (W := Unit ⊕ Int) (fun y1230 =>
 bif (decide (y1230 < (p0.Indexes.length : Int))) then
 bindE (Y := Unit) (E := Int)
 (Option.bind (getI p0.Indexes y1230) fun v1302 =>
 Option.bind (ref06_Name v1302.Name) fun r1304 =>
 bif (!r1304) then
 some (Sum.inr (1 : Int))
 else
 bindE (Y := Unit) (E := Int)
 (Option.bind (α := Unit ⊕ Int)
 (loop (Y := Int) (W := Unit ⊕ Int) (fun y1315 =>
 bif (decide (y1315 < y1230)) then
 Option.bind (getI p0.Indexes y1315) fun v1320 =>
 bif (v1320.Name == v1302.Name) then
 some (Sum.inr (Sum.inr (6 : Int)))
 else
 some (Sum.inl (w64 (y1315 + (1 : Int))))
 else
 some (Sum.inr (Sum.inl ()))) (0 : Int))
 (Sum.elim (fun e => some (Sum.inl e)) (fun e => some (Sum.inr e))))
 (fun _ =>
 Option.bind (ref17_index p0 v1302) fun r1323 =>
 bif (r1323 != (0 : Int)) then
 some (Sum.inr r1323)
 else
 some (Sum.inl ()))
 (fun e => some (Sum.inr e)))
 (fun _ =>
 some (Sum.inl (w64 (y1230 + (1 : Int)))))
 (fun e => some (Sum.inr (Sum.inr e)))
 else
 some (Sum.inr (Sum.inl ()))) (0 : Int))
 (Sum.elim (fun e => some (Sum.inl e)) (fun e => some (Sum.inr e))))
 (fun _ =>
 some (0 : Int))
 (fun e => some e))
 (fun e => some e))
 (fun e => some e)
theorem ref17_Check_ok (p0 : ApiTable) (r : Int) (h0 : ref17_Check p0 = some r) : CallAt Tryd.prog 7 [.d (eApiTable p0)] [] (.d (eI r)) [] := by
 unfold ref17_Check at h0
 refine fn0 [0] Tryd.func7 rfl rfl rfl rfl rfl ?_
 obtain ⟨r885, hq884, h0⟩ := ob h0
 refine sr (s1 (bxo (k := 0) rfl rfl rfl) (sa rfl (sn (sq (sr (s1 (far (k := 0) rfl fo26_0 ts9 rfl) (s1 (lod rfl (ld_box ts9 ta9 rfl rfl)) (c0 (ref06_Name_ok p0.Name _ hq884) wf rfl rfl rfl cb15 rfl (fun _ => rfl) (fun _ => rfl) (s1 (nt rfl) ?_)))))))))
 refine sn (cB h0 rfl (fun h0 => ?_) (fun h0 => ?_))
 ·have q := si h0; subst q
  exact sr (sa rfl (sn (SC.ret (finR (wc (e' := [(2, .d (eI (1 : Int)))]) [] [] (by kernel_rfl) rfl (by kernel_rfl)) (lresT rfl lresN) rfl))))
 ·refine sk (sq (SC.seqP h0 (fun y => ⟨mk 150 [(1, .ref 0 0 0), (24, .d (eB y))], [.box (.d (eApiTable p0))]⟩) ?_ ?_))
  ·intro u1_887 h1
   refine SC.region (s1 (far (k := 1) rfl fo26_1 ts22 rfl) (s1 (lod rfl (ld_box ts22 ta22 rfl rfl)) (s1 (len rfl rfl rfl (len_lst un22)) (s1 (bi rfl rfl q_i64_lss) (sm rfl (sp h1 (fun h1 => ?_) (fun h1 => ?_)))))))
   ·have q := si h1; subst q
    exact kw rfl (kw rfl (kw rfl (kw rfl (s1 (pkt rfl rfl) (SO.nil ((wq rfl)))))))
   ·have q := si h1; subst q
    exact gw rfl (far (k := 1) rfl fo26_1 ts22 rfl) (gw rfl (lod rfl (ld_box ts22 ta22 rfl rfl)) (gw rfl (len rfl rfl rfl (len_lst un22)) (gw rfl (bi rfl rfl q_i64_gtr) (s1 (pkf rfl rfl) (SO.nil ((wq rfl)))))))
  ·rintro y886 h0
   refine cB h0 rfl (fun h0 => ?_) (fun h0 => ?_)
   ·have q := si h0; subst q
    exact sr (sa rfl (sn (SC.ret (finR (wc (e' := [(2, .d (eI (7 : Int)))]) [] [] (by kernel_rfl) rfl (by kernel_rfl)) (lresT rfl lresN) rfl))))
   ·refine sk (SC.seqB h0 (fun y => ⟨mk 150 [(1, .ref 0 0 0)], [.box (.d (eApiTable p0))]⟩) ?_ ?_)
    ·intro u1_964 h1 h0
     obtain ⟨u2_1010, h2, h1⟩ := ob h1
     refine sr (sa rfl (sn (SC.blk (SC.loopB h2 (fun y => ⟨mk 150 [(1, .ref 0 0 0), (3, .d (eI y))], [.box (.d (eApiTable p0))]⟩) (wq rfl) ?_))))
     intro n1040
     rintro y978 w2_1009 h3 hv3
     refine sq (sr (sm rfl (s1 (far (k := 1) rfl fo26_1 ts22 rfl) (s1 (lod rfl (ld_box ts22 ta22 rfl rfl)) (s1 (len rfl rfl rfl (len_lst un22)) (s1 (bi rfl rfl q_i64_lss) (sn (cB h3 rfl (fun h3 => ?_) (fun h3 => ?_)))))))))
     ·refine sk (SC.seqB h3 (fun y => ⟨mk 150 [(1, .ref 0 0 0), (3, .d (eI y978))], [.box (.d (eApiTable p0))]⟩) ?_ ?_)
      ·intro u4_1025 h4 h3
       obtain ⟨v1026, hv1026, h4⟩ := ob h4; obtain ⟨r1028, hq1027, h4⟩ := ob h4
       refine SC.blk (sr (s1 (far (k := 1) rfl fo26_1 ts22 rfl) (s1 (lod rfl (ld_box ts22 ta22 rfl rfl)) (sm rfl (s1 (ial rfl rfl un22 ts74 (getI_some hv1026).1 (map_get (getI_some hv1026).2) rfl) (s1 (lod (v := .d (eApiColumn v1026)) rfl (ld_rop ts74 ta74 rfl)) (c0 (ref06_Column_ok v1026 _ hq1027) wf rfl rfl rfl cb16 rfl (fun _ => rfl) (fun _ => rfl) (sa rfl (sn ?_)))))))))
       refine sq (sr (sm rfl (s1 (bi rfl rfl q_i64_neq) (sn (cB h4 rfl (fun h4 => ?_) (fun h4 => ?_))))))
       ·have q := si h4; subst q; have q := si h3; subst q; have q : _ = _ := hv3; subst q; have q := si h1; subst q; have q := si h0; subst q
        exact sr (sm rfl (sa rfl (sn (SC.ret (finR (wc (e' := [(2, .d (eI r1028))]) [] [] (by kernel_rfl) rfl (by kernel_rfl)) (lresT rfl lresN) rfl)))))
       ·obtain ⟨u5_1036, h5, h4⟩ := ob h4
        refine sk (sr (sa rfl (sn (SC.blk (SC.loopB h5 (fun y => ⟨mk 150 [(1, .ref 0 0 0), (3, .d (eI y978)), (5, .d (eI y))], [.box (.d (eApiTable p0))]⟩) (wq rfl) ?_)))))
        intro n1039
        rintro y1031 w5_1035 h6 hv6
        refine sq (sr (sm rfl (sm rfl (s1 (bi rfl rfl q_i64_lss) (sn (cB h6 rfl (fun h6 => ?_) (fun h6 => ?_)))))))
        ·obtain ⟨v1037, hv1037, h6⟩ := ob h6; obtain ⟨v1038, hv1038, h6⟩ := ob h6
         refine sk (sq (SC.blk (sd (by kernel_rfl) (t1 ([], false) (far (k := 1) rfl fo26_1 ts22 rfl) rfl (t1 ([0], false) (lod rfl (ld_box ts22 ta22 rfl rfl)) rfl (t1 ([], false) (mv rfl) rfl (t1 ([], false) (ial rfl rfl un22 ts74 (getI_some hv1037).1 (map_get (getI_some hv1037).2) rfl) rfl (t1 ([], false) (fap rfl fo74_0 ts9 rfl) rfl (t1 ([], false) (lod rfl (ld_rop ts9 ta9 rfl)) rfl ?_)))))))))
         refine t1 ([], false) (far (k := 1) rfl fo26_1 ts22 rfl) rfl (t1 ([0], false) (lod rfl (ld_box ts22 ta22 rfl rfl)) rfl (t1 ([], false) (mv rfl) rfl (t1 ([], false) (ial rfl rfl un22 ts74 (getI_some hv1038).1 (map_get (getI_some hv1038).2) rfl) rfl (t1 ([], false) (fap rfl fo74_0 ts9 rfl) rfl (t1 ([], false) (lod rfl (ld_rop ts9 ta9 rfl)) rfl (t1 ([], false) (bi rfl rfl q_str_eql) rfl (tn (by decide +kernel) (cB h6 rfl (fun h6 => ?_) (fun h6 => ?_)))))))))
         ·have q := si h6; subst q; have q : _ = _ := hv6; subst q; have q := si h4; subst q; have q := si h3; subst q; have q : _ = _ := hv3; subst q; have q := si h1; subst q; have q := si h0; subst q
          exact sr (sa rfl (sn (SC.ret (finR (wc (e' := [(2, .d (eI (6 : Int)))]) [] [] (by kernel_rfl) rfl (by kernel_rfl)) (lresT rfl lresN) rfl))))
         ·refine SC.skip ?_
          change SC _ _ _ _ _
          have q := si h6; subst q
          exact SC.region (sm rfl (s1 (bi rfl rfl q_i64_add) (sa rfl (SO.nil (lf (wq rfl))))))
        ·have q := si h6; subst q; have q : _ = _ := hv6; subst q; have q := si h4; subst q
         exact SC.exit (lf (wq rfl))
      ·intro _ h3
       have q := si h3; subst q
       exact SC.region (sm rfl (s1 (bi rfl rfl q_i64_add) (sa rfl (SO.nil (lf (wq rfl))))))
     ·have q := si h3; subst q; have q : _ = _ := hv3; subst q; have q := si h1; subst q
      exact SC.exit (lf (wq rfl))
    ·intro _ h0
     refine sq (SC.seqP h0 (fun y => ⟨mk 150 [(1, .ref 0 0 0), (77, .d (eB y))], [.box (.d (eApiTable p0))]⟩) ?_ ?_)
     ·intro u1_1044 h1
      refine SC.region (s1 (far (k := 2) rfl fo26_2 ts23 rfl) (s1 (lod rfl (ld_box ts23 ta23 rfl rfl)) (s1 (len rfl rfl rfl (len_lst un23)) (s1 (bi rfl rfl q_i64_lss) (sm rfl (sp h1 (fun h1 => ?_) (fun h1 => ?_)))))))
      ·have q := si h1; subst q
       refine kw rfl (kw rfl (kw rfl (kw rfl (s1 (pkt rfl rfl) (sm rfl (kw rfl (kw rfl (kw rfl (kw rfl ?_)))))))))
       exact kw rfl (kw rfl (kw rfl (s1 (pkt rfl rfl) (SO.nil ((wq rfl))))))
      ·refine gw rfl (far (k := 2) rfl fo26_2 ts23 rfl) (gw rfl (lod rfl (ld_box ts23 ta23 rfl rfl)) (gw rfl (len rfl rfl rfl (len_lst un23)) (gw rfl (bi rfl rfl q_i64_gtr) (s1 (pkf rfl rfl) (sm rfl (sp h1 (fun h1 => ?_) (fun h1 => ?_)))))))
       ·have q := si h1; subst q
        exact kw rfl (kw rfl (kw rfl (kw rfl (kw rfl (kw rfl (kw rfl (s1 (pkt rfl rfl) (SO.nil ((wq rfl))))))))))
       ·obtain ⟨r1046, hq1045, h1⟩ := ob h1; have q := si h1; subst q
        exact gw rfl (far (k := 1) rfl fo26_1 ts22 rfl) (gw rfl (lod rfl (ld_box ts22 ta22 rfl rfl)) (gw rfl (len rfl rfl rfl (len_lst un22)) (gw rfl (far (k := 2) rfl fo26_2 ts23 rfl) (gw rfl (lod rfl (ld_box ts23 ta23 rfl rfl)) (c0 (ref17_places_ok (p0.Cols.length : Int) p0.Primary _ hq1045) (ww rfl) rfl rfl rfl cb17 rfl (fun _ => rfl) (fun _ => rfl) (gw rfl (nt rfl) (s1 (pkf rfl rfl) (SO.nil ((wq rfl))))))))))
     ·rintro y1043 h0
      refine cB h0 rfl (fun h0 => ?_) (fun h0 => ?_)
      ·have q := si h0; subst q
       exact sr (sa rfl (sn (SC.ret (finR (wc (e' := [(2, .d (eI (1 : Int)))]) [] [] (by kernel_rfl) rfl (by kernel_rfl)) (lresT rfl lresN) rfl))))
      ·refine sk (SC.seqB h0 (fun y => ⟨mk 150 [(1, .ref 0 0 0)], [.box (.d (eApiTable p0))]⟩) ?_ ?_)
       ·intro u1_1058 h1 h0
        obtain ⟨u2_1066, h2, h1⟩ := ob h1
        refine sr (sa rfl (sn (SC.blk (SC.loopB h2 (fun y => ⟨mk 150 [(1, .ref 0 0 0), (6, .d (eI y))], [.box (.d (eApiTable p0))]⟩) (wq rfl) ?_))))
        intro n1069
        rintro y1061 w2_1065 h3 hv3
        refine sq (sr (sm rfl (s1 (far (k := 2) rfl fo26_2 ts23 rfl) (s1 (lod rfl (ld_box ts23 ta23 rfl rfl)) (s1 (len rfl rfl rfl (len_lst un23)) (s1 (bi rfl rfl q_i64_lss) (sn (cB h3 rfl (fun h3 => ?_) (fun h3 => ?_)))))))))
        ·obtain ⟨v1067, hv1067, h3⟩ := ob h3; obtain ⟨v1068, hv1068, h3⟩ := ob h3
         refine sk (sq (SC.blk (sd (by kernel_rfl) (t1 ([], false) (far (k := 1) rfl fo26_1 ts22 rfl) rfl (t1 ([0], false) (lod rfl (ld_box ts22 ta22 rfl rfl)) rfl (t1 ([], false) (far (k := 2) rfl fo26_2 ts23 rfl) rfl (t1 ([0], false) (lod rfl (ld_box ts23 ta23 rfl rfl)) rfl (t1 ([], false) (mv rfl) rfl (t1 ([], false) (ial rfl rfl un23 ts3 (getI_some hv1067).1 (map_get (getI_some hv1067).2) rfl) rfl ?_)))))))))
         refine t1 ([], false) (lod rfl (ld_rop ts3 ta3 rfl)) rfl (t1 ([], false) (ial rfl rfl un22 ts74 (getI_some hv1068).1 (map_get (getI_some hv1068).2) rfl) rfl (t1 ([], false) (fap rfl fo74_3 ts4 rfl) rfl (t1 ([], false) (lod rfl (ld_rop ts4 ta4 rfl)) rfl (tn (by decide +kernel) (cB h3 rfl (fun h3 => ?_) (fun h3 => ?_))))))
         ·have q := si h3; subst q; have q : _ = _ := hv3; subst q; have q := si h1; subst q; have q := si h0; subst q
          exact sr (sa rfl (sn (SC.ret (finR (wc (e' := [(2, .d (eI (1 : Int)))]) [] [] (by kernel_rfl) rfl (by kernel_rfl)) (lresT rfl lresN) rfl))))
         ·refine SC.skip ?_
          change SC _ _ _ _ _
          have q := si h3; subst q
          exact SC.region (sm rfl (s1 (bi rfl rfl q_i64_add) (sa rfl (SO.nil (lf (wq rfl))))))
        ·have q := si h3; subst q; have q : _ = _ := hv3; subst q; have q := si h1; subst q
         exact SC.exit (lf (wq rfl))
       ·intro _ h0
        refine sq (SC.seqP h0 (fun y => ⟨mk 150 [(1, .ref 0 0 0), (113, .d (eB y))], [.box (.d (eApiTable p0))]⟩) ?_ ?_)
        ·intro u1_1077 h1
         obtain ⟨r1079, hq1078, h1⟩ := ob h1
         refine SC.draws (by kernel_rfl) (t1 ([], false) (far (k := 1) rfl fo26_1 ts22 rfl) rfl (t1 ([0], false) (lod rfl (ld_box ts22 ta22 rfl rfl)) rfl (tc0 (ref17_RowMax_ok p0.Cols _ hq1078) wf rfl rfl rfl cb18 rfl (fun _ => rfl) (fun _ => rfl) (t1 ([], false) (bi rfl rfl q_i64_gtr) rfl (t1 ([], false) (mv rfl) rfl (tp h1 (fun h1 => ?_) (fun h1 => ?_)))))))
         ·have q := si h1; subst q
          refine jw rfl (jw rfl (jw rfl (jw rfl (jw rfl (jw rfl (jw rfl (t1 ([], false) (pkt rfl rfl) rfl (t1 ([], false) (mv rfl) rfl (jw rfl ?_)))))))))
          refine jw rfl (jw rfl (jw rfl (t1 ([], false) (pkt rfl rfl) rfl (ST.nil (And.intro (by decide +kernel) ?_)))))
          exact (wq rfl)
         ·obtain ⟨r1081, hq1080, h1⟩ := ob h1; obtain ⟨r1083, hq1082, h1⟩ := ob h1
          refine u1 ([], false) (ww rfl) (far (k := 1) rfl fo26_1 ts22 rfl) rfl (u1 ([0], false) (ww rfl) (lod rfl (ld_box ts22 ta22 rfl rfl)) rfl (u1 ([], false) (ww rfl) (far (k := 2) rfl fo26_2 ts23 rfl) rfl (u1 ([0], false) (ww rfl) (lod rfl (ld_box ts23 ta23 rfl rfl)) rfl (tc0 (ref17_Up_ok p0.Primary _ hq1080) (ww rfl) rfl rfl rfl cb20 rfl (fun _ => rfl) (fun _ => rfl) (tc0 (ref17_KeyMax_ok p0.Cols r1081 _ hq1082) (ww rfl) rfl rfl rfl cb19 rfl (fun _ => rfl) (fun _ => rfl) (u1 ([], false) (ww rfl) (bi rfl rfl q_i64_gtr) rfl (t1 ([], false) (pkf rfl rfl) rfl (t1 ([], false) (mv rfl) rfl (tp h1 (fun h1 => ?_) (fun h1 => ?_))))))))))
          ·have q := si h1; subst q
           refine jw rfl (jw rfl (jw rfl (jw rfl (t1 ([], false) (pkt rfl rfl) rfl (ST.nil (And.intro (by decide +kernel) ?_))))))
           exact (wq rfl)
          ·have q := si h1; subst q
           refine u1 ([], false) (ww rfl) (far (k := 3) rfl fo26_3 ts24 rfl) rfl (u1 ([0], false) (ww rfl) (lod rfl (ld_box ts24 ta24 rfl rfl)) rfl (u1 ([], false) (ww rfl) (len rfl rfl rfl (len_lst un24)) rfl (u1 ([], false) (ww rfl) (bi rfl rfl q_i64_gtr) rfl (t1 ([], false) (pkf rfl rfl) rfl (ST.nil (And.intro (by decide +kernel) ?_))))))
           exact (wq rfl)
        ·rintro y1076 h0
         refine cB h0 rfl (fun h0 => ?_) (fun h0 => ?_)
         ·have q := si h0; subst q
          exact sr (sa rfl (sn (SC.ret (finR (wc (e' := [(2, .d (eI (7 : Int)))]) [] [] (by kernel_rfl) rfl (by kernel_rfl)) (lresT rfl lresN) rfl))))
         ·refine sk (SC.seqB h0 (fun y => ⟨mk 150 [], []⟩) ?_ ?_)
          ·intro u1_1204 h1 h0
           obtain ⟨u2_1278, h2, h1⟩ := ob h1
           refine sr (sa rfl (sn (SC.blk (SC.loopB h2 (fun y => ⟨mk 150 [(1, .ref 0 0 0), (7, .d (eI y))], [.box (.d (eApiTable p0))]⟩) (wq rfl) ?_))))
           intro n1324
           rintro y1230 w2_1277 h3 hv3
           refine sq (sr (sm rfl (s1 (far (k := 3) rfl fo26_3 ts24 rfl) (s1 (lod rfl (ld_box ts24 ta24 rfl rfl)) (s1 (len rfl rfl rfl (len_lst un24)) (s1 (bi rfl rfl q_i64_lss) (sn (cB h3 rfl (fun h3 => ?_) (fun h3 => ?_)))))))))
           ·refine sk (SC.seqB h3 (fun y => ⟨mk 150 [(1, .ref 0 0 0), (7, .d (eI y1230))], [.box (.d (eApiTable p0))]⟩) ?_ ?_)
            ·intro u4_1301 h4 h3
             obtain ⟨v1302, hv1302, h4⟩ := ob h4; obtain ⟨r1304, hq1303, h4⟩ := ob h4
             refine SC.blk (sr (s1 (far (k := 3) rfl fo26_3 ts24 rfl) (s1 (lod rfl (ld_box ts24 ta24 rfl rfl)) (sm rfl (s1 (ial rfl rfl un24 ts42 (getI_some hv1302).1 (map_get (getI_some hv1302).2) rfl) (s1 (lod (v := .d (eApiIndex v1302)) rfl (ld_rop ts42 ta42 rfl)) (s1 (alo (k := 1) zo42 rfl) (s0 (sto rfl rfl (sB (d' := .d (eApiIndex v1302)) ts42 rfl rfl rfl rfl rfl rfl rfl)) (sn ?_)))))))))
             refine sq (sr (s1 (far (k := 0) rfl fo42_0 ts9 rfl) (s1 (lod rfl (ld_box ts9 ta9 rfl rfl)) (c0 (ref06_Name_ok v1302.Name _ hq1303) wf rfl rfl rfl cb15 rfl (fun _ => rfl) (fun _ => rfl) (s1 (nt rfl) (sn (cB h4 rfl (fun h4 => ?_) (fun h4 => ?_))))))))
             ·have q := si h4; subst q; have q := si h3; subst q; have q : _ = _ := hv3; subst q; have q := si h1; subst q; have q := si h0; subst q
              exact sr (sa rfl (sn (SC.ret (finR (wc (e' := [(2, .d (eI (1 : Int)))]) [] [] (by kernel_rfl) rfl (by kernel_rfl)) (lresT rfl lresN) rfl))))
             ·refine sk (SC.seqB h4 (fun y => ⟨mk 150 [(1, .ref 0 0 0), (7, .d (eI y1230)), (8, .ref 1 0 0)], [.box (.d (eApiTable p0)), .box (.d (eApiIndex v1302))]⟩) ?_ ?_)
              ·intro u5_1313 h5 h4
               obtain ⟨u6_1319, h6, h5⟩ := ob h5
               refine sr (sa rfl (sn (SC.blk (SC.loopB h6 (fun y => ⟨mk 150 [(1, .ref 0 0 0), (7, .d (eI y1230)), (8, .ref 1 0 0), (9, .d (eI y))], [.box (.d (eApiTable p0)), .box (.d (eApiIndex v1302))]⟩) (wq rfl) ?_))))
               intro n1321
               rintro y1315 w6_1318 h7 hv7
               refine sq (sr (sm rfl (sm rfl (s1 (bi rfl rfl q_i64_lss) (sn (cB h7 rfl (fun h7 => ?_) (fun h7 => ?_)))))))
               ·obtain ⟨v1320, hv1320, h7⟩ := ob h7
                refine sk (sq (SC.blk (sd (by kernel_rfl) (t1 ([], false) (far (k := 3) rfl fo26_3 ts24 rfl) rfl (t1 ([0], false) (lod rfl (ld_box ts24 ta24 rfl rfl)) rfl (t1 ([], false) (mv rfl) rfl (t1 ([], false) (ial rfl rfl un24 ts42 (getI_some hv1320).1 (map_get (getI_some hv1320).2) rfl) rfl (t1 ([], false) (fap rfl fo42_0 ts9 rfl) rfl (t1 ([], false) (lod rfl (ld_rop ts9 ta9 rfl)) rfl ?_)))))))))
                refine t1 ([], false) (far (k := 0) rfl fo42_0 ts9 rfl) rfl (t1 ([1], false) (lod rfl (ld_box ts9 ta9 rfl rfl)) rfl (t1 ([], false) (bi rfl rfl q_str_eql) rfl (tn (by decide +kernel) (cB h7 rfl (fun h7 => ?_) (fun h7 => ?_)))))
                ·have q := si h7; subst q; have q : _ = _ := hv7; subst q; have q := si h5; subst q; have q := si h4; subst q; have q := si h3; subst q; have q : _ = _ := hv3; subst q; have q := si h1; subst q; have q := si h0; subst q
                 exact sr (sa rfl (sn (SC.ret (finR (wc (e' := [(2, .d (eI (6 : Int)))]) [] [] (by kernel_rfl) rfl (by kernel_rfl)) (lresT rfl lresN) rfl))))
                ·refine SC.skip ?_
                 change SC _ _ _ _ _
                 have q := si h7; subst q
                 exact SC.region (sm rfl (s1 (bi rfl rfl q_i64_add) (sa rfl (SO.nil (lf (wq rfl))))))
               ·have q := si h7; subst q; have q : _ = _ := hv7; subst q; have q := si h5; subst q
                exact SC.exit (lf (wq rfl))
              ·intro _ h4
               obtain ⟨r1323, hq1322, h4⟩ := ob h4
               refine sr (s1 (lod (v := .d (eApiTable p0)) rfl (ld_box ts26 ta26 rfl rfl)) (s1 (lod (v := .d (eApiIndex v1302)) rfl (ld_box ts42 ta42 rfl rfl)) (c0 (ref17_index_ok p0 v1302 _ hq1322) wf rfl rfl rfl cb21 rfl (fun _ => rfl) (fun _ => rfl) (sa rfl (sn (sr (sm rfl (s1 (bi rfl rfl q_i64_neq) (sn ?_)))))))))
               refine cB h4 rfl (fun h4 => ?_) (fun h4 => ?_)
               ·have q := si h4; subst q; have q := si h3; subst q; have q : _ = _ := hv3; subst q; have q := si h1; subst q; have q := si h0; subst q
                exact sr (sm rfl (sa rfl (sn (SC.ret (finR (wc (e' := [(2, .d (eI r1323))]) [] [] (by kernel_rfl) rfl (by kernel_rfl)) (lresT rfl lresN) rfl)))))
               ·have q := si h4; subst q
                exact SC.skip (lf (wc [0] [0] (by kernel_rfl) rfl (by kernel_rfl)))
            ·intro _ h3
             have q := si h3; subst q
             exact SC.region (sm rfl (s1 (bi rfl rfl q_i64_add) (sa rfl (SO.nil (lf (wq rfl))))))
           ·have q := si h3; subst q; have q : _ = _ := hv3; subst q; have q := si h1; subst q
            exact SC.exit (lf (wc [] [] (by kernel_rfl) rfl (by kernel_rfl)))
          ·intro _ h0
           have q := si h0; subst q
           exact sr (sa rfl (sn (SC.ret (finR (Wk.refl _) (lresT rfl lresN) rfl))))
noncomputable def ref17_Copy (p0 : ApiTable) : Option ((List ApiIndex)) :=
 bif decide ((([] : List ApiColumn).length + p0.Cols.length) * 72 ≤ room) then
 bif decide ((([] : List Int).length + p0.Primary.length) * 8 ≤ room) then
 Option.bind (α := (List ApiIndex))
 (Option.bind (α := (List ApiIndex))
 (loop (Y := (List ApiIndex) × Int) (W := (List ApiIndex)) (fun (y113, y114) =>
 bif (decide (y114 < (p0.Indexes.length : Int))) then
 Option.bind (getI p0.Indexes y114) fun v123 =>
 bif decide ((([] : List ApiPart).length + v123.Parts.length) * 16 ≤ room) then
 bif decide ((([] : List Int).length + v123.Extra.length) * 8 ≤ room) then
 bif decide ((y113.length + [(ApiIndex.mk v123.Name (([] : List ApiPart) ++ v123.Parts) (([] : List Int) ++ v123.Extra) v123.Unique v123.Ready v123.Tree)].length) * 80 ≤ room) then
 some (Sum.inl ((y113 ++ [(ApiIndex.mk v123.Name (([] : List ApiPart) ++ v123.Parts) (([] : List Int) ++ v123.Extra) v123.Unique v123.Ready v123.Tree)]), (w64 (y114 + (1 : Int)))))
 else none
 else none
 else none
 else
 some (Sum.inr y113)) (([] : List ApiIndex), (0 : Int)))
 (fun e => some e))
 fun y107 =>
 some y107
 else none
 else none
theorem ref17_Copy_ok (p0 : ApiTable) (r : (List ApiIndex)) (h0 : ref17_Copy p0 = some r) : CallAt Tryd.prog 8 [.d (eApiTable p0)] [] (.agg [.d (eS p0.Name), .slc 1 7 0 ((([] : List ApiColumn) ++ p0.Cols).length) none, .slc 2 1 0 ((([] : List Int) ++ p0.Primary).length) none, .slc 3 6 0 r.length none, .d (eI p0.Tree)]) [.box (.agg [.d (eS p0.Name), .slc 1 7 0 ((([] : List ApiColumn) ++ p0.Cols).length) none, .slc 2 1 0 ((([] : List Int) ++ p0.Primary).length) none, .slc 3 6 0 r.length none, .d (eI p0.Tree)]), .row 7 (List.map eApiColumn (([] : List ApiColumn) ++ p0.Cols)) true, .row 1 (List.map eI (([] : List Int) ++ p0.Primary)) true, .row 6 (List.map eApiIndex r) true] := by
 unfold ref17_Copy at h0
 refine fn0 [0] Tryd.func8 rfl rfl rfl rfl rfl ?_
 obtain ⟨hg86, h0⟩ := gd h0; obtain ⟨hg87, h0⟩ := gd h0
 refine sr (s1 (bxo (k := 0) rfl rfl rfl) (s1 (alo (k := 1) zo26 rfl) (sn (sr (s1 (bsn (k := 2) (ds := List.map eApiColumn ([] : List ApiColumn)) (off := 0) (l' := ([] : List ApiColumn).length) rfl un22 ei74 rfl rfl rfl rfl rfl rfl) (s1 (far (k := 1) rfl fo26_1 ts22 rfl) (s1 (lod rfl (ld_box ts22 ta22 rfl rfl)) (s1 (app rfl rfl rfl rfl bc22 (aF (f := eApiColumn) (xs := ([] : List ApiColumn)) (k := 3) rfl un22 ei74 rfl el_lst hg86 rfl)) (s1 (far (k := 1) rfl fo26_1 ts22 rfl) ?_)))))))))
 refine s0 (sto rfl rfl (sB (d' := .agg [.d (eS p0.Name), .slc 3 7 0 ((([] : List ApiColumn) ++ p0.Cols).length) none, .d ((eL 1 eI) p0.Primary), .d ((eL 6 eApiIndex) p0.Indexes), .d (eI p0.Tree)]) ts22 rfl rfl rfl rfl rfl rfl rfl)) (sn (sr (s1 (bsn (k := 4) (ds := List.map eI ([] : List Int)) (off := 0) (l' := ([] : List Int).length) rfl un23 ei3 rfl rfl rfl rfl rfl rfl) (s1 (far (k := 2) rfl fo26_2 ts23 rfl) (s1 (lod rfl (ld_box ts23 ta23 rfl rfl)) (s1 (app rfl rfl rfl rfl bc23 (aF (f := eI) (xs := ([] : List Int)) (k := 5) rfl un23 ei3 rfl el_lst hg87 rfl)) (s1 (far (k := 2) rfl fo26_2 ts23 rfl) (s0 (sto rfl rfl (sB (d' := .agg [.d (eS p0.Name), .slc 3 7 0 ((([] : List ApiColumn) ++ p0.Cols).length) none, .slc 5 1 0 ((([] : List Int) ++ p0.Primary).length) none, .d ((eL 6 eApiIndex) p0.Indexes), .d (eI p0.Tree)]) ts23 rfl rfl rfl rfl rfl rfl rfl)) (sn ?_)))))))))
 refine sr (s1 (asg (v := .d .nils) rfl) (sn (SC.seqP h0 (fun y => ⟨mk 45 [(1, .ref 0 0 0), (2, .ref 1 0 0), (3, .slc 2 6 0 y.length none)], [.box (.agg [.d (eS p0.Name), .slc 3 7 0 ((([] : List ApiColumn) ++ p0.Cols).length) none, .slc 4 1 0 ((([] : List Int) ++ p0.Primary).length) none, .d ((eL 6 eApiIndex) p0.Indexes), .d (eI p0.Tree)]), .box (.d (.agg [(eS ([] : List UInt8)), .nils, .nils, .nils, (eI (0 : Int))])), .row 6 (List.map eApiIndex y) true, .row 7 (List.map eApiColumn (([] : List ApiColumn) ++ p0.Cols)) true, .row 1 (List.map eI (([] : List Int) ++ p0.Primary)) true]⟩) ?_ ?_)))
 ·intro u1_108 h1
  obtain ⟨u2_122, h2, h1⟩ := ob h1
  refine sr (sa rfl (sn (SC.blk (SC.loopB h2 (fun y => ⟨mk 45 [(1, .ref 0 0 0), (2, .ref 1 0 0), (3, .slc 2 6 0 y.1.length none), (4, .d (eI y.2))], [.box (.agg [.d (eS p0.Name), .slc 3 7 0 ((([] : List ApiColumn) ++ p0.Cols).length) none, .slc 4 1 0 ((([] : List Int) ++ p0.Primary).length) none, .d ((eL 6 eApiIndex) p0.Indexes), .d (eI p0.Tree)]), .box (.d (.agg [(eS ([] : List UInt8)), .nils, .nils, .nils, (eI (0 : Int))])), .row 6 (List.map eApiIndex y.1) true, .row 7 (List.map eApiColumn (([] : List ApiColumn) ++ p0.Cols)) true, .row 1 (List.map eI (([] : List Int) ++ p0.Primary)) true]⟩) (Wk.trans (Wk.pushE (σ' := [.box (.agg [.d (eS p0.Name), .slc 3 7 0 ((([] : List ApiColumn) ++ p0.Cols).length) none, .slc 5 1 0 ((([] : List Int) ++ p0.Primary).length) none, .d ((eL 6 eApiIndex) p0.Indexes), .d (eI p0.Tree)]), .box (.d (.agg [(eS ([] : List UInt8)), .nils, .nils, .nils, (eI (0 : Int))])), .dead, .row 7 (List.map eApiColumn (([] : List ApiColumn) ++ p0.Cols)) true, .dead, .row 1 (List.map eI (([] : List Int) ++ p0.Primary)) true, .row 6 (List.map eApiIndex ([] : List ApiIndex)) true]) (.row 6 [] true) (fun _ hh => by cases hh) rfl) (Wk.trans (Wk.env (e' := [(1, .ref 0 0 0), (2, .ref 1 0 0), (3, .slc 6 6 0 (([] : List ApiIndex).length) none), (4, .d (eI (0 : Int)))]) (EW.cons (AW.refl _) (EW.cons (AW.refl _) (EW.cons (AW.slcn _ _ _) (EW.cons (AW.refl _) EW.nil))))) (wc [0, 1, 6, 3, 5] [0, 1, 6] (by kernel_rfl) rfl (by kernel_rfl)))) ?_))))
  intro n127
  rintro ⟨y113, y114⟩ w2_121 h3 hv3
  refine sq (sr (sm rfl (s1 (far (k := 3) rfl fo26_3 ts24 rfl) (s1 (lod rfl (ld_box ts24 ta24 rfl rfl)) (s1 (len rfl rfl rfl (len_lst un24)) (s1 (bi rfl rfl q_i64_lss) (sn (cB h3 rfl (fun h3 => ?_) (fun h3 => ?_)))))))))
  ·obtain ⟨v123, hv123, h3⟩ := ob h3; obtain ⟨hg124, h3⟩ := gd h3; obtain ⟨hg125, h3⟩ := gd h3; obtain ⟨hg126, h3⟩ := gd h3
   refine sk (sq (SC.blk (sr (s1 (far (k := 3) rfl fo26_3 ts24 rfl) (s1 (lod rfl (ld_box ts24 ta24 rfl rfl)) (sm rfl (s1 (ial rfl rfl un24 ts42 (getI_some hv123).1 (map_get (getI_some hv123).2) rfl) (s1 (lod (v := .d (eApiIndex v123)) rfl (ld_rop ts42 ta42 rfl)) (s1 (alo (k := 5) zo42 rfl) ?_)))))))))
   refine s0 (sto rfl rfl (sB (d' := .d (eApiIndex v123)) ts42 rfl rfl rfl rfl rfl rfl rfl)) (sn (sr (s1 (bsn (k := 6) (ds := List.map eApiPart ([] : List ApiPart)) (off := 0) (l' := ([] : List ApiPart).length) rfl un40 ei76 rfl rfl rfl rfl rfl rfl) (s1 (far (k := 1) rfl fo42_1 ts40 rfl) (s1 (lod rfl (ld_box ts40 ta40 rfl rfl)) (s1 (app rfl rfl rfl rfl bc40 (aF (f := eApiPart) (xs := ([] : List ApiPart)) (k := 7) rfl un40 ei76 rfl el_lst hg124 rfl)) (s1 (far (k := 1) rfl fo42_1 ts40 rfl) (s0 (sto rfl rfl (sB (d' := .agg [.d (eS v123.Name), .slc 7 2 0 ((([] : List ApiPart) ++ v123.Parts).length) none, .d ((eL 1 eI) v123.Extra), .d (eB v123.Unique), .d (eB v123.Ready), .d (eI v123.Tree)]) ts40 rfl rfl rfl rfl rfl rfl rfl)) (sn ?_)))))))))
   refine sr (s1 (bsn (k := 8) (ds := List.map eI ([] : List Int)) (off := 0) (l' := ([] : List Int).length) rfl un23 ei3 rfl rfl rfl rfl rfl rfl) (s1 (far (k := 2) rfl fo42_2 ts23 rfl) (s1 (lod rfl (ld_box ts23 ta23 rfl rfl)) (s1 (app rfl rfl rfl rfl bc23 (aF (f := eI) (xs := ([] : List Int)) (k := 9) rfl un23 ei3 rfl el_lst hg125 rfl)) (s1 (far (k := 2) rfl fo42_2 ts23 rfl) (s0 (sto rfl rfl (sB (d' := .agg [.d (eS v123.Name), .slc 7 2 0 ((([] : List ApiPart) ++ v123.Parts).length) none, .slc 9 1 0 ((([] : List Int) ++ v123.Extra).length) none, .d (eB v123.Unique), .d (eB v123.Ready), .d (eI v123.Tree)]) ts23 rfl rfl rfl rfl rfl rfl rfl)) (sn (SC.region (sm rfl ?_)))))))))
   refine s1 (lod (v := .agg [.d (eS v123.Name), .slc 7 2 0 ((([] : List ApiPart) ++ v123.Parts).length) none, .slc 9 1 0 ((([] : List Int) ++ v123.Extra).length) none, .d (eB v123.Unique), .d (eB v123.Ready), .d (eI v123.Tree)]) rfl (ld_box ts42 ta42 rfl rfl)) (SO.wk (Wk.frzs (i := 39) (x := .agg [.d (eS v123.Name), .slc 7 2 0 ((([] : List ApiPart) ++ v123.Parts).length) none, .slc 9 1 0 ((([] : List Int) ++ v123.Extra).length) none, .d (eB v123.Unique), .d (eB v123.Ready), .d (eI v123.Tree)]) rfl rfl rfl (frzs_d rfl (frzs_slc (fF rfl rfl rfl) (frzs_slc (fF rfl rfl rfl) (frzs_d rfl (frzs_d rfl (frzs_d rfl frzs_nil))))))) (s1 (bsn (k := 10) (ds := List.map eApiIndex [(ApiIndex.mk v123.Name (([] : List ApiPart) ++ v123.Parts) (([] : List Int) ++ v123.Extra) v123.Unique v123.Ready v123.Tree)]) (off := 0) (l' := [(ApiIndex.mk v123.Name (([] : List ApiPart) ++ v123.Parts) (([] : List Int) ++ v123.Extra) v123.Unique v123.Ready v123.Tree)].length) rfl un24 ei42 rfl rfl (by rfl) rfl rfl rfl) (s1 (app rfl rfl rfl rfl bc24 (aF (f := eApiIndex) (xs := y113) (k := 11) rfl un24 ei42 rfl (el_full (xs := [(ApiIndex.mk v123.Name (([] : List ApiPart) ++ v123.Parts) (([] : List Int) ++ v123.Extra) v123.Unique v123.Ready v123.Tree)]) rfl) hg126 rfl)) (sa rfl (SO.nil ?_)))))
   change SC _ _ _ _ _
   have q := si h3; subst q
   exact SC.region (sm rfl (s1 (bi rfl rfl q_i64_add) (sa rfl (SO.nil (lf (wc [0, 1, 11, 3, 4] [0, 1, 11] (by kernel_rfl) rfl (by kernel_rfl)))))))
  ·have q := si h3; subst q; have q : _ = _ := hv3; subst q; have q := si h1; subst q
   exact SC.exit ((wq rfl))
 ·rintro y107 h0
  have q := si h0; subst q
  refine sr (sm rfl (s1 (far (k := 3) rfl fo26_3 ts24 rfl) (s0 (sto rfl rfl (sB (d' := .agg [.d (eS p0.Name), .slc 3 7 0 ((([] : List ApiColumn) ++ p0.Cols).length) none, .slc 4 1 0 ((([] : List Int) ++ p0.Primary).length) none, .slc 2 6 0 y107.length none, .d (eI p0.Tree)]) ts24 rfl rfl rfl rfl rfl rfl rfl)) (sn (sr (s1 (lod (v := .agg [.d (eS p0.Name), .slc 3 7 0 ((([] : List ApiColumn) ++ p0.Cols).length) none, .slc 4 1 0 ((([] : List Int) ++ p0.Primary).length) none, .slc 2 6 0 y107.length none, .d (eI p0.Tree)]) rfl (ld_box ts26 ta26 rfl rfl)) (s0 (sto rfl rfl (sB (d' := .agg [.d (eS p0.Name), .slc 3 7 0 ((([] : List ApiColumn) ++ p0.Cols).length) none, .slc 4 1 0 ((([] : List Int) ++ p0.Primary).length) none, .slc 2 6 0 y107.length none, .d (eI p0.Tree)]) ts26 rfl rfl rfl rfl rfl rfl rfl)) (sn (SC.ret ?_)))))))))
  exact finR (wc (e' := [(2, .ref 0 0 0)]) [1, 3, 4, 2] [1] (by kernel_rfl) rfl (by kernel_rfl)) (lresC rfl (ld_box ts26 ta26 rfl rfl) lresN) rfl
noncomputable def ref09_changed (p0 : Granaryref09Val) (p1 : ApiMsg) : Option Granaryref09Val :=
 bindE (Y := Unit) (E := Granaryref09Val)
 (bif (p1.Kind == (1 : Int)) then
 some (Sum.inr (Granaryref09Val.mk true p1.Val))
 else
 bif (p1.Kind == (2 : Int)) then
 some (Sum.inr (Granaryref09Val.mk false ([] : List UInt8)))
 else
 bif (p1.Kind == (3 : Int)) then
 Option.bind (α := Bool)
 (bif (!p0.has) then
 some true
 else
 bif (decide (p1.Off < (0 : Int))) then
 some true
 else
 some (decide (p1.Off > (w64 ((p0.s.length : Int) - (8 : Int))))))
 fun y240 =>
 bif y240 then
 some (Sum.inr p0)
 else
 Option.bind (α := (List UInt8))
 (Option.bind (α := (List UInt8))
 (loop (Y := (List UInt8) × Int × Int) (W := (List UInt8)) (fun (y265, y266, y267) =>
 bif (decide (y267 ≥ (0 : Int))) then
 Option.bind (getI y265 (w64 (p1.Off + y267))) fun v276 =>
 bif decide (0 ≤ (w64 ((56 : Int) - (w64 ((8 : Int) * y267))))) then
 Option.bind (getI y265 (w64 (p1.Off + y267))) fun v278 =>
 some (Sum.inl ((List.set y265 ((w64 (p1.Off + y267)).toNat) (u8i (w64 ((w64 ((v276.toNat : Int) + (((shr64 p1.Num ((w64 ((56 : Int) - (w64 ((8 : Int) * y267)))).toNat)).toUInt8).toNat : Int))) + y266)))), (w64 (Int.tdiv (w64 ((w64 ((v276.toNat : Int) + (((shr64 p1.Num ((w64 ((56 : Int) - (w64 ((8 : Int) * y267)))).toNat)).toUInt8).toNat : Int))) + y266)) (256 : Int))), (w64 (y267 - (1 : Int)))))
 else none
 else
 some (Sum.inr y265)) (p0.s, (0 : Int), (7 : Int)))
 (fun e => some e))
 fun y260 =>
 some (Sum.inr (Granaryref09Val.mk true y260))
 else
 bif (p1.Kind == (4 : Int)) then
 Option.bind (α := Bool)
 (bif (!p0.has) then
 some true
 else
 bif (p0.s == ([] : List UInt8)) then
 some true
 else
 bif (decide (p1.Off < (0 : Int))) then
 some true
 else
 bif (decide (p1.Off > (255 : Int))) then
 some true
 else
 Option.bind (getI p0.s (0 : Int)) fun v283 =>
 bif ((v283.toNat : Int) != p1.Off) then
 some true
 else
 some (decide ((w64 ((p0.s.length : Int) + (p1.Val.length : Int))) > (512 : Int))))
 fun y281 =>
 bif y281 then
 some (Sum.inr p0)
 else
 bif decide (0 ≤ (1 : Int) ∧ (1 : Int) ≤ (p0.s.length : Int)) then
 bif decide ([(u8i (w64 (p1.Off + (1 : Int))))].length + (List.drop (1 : Int).toNat p0.s).length ≤ 9223372036854775807) then
 bif decide (([(u8i (w64 (p1.Off + (1 : Int))))] ++ (List.drop (1 : Int).toNat p0.s)).length + p1.Val.length ≤ 9223372036854775807) then
 some (Sum.inr (Granaryref09Val.mk true (([(u8i (w64 (p1.Off + (1 : Int))))] ++ (List.drop (1 : Int).toNat p0.s)) ++ p1.Val)))
 else none
 else none
 else none
 else
 some (Sum.inl ()))
 (fun _ =>
 some p0)
 (fun e => some e)
theorem ref09_changed_ok (p0 : Granaryref09Val) (p1 : ApiMsg) (r : Granaryref09Val) (h0 : ref09_changed p0 p1 = some r) : CallAt Tryd.prog 60 [.d (eGranaryref09Val p0), .d (eApiMsg p1)] [] (.d (eGranaryref09Val r)) [.box (.d (eGranaryref09Val r))] := by
 unfold ref09_changed at h0
 refine fn0 [0, 1] Tryd.func60 rfl rfl rfl rfl rfl ?_
 refine sr (s1 (bxo (k := 0) rfl rfl rfl) (s1 (bxo (k := 1) rfl rfl rfl) (s1 (alo (k := 2) zo133 rfl) (sn (SC.seqB h0 (fun y => ⟨mk 133 [(2, .ref 0 0 0), (4, .ref 1 0 0)], [.box (.d (eGranaryref09Val p0)), .box (.d (eGranaryref09Val (Granaryref09Val.mk false ([] : List UInt8))))]⟩) ?_ ?_)))))
 ·intro u1_239 h1 h0
  refine sr (s1 (far (k := 1) rfl fo61_1 ts3 rfl) (s1 (lod rfl (ld_box ts3 ta3 rfl rfl)) (sn (SC.blk (sr (s1 (bi rfl rfl q_i64_eql) (sa rfl (sn (cB h1 rfl (fun h1 => ?_) (fun h1 => ?_))))))))))
  ·have q := si h1; subst q; have q := si h0; subst q
   exact sr (s1 (far (k := 4) rfl fo61_4 ts9 rfl) (s1 (lod rfl (ld_box ts9 ta9 rfl rfl)) (s1 (bld rfl (bd133_0_1 true p1.Val)) (s0 (sto rfl rfl (sB (d' := .d (eGranaryref09Val (Granaryref09Val.mk true p1.Val))) ts133 rfl rfl rfl rfl rfl rfl rfl)) (sn (SC.ret (finR (wc (e' := [(4, .ref 0 0 0)]) [2] [2] (by kernel_rfl) rfl (by kernel_rfl)) (lresC rfl (ld_box ts133 ta133 rfl rfl) lresN) rfl)))))))
  ·refine sr (s1 (bi rfl rfl q_i64_eql) (sa rfl (sn (cB h1 rfl (fun h1 => ?_) (fun h1 => ?_)))))
   ·have q := si h1; subst q; have q := si h0; subst q
    exact sr (s1 (bld rfl (bd133_ )) (s0 (sto rfl rfl (sB (d' := .d (eGranaryref09Val (Granaryref09Val.mk false ([] : List UInt8)))) ts133 rfl rfl rfl rfl rfl rfl rfl)) (sn (SC.ret (finR (wc (e' := [(4, .ref 0 0 0)]) [2] [2] (by kernel_rfl) rfl (by kernel_rfl)) (lresC rfl (ld_box ts133 ta133 rfl rfl) lresN) rfl)))))
   ·refine sr (s1 (bi rfl rfl q_i64_eql) (sa rfl (sn (cB h1 rfl (fun h1 => ?_) (fun h1 => ?_)))))
    ·refine sq (SC.seqP h1 (fun y => ⟨mk 133 [(2, .ref 0 0 0), (3, .ref 1 0 0), (4, .ref 2 0 0), (37, .d (eB y))], [.box (.d (eGranaryref09Val p0)), .box (.d (eApiMsg p1)), .box (.d (eGranaryref09Val (Granaryref09Val.mk false ([] : List UInt8))))]⟩) ?_ ?_)
     ·intro u2_241 h2
      refine SC.region (s1 (far (k := 0) rfl fo133_0 ts4 rfl) (s1 (lod rfl (ld_box ts4 ta4 rfl rfl)) (s1 (nt rfl) (sm rfl (sp h2 (fun h2 => ?_) (fun h2 => ?_))))))
      ·have q := si h2; subst q
       refine kw rfl (kw rfl (kw rfl (s1 (pkt rfl rfl) (sm rfl (kw rfl (kw rfl (kw rfl (kw rfl (kw rfl ?_)))))))))
       exact kw rfl (kw rfl (s1 (pkt rfl rfl) (SO.nil ((wq rfl)))))
      ·refine gw rfl (far (k := 5) rfl fo61_5 ts3 rfl) (gw rfl (lod rfl (ld_box ts3 ta3 rfl rfl)) (gw rfl (bi rfl rfl q_i64_lss) (s1 (pkf rfl rfl) (sm rfl (sp h2 (fun h2 => ?_) (fun h2 => ?_))))))
       ·have q := si h2; subst q
        exact kw rfl (kw rfl (kw rfl (kw rfl (kw rfl (kw rfl (kw rfl (s1 (pkt rfl rfl) (SO.nil ((wq rfl))))))))))
       ·have q := si h2; subst q
        exact gw rfl (far (k := 5) rfl fo61_5 ts3 rfl) (gw rfl (lod rfl (ld_box ts3 ta3 rfl rfl)) (gw rfl (far (k := 1) rfl fo133_1 ts9 rfl) (gw rfl (lod rfl (ld_box ts9 ta9 rfl rfl)) (gw rfl (len rfl rfl rfl (len_str un9)) (gw rfl (bi rfl rfl q_i64_sub) (gw rfl (bi rfl rfl q_i64_gtr) (s1 (pkf rfl rfl) (SO.nil ((wq rfl))))))))))
     ·rintro y240 h1
      refine cB h1 rfl (fun h1 => ?_) (fun h1 => ?_)
      ·have q := si h1; subst q; have q := si h0; subst q
       exact sr (s1 (lod (v := .d (eGranaryref09Val p0)) rfl (ld_box ts133 ta133 rfl rfl)) (s0 (sto rfl rfl (sB (d' := .d (eGranaryref09Val p0)) ts133 rfl rfl rfl rfl rfl rfl rfl)) (sn (SC.ret (finR (wc (e' := [(4, .ref 0 0 0)]) [2] [2] (by kernel_rfl) rfl (by kernel_rfl)) (lresC rfl (ld_box ts133 ta133 rfl rfl) lresN) rfl)))))
      ·refine sk (sr (s1 (far (k := 1) rfl fo133_1 ts9 rfl) (s1 (lod rfl (ld_box ts9 ta9 rfl rfl)) (s1 (cvs (s := p0.s) (k := 3) rfl un9 un112 un5 ts5 rfl) (sa rfl (sn (sr (sa rfl (sn ?_)))))))))
       refine SC.seqP h1 (fun y => ⟨mk 133 [(4, .ref 0 0 0), (5, .slc 1 1 0 y.length none)], [.box (.d (eGranaryref09Val (Granaryref09Val.mk false ([] : List UInt8)))), .row 1 (List.map eU8 y) true]⟩) ?_ ?_
       ·intro u2_261 h2
        obtain ⟨u3_275, h3, h2⟩ := ob h2
        refine sr (sa rfl (sn (SC.blk (SC.loopB h3 (fun y => ⟨mk 133 [(3, .ref 0 0 0), (4, .ref 1 0 0), (5, .slc 2 1 0 y.1.length none), (6, .d (eI y.2.1)), (7, .d (eI y.2.2))], [.box (.d (eApiMsg p1)), .box (.d (eGranaryref09Val (Granaryref09Val.mk false ([] : List UInt8)))), .row 1 (List.map eU8 y.1) true]⟩) (wc [1, 2, 3] [1, 2, 3] (by kernel_rfl) rfl (by kernel_rfl)) ?_))))
        intro n279
        rintro ⟨y265, y266, y267⟩ w3_274 h4 hv4
        refine sq (sr (sm rfl (s1 (bi rfl rfl q_i64_geq) (sn (cB h4 rfl (fun h4 => ?_) (fun h4 => ?_))))))
        ·obtain ⟨v276, hv276, h4⟩ := ob h4; obtain ⟨hg277, h4⟩ := gd h4; obtain ⟨v278, hv278, h4⟩ := ob h4
         refine sk (sq (SC.blk (sd (by kernel_rfl) (t1 ([], false) (mv rfl) rfl (t1 ([], false) (far (k := 5) rfl fo61_5 ts3 rfl) rfl (t1 ([0], false) (lod rfl (ld_box ts3 ta3 rfl rfl)) rfl (t1 ([], false) (mv rfl) rfl (t1 ([], false) (bi rfl rfl q_i64_add) rfl (t1 ([], false) (iaz rfl rfl un112 ts5 (getI_lt hv276)) rfl ?_)))))))))
         refine t1 ([2], false) (lod rfl (ld_row ts5 ta5 rfl (map_get (getI_some hv276).2) rfl)) rfl (t1 ([], false) (cvo rfl (cv_u8_i64 un5 un3 v276)) rfl (t1 ([], false) (far (k := 6) rfl fo61_6 ts59 rfl) rfl (t1 ([0], false) (lod rfl (ld_box ts59 ta59 rfl rfl)) rfl (t1 ([], false) (mv rfl) rfl (t1 ([], false) (bi rfl rfl q_i64_mul) rfl (t1 ([], false) (bi rfl rfl q_i64_sub) rfl (t1 ([], false) (bi (v := .d (eU64 (shr64 p1.Num ((w64 ((56 : Int) - (w64 ((8 : Int) * y267)))).toNat)))) rfl rfl (fun X Y => b_u64_shr _ X Y p1.Num _ hg277)) rfl (t1 ([], false) (cvo rfl (cv_u64_u8 un59 un5 (shr64 p1.Num ((w64 ((56 : Int) - (w64 ((8 : Int) * y267)))).toNat)))) rfl (t1 ([], false) (cvo rfl (cv_u8_i64 un5 un3 ((shr64 p1.Num ((w64 ((56 : Int) - (w64 ((8 : Int) * y267)))).toNat)).toUInt8))) rfl ?_)))))))))
         refine t1 ([], false) (bi rfl rfl q_i64_add) rfl (t1 ([], false) (mv rfl) rfl (t1 ([], false) (bi rfl rfl q_i64_add) rfl (t1 ([], false) (asg rfl) rfl (tn (by decide +kernel) (sr (sm rfl (s1 (far (k := 5) rfl fo61_5 ts3 rfl) (s1 (lod rfl (ld_box ts3 ta3 rfl rfl)) (sm rfl ?_)))))))))
         refine s1 (bi rfl rfl q_i64_add) (sm rfl (s1 (cvo rfl (cv_i64_u8 un3 un5 (w64 ((w64 ((v276.toNat : Int) + (((shr64 p1.Num ((w64 ((56 : Int) - (w64 ((8 : Int) * y267)))).toNat)).toUInt8).toNat : Int))) + y266)))) (s1 (iaz rfl rfl un112 ts5 (getI_lt hv278)) (s0 (sto (b := .d (eU8 (u8i (w64 ((w64 ((v276.toNat : Int) + (((shr64 p1.Num ((w64 ((56 : Int) - (w64 ((8 : Int) * y267)))).toNat)).toUInt8).toNat : Int))) + y266))))) rfl rfl (sR (f := eU8) (v := (u8i (w64 ((w64 ((v276.toNat : Int) + (((shr64 p1.Num ((w64 ((56 : Int) - (w64 ((8 : Int) * y267)))).toNat)).toUInt8).toNat : Int))) + y266)))) ts5 rfl rfl rfl rfl (getI_some hv278).2 rfl rfl)) (sn (SC.region (sm rfl (s1 (bi (v := .d (eI (w64 (Int.tdiv (w64 ((w64 ((v276.toNat : Int) + (((shr64 p1.Num ((w64 ((56 : Int) - (w64 ((8 : Int) * y267)))).toNat)).toUInt8).toNat : Int))) + y266)) (256 : Int))))) rfl rfl (fun X Y => b_i64_quo _ X Y (w64 ((w64 ((v276.toNat : Int) + (((shr64 p1.Num ((w64 ((56 : Int) - (w64 ((8 : Int) * y267)))).toNat)).toUInt8).toNat : Int))) + y266)) (256 : Int) (by decide))) (sa rfl ?_)))))))))
         refine SO.nil ?_
         change SC _ _ _ _ _
         have q := si h4; subst q
         exact SC.region (sm rfl (s1 (bi rfl rfl q_i64_sub) (sa rfl (SO.nil (lf (Wk.env (EW.cons (AW.refl _) (EW.cons (AW.refl _) (EW.cons (AW.slc rfl (by simp)) (EW.cons (AW.refl _) (EW.cons (AW.refl _) EW.nil)))))))))))
        ·have q := si h4; subst q; have q : _ = _ := hv4; subst q; have q := si h2; subst q
         exact SC.exit ((wc [1, 2] [1, 2] (by kernel_rfl) rfl (by kernel_rfl)))
       ·rintro y260 h1
        have q := si h1; subst q; have q := si h0; subst q
        exact sr (sm rfl (s1 (cvo (v := .d (eS y260)) rfl (cv_bytes_str un112 un9 un5 (el_full (xs := y260) rfl) (fun _ hh => by cases hh))) (s1 (bld rfl (bd133_0_1 true y260)) (s0 (sto rfl rfl (sB (d' := .d (eGranaryref09Val (Granaryref09Val.mk true y260))) ts133 rfl rfl rfl rfl rfl rfl rfl)) (sn (SC.ret (finR (wc (e' := [(4, .ref 0 0 0)]) [0] [0] (by kernel_rfl) rfl (by kernel_rfl)) (lresC rfl (ld_box ts133 ta133 rfl rfl) lresN) rfl)))))))
    ·refine sr (s1 (bi rfl rfl q_i64_eql) (sa rfl (sn (cB h1 rfl (fun h1 => ?_) (fun h1 => ?_)))))
     ·refine sq (SC.seqP h1 (fun y => ⟨mk 133 [(2, .ref 0 0 0), (3, .ref 1 0 0), (4, .ref 2 0 0), (116, .d (eB y))], [.box (.d (eGranaryref09Val p0)), .box (.d (eApiMsg p1)), .box (.d (eGranaryref09Val (Granaryref09Val.mk false ([] : List UInt8))))]⟩) ?_ ?_)
      ·intro u2_282 h2
       refine SC.draws (by kernel_rfl) (t1 ([], false) (far (k := 0) rfl fo133_0 ts4 rfl) rfl (t1 ([0], false) (lod rfl (ld_box ts4 ta4 rfl rfl)) rfl (t1 ([], false) (nt rfl) rfl (t1 ([], false) (mv rfl) rfl (tp h2 (fun h2 => ?_) (fun h2 => ?_))))))
       ·have q := si h2; subst q
        refine jw rfl (jw rfl (jw rfl (t1 ([], false) (pkt rfl rfl) rfl (t1 ([], false) (mv rfl) rfl (jw rfl (jw rfl (jw rfl (t1 ([], false) (pkt rfl rfl) rfl (t1 ([], false) (mv rfl) rfl ?_)))))))))
        refine jw rfl (jw rfl (jw rfl (t1 ([], false) (pkt rfl rfl) rfl (t1 ([], false) (mv rfl) rfl (jw rfl (jw rfl (jw rfl (jw rfl (jw rfl ?_)))))))))
        refine jw rfl (jw rfl (t1 ([], false) (pkt rfl rfl) rfl (t1 ([], false) (mv rfl) rfl (jw rfl (jw rfl (jw rfl (jw rfl (jw rfl (jw rfl ?_)))))))))
        refine jw rfl (jw rfl (t1 ([], false) (pkt rfl rfl) rfl (ST.nil (And.intro (by decide +kernel) ?_))))
        exact (wq rfl)
       ·refine u1 ([], false) (ww rfl) (far (k := 1) rfl fo133_1 ts9 rfl) rfl (u1 ([0], false) (ww rfl) (lod rfl (ld_box ts9 ta9 rfl rfl)) rfl (u1 ([], false) (ww rfl) (bi rfl rfl (q_str_eql (b := ([] : List UInt8)))) rfl (t1 ([], false) (pkf rfl rfl) rfl (t1 ([], false) (mv rfl) rfl (tp h2 (fun h2 => ?_) (fun h2 => ?_))))))
        ·have q := si h2; subst q
         refine jw rfl (jw rfl (jw rfl (t1 ([], false) (pkt rfl rfl) rfl (t1 ([], false) (mv rfl) rfl (jw rfl (jw rfl (jw rfl (t1 ([], false) (pkt rfl rfl) rfl (t1 ([], false) (mv rfl) rfl ?_)))))))))
         refine jw rfl (jw rfl (jw rfl (jw rfl (jw rfl (jw rfl (jw rfl (t1 ([], false) (pkt rfl rfl) rfl (t1 ([], false) (mv rfl) rfl (jw rfl ?_)))))))))
         refine jw rfl (jw rfl (jw rfl (jw rfl (jw rfl (jw rfl (jw rfl (t1 ([], false) (pkt rfl rfl) rfl (ST.nil (And.intro (by decide +kernel) ?_)))))))))
         exact (wq rfl)
        ·refine u1 ([], false) (ww rfl) (far (k := 5) rfl fo61_5 ts3 rfl) rfl (u1 ([1], false) (ww rfl) (lod rfl (ld_box ts3 ta3 rfl rfl)) rfl (u1 ([], false) (ww rfl) (bi rfl rfl q_i64_lss) rfl (t1 ([], false) (pkf rfl rfl) rfl (t1 ([], false) (mv rfl) rfl (tp h2 (fun h2 => ?_) (fun h2 => ?_))))))
         ·have q := si h2; subst q
          refine jw rfl (jw rfl (jw rfl (t1 ([], false) (pkt rfl rfl) rfl (t1 ([], false) (mv rfl) rfl (jw rfl (jw rfl (jw rfl (jw rfl (jw rfl ?_)))))))))
          refine jw rfl (jw rfl (t1 ([], false) (pkt rfl rfl) rfl (t1 ([], false) (mv rfl) rfl (jw rfl (jw rfl (jw rfl (jw rfl (jw rfl (jw rfl ?_)))))))))
          refine jw rfl (jw rfl (t1 ([], false) (pkt rfl rfl) rfl (ST.nil (And.intro (by decide +kernel) ?_))))
          exact (wq rfl)
         ·refine u1 ([], false) (ww rfl) (far (k := 5) rfl fo61_5 ts3 rfl) rfl (u1 ([1], false) (ww rfl) (lod rfl (ld_box ts3 ta3 rfl rfl)) rfl (u1 ([], false) (ww rfl) (bi rfl rfl q_i64_gtr) rfl (t1 ([], false) (pkf rfl rfl) rfl (t1 ([], false) (mv rfl) rfl (tp h2 (fun h2 => ?_) (fun h2 => ?_))))))
          ·have q := si h2; subst q
           refine jw rfl (jw rfl (jw rfl (jw rfl (jw rfl (jw rfl (jw rfl (t1 ([], false) (pkt rfl rfl) rfl (t1 ([], false) (mv rfl) rfl (jw rfl ?_)))))))))
           refine jw rfl (jw rfl (jw rfl (jw rfl (jw rfl (jw rfl (jw rfl (t1 ([], false) (pkt rfl rfl) rfl (ST.nil (And.intro (by decide +kernel) ?_)))))))))
           exact (wq rfl)
          ·obtain ⟨v283, hv283, h2⟩ := ob h2
           refine u1 ([], false) (ww rfl) (far (k := 1) rfl fo133_1 ts9 rfl) rfl (u1 ([0], false) (ww rfl) (lod rfl (ld_box ts9 ta9 rfl rfl)) rfl (u1 ([], false) (ww rfl) (ixs rfl rfl rfl rfl (ix_str un9 (getI_some hv283).1 (getI_some hv283).2)) rfl (u1 ([], false) (ww rfl) (cvo rfl (cv_u8_i64 un5 un3 v283)) rfl (u1 ([], false) (ww rfl) (far (k := 5) rfl fo61_5 ts3 rfl) rfl (u1 ([1], false) (ww rfl) (lod rfl (ld_box ts3 ta3 rfl rfl)) rfl (u1 ([], false) (ww rfl) (bi rfl rfl q_i64_neq) rfl (t1 ([], false) (pkf rfl rfl) rfl (t1 ([], false) (mv rfl) rfl (tp h2 (fun h2 => ?_) (fun h2 => ?_))))))))))
           ·have q := si h2; subst q
            refine jw rfl (jw rfl (jw rfl (jw rfl (jw rfl (jw rfl (jw rfl (jw rfl (t1 ([], false) (pkt rfl rfl) rfl (ST.nil (And.intro (by decide +kernel) ?_))))))))))
            exact (wq rfl)
           ·have q := si h2; subst q
            refine u1 ([], false) (ww rfl) (far (k := 1) rfl fo133_1 ts9 rfl) rfl (u1 ([0], false) (ww rfl) (lod rfl (ld_box ts9 ta9 rfl rfl)) rfl (u1 ([], false) (ww rfl) (len rfl rfl rfl (len_str un9)) rfl (u1 ([], false) (ww rfl) (far (k := 4) rfl fo61_4 ts9 rfl) rfl (u1 ([1], false) (ww rfl) (lod rfl (ld_box ts9 ta9 rfl rfl)) rfl (u1 ([], false) (ww rfl) (len rfl rfl rfl (len_str un9)) rfl (u1 ([], false) (ww rfl) (bi rfl rfl q_i64_add) rfl (u1 ([], false) (ww rfl) (bi rfl rfl q_i64_gtr) rfl (t1 ([], false) (pkf rfl rfl) rfl (ST.nil (And.intro (by decide +kernel) ?_))))))))))
            exact (wq rfl)
      ·rintro y281 h1
       refine cB h1 rfl (fun h1 => ?_) (fun h1 => ?_)
       ·have q := si h1; subst q; have q := si h0; subst q
        exact sr (s1 (lod (v := .d (eGranaryref09Val p0)) rfl (ld_box ts133 ta133 rfl rfl)) (s0 (sto rfl rfl (sB (d' := .d (eGranaryref09Val p0)) ts133 rfl rfl rfl rfl rfl rfl rfl)) (sn (SC.ret (finR (wc (e' := [(4, .ref 0 0 0)]) [2] [2] (by kernel_rfl) rfl (by kernel_rfl)) (lresC rfl (ld_box ts133 ta133 rfl rfl) lresN) rfl)))))
       ·obtain ⟨hg284, h1⟩ := gd h1; obtain ⟨hg285, h1⟩ := gd h1; obtain ⟨hg286, h1⟩ := gd h1; have q := si h1; subst q; have q := si h0; subst q
        refine sk (sd (by kernel_rfl) (t1 ([], false) (far (k := 5) rfl fo61_5 ts3 rfl) rfl (t1 ([1], false) (lod rfl (ld_box ts3 ta3 rfl rfl)) rfl (t1 ([], false) (bi rfl rfl q_i64_add) rfl (t1 ([], false) (cvo rfl (cv_i64_u8 un3 un5 (w64 (p1.Off + (1 : Int))))) rfl (t1 ([3], true) (bsn (k := 3) (ds := List.map eU8 [(u8i (w64 (p1.Off + (1 : Int))))]) (off := 0) (l' := [(u8i (w64 (p1.Off + (1 : Int))))].length) rfl un112 ei5 rfl rfl (by rfl) rfl rfl rfl) rfl (t1 ([3], false) (cvo (v := .d (eS [(u8i (w64 (p1.Off + (1 : Int))))])) rfl (cv_bytes_str un112 un9 un5 (el_full (xs := [(u8i (w64 (p1.Off + (1 : Int))))]) rfl) (fun _ hh => by cases hh))) rfl (t1 ([], false) (far (k := 1) rfl fo133_1 ts9 rfl) rfl (t1 ([0], false) (lod rfl (ld_box ts9 ta9 rfl rfl)) rfl ?_)))))))))
        exact t1 ([], false) (slo rfl rfl rfl rfl (sl_str_lo un9 hg284)) rfl (t1 ([], false) (bi (v := .d (eS ([(u8i (w64 (p1.Off + (1 : Int))))] ++ (List.drop (1 : Int).toNat p0.s)))) rfl rfl (fun X Y => b_str_add _ X Y [(u8i (w64 (p1.Off + (1 : Int))))] (List.drop (1 : Int).toNat p0.s) hg285)) rfl (t1 ([], false) (far (k := 4) rfl fo61_4 ts9 rfl) rfl (t1 ([1], false) (lod rfl (ld_box ts9 ta9 rfl rfl)) rfl (t1 ([], false) (bi (v := .d (eS (([(u8i (w64 (p1.Off + (1 : Int))))] ++ (List.drop (1 : Int).toNat p0.s)) ++ p1.Val))) rfl rfl (fun X Y => b_str_add _ X Y ([(u8i (w64 (p1.Off + (1 : Int))))] ++ (List.drop (1 : Int).toNat p0.s)) p1.Val hg286)) rfl (t1 ([], false) (bld rfl (bd133_0_1 true (([(u8i (w64 (p1.Off + (1 : Int))))] ++ (List.drop (1 : Int).toNat p0.s)) ++ p1.Val))) rfl (t0 ([2], true) (sto rfl rfl (sB (d' := .d (eGranaryref09Val (Granaryref09Val.mk true (([(u8i (w64 (p1.Off + (1 : Int))))] ++ (List.drop (1 : Int).toNat p0.s)) ++ p1.Val)))) ts133 rfl rfl rfl rfl rfl rfl rfl)) rfl (tn (by decide +kernel) (SC.ret (finR (wc (e' := [(4, .ref 0 0 0)]) [2] [2] (by kernel_rfl) rfl (by kernel_rfl)) (lresC rfl (ld_box ts133 ta133 rfl rfl) lresN) rfl)))))))))
     ·have q := si h1; subst q
      exact SC.skip (lf (wc [0, 2] [0, 2] (by kernel_rfl) rfl (by kernel_rfl)))
 ·intro _ h0
  have q := si h0; subst q
  exact sr (s1 (lod (v := .d (eGranaryref09Val p0)) rfl (ld_box ts133 ta133 rfl rfl)) (s0 (sto rfl rfl (sB (d' := .d (eGranaryref09Val p0)) ts133 rfl rfl rfl rfl rfl rfl rfl)) (sn (SC.ret (finR (wc (e' := [(4, .ref 0 0 0)]) [1] [1] (by kernel_rfl) rfl (by kernel_rfl)) (lresC rfl (ld_box ts133 ta133 rfl rfl) lresN) rfl)))))
noncomputable def ref09_Apply (p0 : ApiEntry) (p1 : ApiMsg) : Option ApiEntry :=
 Option.bind (α := UInt64 × Granaryref09Val × Granaryref09Val)
 (Option.bind (α := Bool)
 (bif (p1.Kind == (1 : Int)) then
 some (p1.Kind == (1 : Int))
 else
 bif (p1.Kind == (2 : Int)) then
 some (p1.Kind == (2 : Int))
 else
 some (p1.Kind == (3 : Int)))
 fun y135 =>
 bif y135 then
 bif (p1.Txn == (0 : UInt64)) then
 Option.bind (ref09_changed (Granaryref09Val.mk p0.Has p0.Val) p1) fun r138 =>
 some (p0.Txn, r138, (Granaryref09Val.mk p0.New p0.NewVal))
 else
 Option.bind (α := Bool)
 (bif (p1.Kind != (3 : Int)) then
 some true
 else
 some (decide (p1.Off ≥ (0 : Int))))
 fun y139 =>
 bif y139 then
 Option.bind (α := UInt64 × Granaryref09Val)
 (bif (p0.Txn == (0 : UInt64)) then
 some (p1.Txn, (Granaryref09Val.mk p0.Has p0.Val))
 else
 some (p0.Txn, (Granaryref09Val.mk p0.New p0.NewVal)))
 fun (y141, y142) =>
 bif (y141 == p1.Txn) then
 Option.bind (ref09_changed y142 p1) fun r145 =>
 some (y141, (Granaryref09Val.mk p0.Has p0.Val), r145)
 else
 some (y141, (Granaryref09Val.mk p0.Has p0.Val), y142)
 else
 some (p0.Txn, (Granaryref09Val.mk p0.Has p0.Val), (Granaryref09Val.mk p0.New p0.NewVal))
 else
 bif (p1.Kind == (4 : Int)) then
 Option.bind (ref09_changed (Granaryref09Val.mk p0.Has p0.Val) p1) fun r147 =>
 Option.bind (ref09_changed (Granaryref09Val.mk p0.New p0.NewVal) p1) fun r149 =>
 some (p0.Txn, r147, r149)
 else
 Option.bind (α := Bool)
 (bif (p1.Kind == (5 : Int)) then
 some (p1.Kind == (5 : Int))
 else
 some (p1.Kind == (6 : Int)))
 fun y150 =>
 bif y150 then
 Option.bind (α := Bool)
 (bif (p0.Txn == p1.Txn) then
 some (p0.Txn != (0 : UInt64))
 else
 some false)
 fun y152 =>
 bif y152 then
 Option.bind (α := Granaryref09Val)
 (bif (p1.Kind == (5 : Int)) then
 some (Granaryref09Val.mk p0.New p0.NewVal)
 else
 some (Granaryref09Val.mk p0.Has p0.Val))
 fun y154 =>
 some ((0 : UInt64), y154, (Granaryref09Val.mk p0.New p0.NewVal))
 else
 some (p0.Txn, (Granaryref09Val.mk p0.Has p0.Val), (Granaryref09Val.mk p0.New p0.NewVal))
 else
 some (p0.Txn, (Granaryref09Val.mk p0.Has p0.Val), (Granaryref09Val.mk p0.New p0.NewVal)))
 fun (y131, y132, y133) =>
 Option.bind (α := ApiEntry)
 (bif y132.has then
 some (ApiEntry.mk p0.Key y132.has y132.s y131 false ([] : List UInt8))
 else
 some (ApiEntry.mk p0.Key y132.has ([] : List UInt8) y131 false ([] : List UInt8)))
 fun y156 =>
 Option.bind (α := ApiEntry)
 (Option.bind (α := Bool)
 (bif (y131 != (0 : UInt64)) then
 some y133.has
 else
 some false)
 fun y162 =>
 bif y162 then
 some (ApiEntry.mk y156.Key y156.Has y156.Val y156.Txn true y133.s)
 else
 some y156)
 fun y160 =>
 some y160
theorem ref09_Apply_ok (p0 : ApiEntry) (p1 : ApiMsg) (r : ApiEntry) (h0 : ref09_Apply p0 p1 = some r) : CallAt Tryd.prog 45 [.d (eApiEntry p0), .d (eApiMsg p1)] [] (.d (eApiEntry r)) [.box (.d (eApiEntry r))] := by
 unfold ref09_Apply at h0
 refine fn0 [0, 1] Tryd.func45 rfl rfl rfl rfl rfl ?_
 refine sr (s1 (bxo (k := 0) rfl rfl rfl) (s1 (bxo (k := 1) rfl rfl rfl) (s1 (alo (k := 2) zo103 rfl) (sn (sr (s1 (far (k := 1) rfl fo103_1 ts4 rfl) (s1 (lod rfl (ld_box ts4 ta4 rfl rfl)) (s1 (far (k := 2) rfl fo103_2 ts9 rfl) (s1 (lod rfl (ld_box ts9 ta9 rfl rfl)) ?_)))))))))
 refine s1 (bld rfl (bd133_0_1 p0.Has p0.Val)) (s1 (alo (k := 3) zo133 rfl) (s0 (sto rfl rfl (sB (d' := .d (eGranaryref09Val (Granaryref09Val.mk p0.Has p0.Val))) ts133 rfl rfl rfl rfl rfl rfl rfl)) (sn (sr (s1 (far (k := 4) rfl fo103_4 ts4 rfl) (s1 (lod rfl (ld_box ts4 ta4 rfl rfl)) (s1 (far (k := 5) rfl fo103_5 ts9 rfl) (s1 (lod rfl (ld_box ts9 ta9 rfl rfl)) (s1 (bld rfl (bd133_0_1 p0.New p0.NewVal)) ?_)))))))))
 refine s1 (alo (k := 4) zo133 rfl) (s0 (sto rfl rfl (sB (d' := .d (eGranaryref09Val (Granaryref09Val.mk p0.New p0.NewVal))) ts133 rfl rfl rfl rfl rfl rfl rfl)) (sn (sr (s1 (far (k := 3) rfl fo103_3 ts59 rfl) (s1 (lod rfl (ld_box ts59 ta59 rfl rfl)) (sa rfl (sn (SC.seqP h0 (fun y => ⟨mk 98 [(2, .ref 0 0 0), (4, .ref 1 0 0), (5, .ref 2 0 0), (6, .ref 3 0 0), (7, .d (eU64 y.1))], [.box (.d (eApiEntry p0)), .box (.d (eApiEntry (ApiEntry.mk ([] : List UInt8) false ([] : List UInt8) (0 : UInt64) false ([] : List UInt8)))), .box (.d (eGranaryref09Val y.2.1)), .box (.d (eGranaryref09Val y.2.2))]⟩) ?_ ?_))))))))
 ·intro u1_134 h1
  refine sr (s1 (far (k := 1) rfl fo61_1 ts3 rfl) (s1 (lod rfl (ld_box ts3 ta3 rfl rfl)) (sn (SC.blk (SC.seqP h1 (fun y => ⟨mk 98 [(2, .ref 0 0 0), (3, .ref 1 0 0), (4, .ref 2 0 0), (5, .ref 3 0 0), (6, .ref 4 0 0), (7, .d (eU64 p0.Txn)), (22, .d (eI p1.Kind)), (23, .d (eB y))], [.box (.d (eApiEntry p0)), .box (.d (eApiMsg p1)), .box (.d (eApiEntry (ApiEntry.mk ([] : List UInt8) false ([] : List UInt8) (0 : UInt64) false ([] : List UInt8)))), .box (.d (eGranaryref09Val (Granaryref09Val.mk p0.Has p0.Val))), .box (.d (eGranaryref09Val (Granaryref09Val.mk p0.New p0.NewVal)))]⟩) ?_ ?_)))))
  ·intro u2_136 h2
   refine sr (s1 (bi rfl rfl q_i64_eql) (sa rfl (sn (cB h2 rfl (fun h2 => ?_) (fun h2 => ?_)))))
   ·have q := si h2; subst q
    exact SC.skip ((wq rfl))
   ·refine sr (s1 (bi rfl rfl q_i64_eql) (sa rfl (sn (cB h2 rfl (fun h2 => ?_) (fun h2 => ?_)))))
    ·have q := si h2; subst q
     exact SC.skip ((wq rfl))
    ·have q := si h2; subst q
     exact SC.region (s1 (bi rfl rfl q_i64_eql) (sa rfl (SO.nil ((wq rfl)))))
  ·rintro y135 h1
   refine cB h1 rfl (fun h1 => ?_) (fun h1 => ?_)
   ·refine sr (s1 (far (k := 3) rfl fo61_3 ts59 rfl) (s1 (lod rfl (ld_box ts59 ta59 rfl rfl)) (s1 (bi rfl rfl (q_u64_eql (b := (0 : UInt64)))) (sn (cB h1 rfl (fun h1 => ?_) (fun h1 => ?_))))))
    ·obtain ⟨r138, hq137, h1⟩ := ob h1; have q := si h1; subst q
     exact SC.region (s1 (lod (v := .d (eGranaryref09Val (Granaryref09Val.mk p0.Has p0.Val))) rfl (ld_box ts133 ta133 rfl rfl)) (s1 (lod (v := .d (eApiMsg p1)) rfl (ld_box ts61 ta61 rfl rfl)) (cq [] [5] (ref09_changed_ok (Granaryref09Val.mk p0.Has p0.Val) p1 _ hq137) wf rfl rfl rfl cb60 rfl rfl rfl rfl rfl rfl rfl rfl (s0 (sto rfl rfl (sB (d' := .d (eGranaryref09Val r138)) ts133 rfl rfl rfl rfl rfl rfl rfl)) (SO.nil ((wc [0, 2, 3, 4] [0, 2, 3, 4] (by kernel_rfl) rfl (by kernel_rfl))))))))
    ·refine SC.seqP h1 (fun y => ⟨mk 98 [(2, .ref 0 0 0), (3, .ref 1 0 0), (4, .ref 2 0 0), (5, .ref 3 0 0), (6, .ref 4 0 0), (7, .d (eU64 p0.Txn)), (40, .d (eB y))], [.box (.d (eApiEntry p0)), .box (.d (eApiMsg p1)), .box (.d (eApiEntry (ApiEntry.mk ([] : List UInt8) false ([] : List UInt8) (0 : UInt64) false ([] : List UInt8)))), .box (.d (eGranaryref09Val (Granaryref09Val.mk p0.Has p0.Val))), .box (.d (eGranaryref09Val (Granaryref09Val.mk p0.New p0.NewVal)))]⟩) ?_ ?_
     ·intro u2_140 h2
      refine SC.region (s1 (far (k := 1) rfl fo61_1 ts3 rfl) (s1 (lod rfl (ld_box ts3 ta3 rfl rfl)) (s1 (bi rfl rfl q_i64_neq) (sm rfl (sp h2 (fun h2 => ?_) (fun h2 => ?_))))))
      ·have q := si h2; subst q
       exact kw rfl (kw rfl (kw rfl (s1 (pkt rfl rfl) (SO.nil ((wq rfl))))))
      ·have q := si h2; subst q
       exact gw rfl (far (k := 5) rfl fo61_5 ts3 rfl) (gw rfl (lod rfl (ld_box ts3 ta3 rfl rfl)) (gw rfl (bi rfl rfl q_i64_geq) (s1 (pkf rfl rfl) (SO.nil ((wq rfl))))))
     ·rintro y139 h1
      refine cB h1 rfl (fun h1 => ?_) (fun h1 => ?_)
      ·refine SC.seqP h1 (fun y => ⟨mk 98 [(2, .ref 0 0 0), (3, .ref 1 0 0), (4, .ref 2 0 0), (5, .ref 3 0 0), (6, .ref 4 0 0), (7, .d (eU64 y.1))], [.box (.d (eApiEntry p0)), .box (.d (eApiMsg p1)), .box (.d (eApiEntry (ApiEntry.mk ([] : List UInt8) false ([] : List UInt8) (0 : UInt64) false ([] : List UInt8)))), .box (.d (eGranaryref09Val (Granaryref09Val.mk p0.Has p0.Val))), .box (.d (eGranaryref09Val y.2))]⟩) ?_ ?_
       ·intro u2_143 h2
        refine sr (sm rfl (s1 (bi rfl rfl (q_u64_eql (b := (0 : UInt64)))) (sn (cB h2 rfl (fun h2 => ?_) (fun h2 => ?_)))))
        ·have q := si h2; subst q
         exact sr (s1 (far (k := 3) rfl fo61_3 ts59 rfl) (s1 (lod rfl (ld_box ts59 ta59 rfl rfl)) (sa rfl (sn (SC.region (s1 (lod (v := .d (eGranaryref09Val (Granaryref09Val.mk p0.Has p0.Val))) rfl (ld_box ts133 ta133 rfl rfl)) (s0 (sto rfl rfl (sB (d' := .d (eGranaryref09Val (Granaryref09Val.mk p0.Has p0.Val))) ts133 rfl rfl rfl rfl rfl rfl rfl)) (SO.nil ((wq rfl))))))))))
        ·have q := si h2; subst q
         exact SC.skip ((wq rfl))
       ·rintro ⟨y141, y142⟩ h1
        refine sr (sm rfl (s1 (far (k := 3) rfl fo61_3 ts59 rfl) (s1 (lod rfl (ld_box ts59 ta59 rfl rfl)) (s1 (bi rfl rfl q_u64_eql) (sn (cB h1 rfl (fun h1 => ?_) (fun h1 => ?_)))))))
        ·obtain ⟨r145, hq144, h1⟩ := ob h1; have q := si h1; subst q
         exact SC.region (s1 (lod (v := .d (eGranaryref09Val y142)) rfl (ld_box ts133 ta133 rfl rfl)) (s1 (lod (v := .d (eApiMsg p1)) rfl (ld_box ts61 ta61 rfl rfl)) (cq [] [5] (ref09_changed_ok y142 p1 _ hq144) wf rfl rfl rfl cb60 rfl rfl rfl rfl rfl rfl rfl rfl (s0 (sto rfl rfl (sB (d' := .d (eGranaryref09Val r145)) ts133 rfl rfl rfl rfl rfl rfl rfl)) (SO.nil ((wc [0, 2, 3, 4] [0, 2, 3, 4] (by kernel_rfl) rfl (by kernel_rfl))))))))
        ·have q := si h1; subst q
         exact SC.skip ((wc [0, 2, 3, 4] [0, 2, 3, 4] (by kernel_rfl) rfl (by kernel_rfl)))
      ·have q := si h1; subst q
       exact SC.skip ((wc [0, 2, 3, 4] [0, 2, 3, 4] (by kernel_rfl) rfl (by kernel_rfl)))
   ·refine sr (s1 (bi rfl rfl q_i64_eql) (sa rfl (sn (cB h1 rfl (fun h1 => ?_) (fun h1 => ?_)))))
    ·obtain ⟨r147, hq146, h1⟩ := ob h1; obtain ⟨r149, hq148, h1⟩ := ob h1; have q := si h1; subst q
     refine sr (s1 (lod (v := .d (eGranaryref09Val (Granaryref09Val.mk p0.Has p0.Val))) rfl (ld_box ts133 ta133 rfl rfl)) (s1 (lod (v := .d (eApiMsg p1)) rfl (ld_box ts61 ta61 rfl rfl)) (cq [] [5] (ref09_changed_ok (Granaryref09Val.mk p0.Has p0.Val) p1 _ hq146) wf rfl rfl rfl cb60 rfl rfl rfl rfl rfl rfl rfl rfl (s0 (sto rfl rfl (sB (d' := .d (eGranaryref09Val r147)) ts133 rfl rfl rfl rfl rfl rfl rfl)) (sn (SC.region (s1 (lod (v := .d (eGranaryref09Val (Granaryref09Val.mk p0.New p0.NewVal))) rfl (ld_box ts133 ta133 rfl rfl)) (s1 (lod (v := .d (eApiMsg p1)) rfl (ld_box ts61 ta61 rfl rfl)) (cq [] [6] (ref09_changed_ok (Granaryref09Val.mk p0.New p0.NewVal) p1 _ hq148) wf rfl rfl rfl cb60 rfl rfl rfl rfl rfl rfl rfl rfl ?_)))))))))
     exact s0 (sto rfl rfl (sB (d' := .d (eGranaryref09Val r149)) ts133 rfl rfl rfl rfl rfl rfl rfl)) (SO.nil ((wc [0, 2, 3, 4] [0, 2, 3, 4] (by kernel_rfl) rfl (by kernel_rfl))))
    ·refine SC.seqP h1 (fun y => ⟨mk 98 [(2, .ref 0 0 0), (3, .ref 1 0 0), (4, .ref 2 0 0), (5, .ref 3 0 0), (6, .ref 4 0 0), (7, .d (eU64 p0.Txn)), (61, .d (eB y))], [.box (.d (eApiEntry p0)), .box (.d (eApiMsg p1)), .box (.d (eApiEntry (ApiEntry.mk ([] : List UInt8) false ([] : List UInt8) (0 : UInt64) false ([] : List UInt8)))), .box (.d (eGranaryref09Val (Granaryref09Val.mk p0.Has p0.Val))), .box (.d (eGranaryref09Val (Granaryref09Val.mk p0.New p0.NewVal)))]⟩) ?_ ?_
     ·intro u2_151 h2
      refine sr (s1 (bi rfl rfl q_i64_eql) (sa rfl (sn (cB h2 rfl (fun h2 => ?_) (fun h2 => ?_)))))
      ·have q := si h2; subst q
       exact SC.skip ((wq rfl))
      ·have q := si h2; subst q
       exact SC.region (s1 (bi rfl rfl q_i64_eql) (sa rfl (SO.nil ((wq rfl)))))
     ·rintro y150 h1
      refine cB h1 rfl (fun h1 => ?_) (fun h1 => ?_)
      ·refine SC.seqP h1 (fun y => ⟨mk 98 [(2, .ref 0 0 0), (3, .ref 1 0 0), (4, .ref 2 0 0), (5, .ref 3 0 0), (6, .ref 4 0 0), (7, .d (eU64 p0.Txn)), (71, .d (eB y))], [.box (.d (eApiEntry p0)), .box (.d (eApiMsg p1)), .box (.d (eApiEntry (ApiEntry.mk ([] : List UInt8) false ([] : List UInt8) (0 : UInt64) false ([] : List UInt8)))), .box (.d (eGranaryref09Val (Granaryref09Val.mk p0.Has p0.Val))), .box (.d (eGranaryref09Val (Granaryref09Val.mk p0.New p0.NewVal)))]⟩) ?_ ?_
       ·intro u2_153 h2
        refine SC.region (sm rfl (s1 (far (k := 3) rfl fo61_3 ts59 rfl) (s1 (lod rfl (ld_box ts59 ta59 rfl rfl)) (s1 (bi rfl rfl q_u64_eql) (sm rfl (sp h2 (fun h2 => ?_) (fun h2 => ?_)))))))
        ·have q := si h2; subst q
         exact gw rfl (mv rfl) (gw rfl (bi rfl rfl (q_u64_neq (b := (0 : UInt64)))) (s1 (pkt rfl rfl) (SO.nil ((wq rfl)))))
        ·have q := si h2; subst q
         exact kw rfl (kw rfl (s1 (pkf rfl rfl) (SO.nil ((wq rfl)))))
       ·rintro y152 h1
        refine cB h1 rfl (fun h1 => ?_) (fun h1 => ?_)
        ·refine SC.seqP h1 (fun y => ⟨mk 98 [(2, .ref 0 0 0), (4, .ref 1 0 0), (5, .ref 2 0 0), (6, .ref 3 0 0)], [.box (.d (eApiEntry p0)), .box (.d (eApiEntry (ApiEntry.mk ([] : List UInt8) false ([] : List UInt8) (0 : UInt64) false ([] : List UInt8)))), .box (.d (eGranaryref09Val y)), .box (.d (eGranaryref09Val (Granaryref09Val.mk p0.New p0.NewVal)))]⟩) ?_ ?_
         ·intro u2_155 h2
          refine sr (s1 (far (k := 1) rfl fo61_1 ts3 rfl) (s1 (lod rfl (ld_box ts3 ta3 rfl rfl)) (s1 (bi rfl rfl q_i64_eql) (sn (cB h2 rfl (fun h2 => ?_) (fun h2 => ?_))))))
          ·have q := si h2; subst q
           exact SC.region (s1 (lod (v := .d (eGranaryref09Val (Granaryref09Val.mk p0.New p0.NewVal))) rfl (ld_box ts133 ta133 rfl rfl)) (s0 (sto rfl rfl (sB (d' := .d (eGranaryref09Val (Granaryref09Val.mk p0.New p0.NewVal))) ts133 rfl rfl rfl rfl rfl rfl rfl)) (SO.nil ((wc [0, 2, 3, 4] [0, 2, 3, 4] (by kernel_rfl) rfl (by kernel_rfl))))))
          ·have q := si h2; subst q
           exact SC.skip ((wc [0, 2, 3, 4] [0, 2, 3, 4] (by kernel_rfl) rfl (by kernel_rfl)))
         ·rintro y154 h1
          have q := si h1; subst q
          exact SC.region (s1 (asg (v := .d (eU64 (0 : UInt64))) rfl) (SO.nil ((wq rfl))))
        ·have q := si h1; subst q
         exact SC.skip ((wc [0, 2, 3, 4] [0, 2, 3, 4] (by kernel_rfl) rfl (by kernel_rfl)))
      ·have q := si h1; subst q
       exact SC.skip ((wc [0, 2, 3, 4] [0, 2, 3, 4] (by kernel_rfl) rfl (by kernel_rfl)))
 ·rintro ⟨y131, y132, y133⟩ h0
  refine sr (s1 (far (k := 0) rfl fo103_0 ts9 rfl) (s1 (lod rfl (ld_box ts9 ta9 rfl rfl)) (s1 (far (k := 0) rfl fo133_0 ts4 rfl) (s1 (lod rfl (ld_box ts4 ta4 rfl rfl)) (sm rfl (s1 (bld rfl (bd103_0_1_3 p0.Key y132.has y131)) (s1 (alo (k := 4) zo103 rfl) (s0 (sto rfl rfl (sB (d' := .d (eApiEntry (ApiEntry.mk p0.Key y132.has ([] : List UInt8) y131 false ([] : List UInt8)))) ts103 rfl rfl rfl rfl rfl rfl rfl)) (sn ?_)))))))))
  refine SC.seqP h0 (fun y => ⟨mk 98 [(4, .ref 0 0 0), (6, .ref 1 0 0), (7, .d (eU64 y131)), (8, .ref 2 0 0)], [.box (.d (eApiEntry (ApiEntry.mk ([] : List UInt8) false ([] : List UInt8) (0 : UInt64) false ([] : List UInt8)))), .box (.d (eGranaryref09Val y133)), .box (.d (eApiEntry y))]⟩) ?_ ?_
  ·intro u1_157 h1
   refine sr (s1 (far (k := 0) rfl fo133_0 ts4 rfl) (s1 (lod rfl (ld_box ts4 ta4 rfl rfl)) (sn (cB h1 rfl (fun h1 => ?_) (fun h1 => ?_)))))
   ·have q := si h1; subst q
    exact SC.region (s1 (far (k := 1) rfl fo133_1 ts9 rfl) (s1 (lod rfl (ld_box ts9 ta9 rfl rfl)) (s1 (far (k := 2) rfl fo103_2 ts9 rfl) (s0 (sto rfl rfl (sB (d' := .d (eApiEntry (ApiEntry.mk p0.Key y132.has y132.s y131 false ([] : List UInt8)))) ts9 rfl rfl rfl rfl rfl rfl rfl)) (SO.nil ((wc [1, 3, 4] [1, 3, 4] (by kernel_rfl) rfl (by kernel_rfl))))))))
   ·have q := si h1; subst q
    exact SC.skip ((wc [1, 3, 4] [1, 3, 4] (by kernel_rfl) rfl (by kernel_rfl)))
  ·rintro y156 h0
   refine SC.seqP h0 (fun y => ⟨mk 98 [(4, .ref 0 0 0), (8, .ref 1 0 0)], [.box (.d (eApiEntry (ApiEntry.mk ([] : List UInt8) false ([] : List UInt8) (0 : UInt64) false ([] : List UInt8)))), .box (.d (eApiEntry y))]⟩) ?_ ?_
   ·intro u1_161 h1
    refine SC.seqP h1 (fun y => ⟨mk 98 [(4, .ref 0 0 0), (6, .ref 1 0 0), (8, .ref 2 0 0), (92, .d (eB y))], [.box (.d (eApiEntry (ApiEntry.mk ([] : List UInt8) false ([] : List UInt8) (0 : UInt64) false ([] : List UInt8)))), .box (.d (eGranaryref09Val y133)), .box (.d (eApiEntry y156))]⟩) ?_ ?_
    ·intro u2_163 h2
     refine SC.region (sm rfl (s1 (bi rfl rfl (q_u64_neq (b := (0 : UInt64)))) (sm rfl (sp h2 (fun h2 => ?_) (fun h2 => ?_)))))
     ·have q := si h2; subst q
      exact gw rfl (far (k := 0) rfl fo133_0 ts4 rfl) (gw rfl (lod rfl (ld_box ts4 ta4 rfl rfl)) (s1 (pkt rfl rfl) (SO.nil ((wq rfl)))))
     ·have q := si h2; subst q
      exact kw rfl (kw rfl (s1 (pkf rfl rfl) (SO.nil ((wq rfl)))))
    ·rintro y162 h1
     refine cB h1 rfl (fun h1 => ?_) (fun h1 => ?_)
     ·have q := si h1; subst q
      refine sr (s1 (far (k := 4) rfl fo103_4 ts4 rfl) (s0 (sto (b := .d (eB true)) rfl rfl (sB (d' := .d (eApiEntry (ApiEntry.mk y156.Key y156.Has y156.Val y156.Txn true y156.NewVal))) ts4 rfl rfl rfl rfl rfl rfl rfl)) (sn (SC.region (s1 (far (k := 1) rfl fo133_1 ts9 rfl) (s1 (lod rfl (ld_box ts9 ta9 rfl rfl)) (s1 (far (k := 5) rfl fo103_5 ts9 rfl) (s0 (sto rfl rfl (sB (d' := .d (eApiEntry (ApiEntry.mk y156.Key y156.Has y156.Val y156.Txn true y133.s))) ts9 rfl rfl rfl rfl rfl rfl rfl)) (SO.nil ?_)))))))))
      exact (wc [0, 2] [0, 2] (by kernel_rfl) rfl (by kernel_rfl))
     ·have q := si h1; subst q
      exact SC.skip ((wc [0, 2] [0, 2] (by kernel_rfl) rfl (by kernel_rfl)))
   ·rintro y160 h0
    have q := si h0; subst q
    exact sr (s1 (lod (v := .d (eApiEntry y160)) rfl (ld_box ts103 ta103 rfl rfl)) (s0 (sto rfl rfl (sB (d' := .d (eApiEntry y160)) ts103 rfl rfl rfl rfl rfl rfl rfl)) (sn (SC.ret (finR (wc (e' := [(4, .ref 0 0 0)]) [0] [0] (by kernel_rfl) rfl (by kernel_rfl)) (lresC rfl (ld_box ts103 ta103 rfl rfl) lresN) rfl)))))
noncomputable def ref09_Gone (p0 : ApiEntry) : Option Bool :=
 Option.bind (α := Bool)
 (bif (!p0.Has) then
 some (p0.Txn == (0 : UInt64))
 else
 some false)
 fun y6 =>
 some y6
theorem ref09_Gone_ok (p0 : ApiEntry) (r : Bool) (h0 : ref09_Gone p0 = some r) : CallAt Tryd.prog 46 [.d (eApiEntry p0)] [] (.d (eB r)) [] := by
 unfold ref09_Gone at h0
 refine fn0 [0] Tryd.func46 rfl rfl rfl rfl rfl ?_
 refine sr (s1 (bxo (k := 0) rfl rfl rfl) (sa rfl (sn (SC.seqP h0 (fun y => ⟨mk 11 [(2, .d (eB y))], []⟩) ?_ ?_))))
 ·intro u1_7 h1
  refine SC.region (s1 (far (k := 1) rfl fo103_1 ts4 rfl) (s1 (lod rfl (ld_box ts4 ta4 rfl rfl)) (s1 (nt rfl) (sm rfl (sp h1 (fun h1 => ?_) (fun h1 => ?_))))))
  ·have q := si h1; subst q
   exact gw rfl (far (k := 3) rfl fo103_3 ts59 rfl) (gw rfl (lod rfl (ld_box ts59 ta59 rfl rfl)) (gw rfl (bi rfl rfl (q_u64_eql (b := (0 : UInt64)))) (s1 (pkt rfl rfl) (sa rfl (SO.nil ((wc [] [] (by kernel_rfl) rfl (by kernel_rfl))))))))
  ·have q := si h1; subst q
   exact kw rfl (kw rfl (kw rfl (s1 (pkf rfl rfl) (sa rfl (SO.nil ((wc [] [] (by kernel_rfl) rfl (by kernel_rfl))))))))
 ·rintro y6 h0
  have q := si h0; subst q
  exact SC.ret (finR (Wk.refl _) (lresT rfl lresN) rfl)
noncomputable def ref11_Tree_Inject_1 (p0 : ApiMsg) (p1 : List ApiEntry) : Option ((List ApiEntry)) :=
 Option.bind (α := (List ApiEntry))
 (Option.bind (α := (List ApiEntry))
 (loop (Y := (List ApiEntry) × Bool × Int) (W := (List ApiEntry)) (fun (y1477, y1478, y1479) =>
 bif (decide (y1479 ≤ (p1.length : Int))) then
 bindE (Y := (List ApiEntry) × Bool) (E := (List ApiEntry))
 (Option.bind (α := (List ApiEntry) × Bool)
 (Option.bind (α := Bool)
 (bif (!y1478) then
 bif (y1479 == (p1.length : Int)) then
 some true
 else
 Option.bind (getI p1 y1479) fun v1639 =>
 some (!(ltS v1639.Key p0.Key))
 else
 some false)
 fun y1637 =>
 bif y1637 then
 Option.bind (α := Bool)
 (bif (y1479 == (p1.length : Int)) then
 some true
 else
 Option.bind (getI p1 y1479) fun v1643 =>
 some (!(ltS v1643.Key p0.Key || v1643.Key == p0.Key)))
 fun y1641 =>
 bif y1641 then
 Option.bind (ref09_Apply (ApiEntry.mk p0.Key false ([] : List UInt8) (0 : UInt64) false ([] : List UInt8)) p0) fun r1645 =>
 Option.bind (ref09_Gone r1645) fun r1647 =>
 bif (!r1647) then
 bif decide ((y1477.length + [r1645].length) * 72 ≤ room) then
 some ((y1477 ++ [r1645]), true)
 else none
 else
 some (y1477, true)
 else
 some (y1477, true)
 else
 some (y1477, y1478))
 fun (y1633, y1634) =>
 bif (y1479 == (p1.length : Int)) then
 some (Sum.inr y1633)
 else
 Option.bind (getI p1 y1479) fun v1649 =>
 Option.bind (α := ApiEntry)
 (Option.bind (α := Bool)
 (bif (p0.Kind == (4 : Int)) then
 some true
 else
 some (v1649.Key == p0.Key))
 fun y1656 =>
 bif y1656 then
 Option.bind (ref09_Apply v1649 p0) fun r1659 =>
 some r1659
 else
 some v1649)
 fun y1654 =>
 Option.bind (ref09_Gone y1654) fun r1661 =>
 bif (!r1661) then
 bif decide ((y1633.length + [y1654].length) * 72 ≤ room) then
 some (Sum.inl ((y1633 ++ [y1654]), y1634))
 else none
 else
 some (Sum.inl (y1633, y1634)))
 (fun (y1617, y1618) =>
 some (Sum.inl (y1617, y1618, (w64 (y1479 + (1 : Int))))))
 (fun e => some (Sum.inr e))
 else
 some (Sum.inr y1477)) (([] : List ApiEntry), (p0.Kind == (4 : Int)), (0 : Int)))
 (fun e => some e))
 fun y1386 =>
 some y1386
theorem ref11_Tree_Inject_1_ok (p0 : ApiMsg) (p1 : List ApiEntry) (r : (List ApiEntry)) (h0 : ref11_Tree_Inject_1 p0 p1 = some r) : CallAt Tryd.prog 31 [.ref 0 0 0, .d (eApiMsg p0)] [.box (.d (.agg [((eL 6 eApiEntry) p1)]))] (.tuple []) [.box (.agg [.slc 1 6 0 r.length none]), .row 6 (List.map eApiEntry r) true] := by
 unfold ref11_Tree_Inject_1 at h0
 refine fn0 [0, 1] Tryd.func31 rfl rfl rfl rfl rfl ?_
 refine sr (s1 (bxo (k := 1) rfl rfl rfl) (sn (sr (s1 (asg (v := .d .nils) rfl) (sn (sr (s1 (far (k := 1) rfl fo61_1 ts3 rfl) (s1 (lod rfl (ld_box ts3 ta3 rfl rfl)) (s1 (bi rfl rfl q_i64_eql) ?_)))))))))
 refine sa rfl (sn (SC.seqP h0 (fun y => ⟨mk 115 [(0, .ref 0 0 0), (4, .slc 1 6 0 y.length none)], [.box (.d (.agg [((eL 6 eApiEntry) p1)])), .row 6 (List.map eApiEntry y) true]⟩) ?_ ?_))
 ·intro u1_1387 h1
  obtain ⟨u2_1573, h2, h1⟩ := ob h1
  refine sr (sa rfl (sn (SC.blk (SC.loopB h2 (fun y => ⟨mk 115 [(0, .ref 0 0 0), (3, .ref 1 0 0), (4, .slc 2 6 0 y.1.length none), (5, .d (eB y.2.1)), (6, .d (eI y.2.2))], [.box (.d (.agg [((eL 6 eApiEntry) p1)])), .box (.d (eApiMsg p0)), .row 6 (List.map eApiEntry y.1) true]⟩) (Wk.trans (Wk.pushE (σ' := [.box (.d (.agg [((eL 6 eApiEntry) p1)])), .box (.d (eApiMsg p0)), .row 6 (List.map eApiEntry ([] : List ApiEntry)) true]) (.row 6 [] true) (fun _ hh => by cases hh) rfl) (Wk.trans (Wk.env (e' := [(0, .ref 0 0 0), (3, .ref 1 0 0), (4, .slc 2 6 0 (([] : List ApiEntry).length) none), (5, .d (eB (p0.Kind == (4 : Int)))), (6, .d (eI (0 : Int)))]) (EW.cons (AW.refl _) (EW.cons (AW.refl _) (EW.cons (AW.slcn _ _ _) (EW.cons (AW.refl _) (EW.cons (AW.refl _) EW.nil)))))) (wq rfl))) ?_))))
  intro n1663
  rintro ⟨y1477, y1478, y1479⟩ w2_1572 h3 hv3
  refine sq (sr (sm rfl (sm rfl (s1 (nkr rfl) (s1 (far (k := 0) rfl fo36_0 ts34 rfl) (s1 (lod rfl (ld_box ts34 ta34 rfl rfl)) (s1 (len rfl rfl rfl (len_lst un34)) (s1 (bi rfl rfl q_i64_leq) (sn ?_)))))))))
  refine cB h3 rfl (fun h3 => ?_) (fun h3 => ?_)
  ·refine sk (SC.seqB h3 (fun y => ⟨mk 115 [(0, .ref 0 0 0), (3, .ref 1 0 0), (4, .slc 2 6 0 y.1.length none), (5, .d (eB y.2)), (6, .d (eI y1479))], [.box (.d (.agg [((eL 6 eApiEntry) p1)])), .box (.d (eApiMsg p0)), .row 6 (List.map eApiEntry y.1) true]⟩) ?_ ?_)
   ·intro u4_1619 h4 h3
    refine SC.blk (SC.seqP h4 (fun y => ⟨mk 115 [(0, .ref 0 0 0), (3, .ref 1 0 0), (4, .slc 2 6 0 y.1.length none), (5, .d (eB y.2)), (6, .d (eI y1479))], [.box (.d (.agg [((eL 6 eApiEntry) p1)])), .box (.d (eApiMsg p0)), .row 6 (List.map eApiEntry y.1) true]⟩) ?_ ?_)
    ·intro u5_1635 h5
     refine SC.seqP h5 (fun y => ⟨mk 115 [(0, .ref 0 0 0), (3, .ref 1 0 0), (4, .slc 2 6 0 y1477.length none), (5, .d (eB y1478)), (6, .d (eI y1479)), (44, .d (eB y))], [.box (.d (.agg [((eL 6 eApiEntry) p1)])), .box (.d (eApiMsg p0)), .row 6 (List.map eApiEntry y1477) true]⟩) ?_ ?_
     ·intro u6_1638 h6
      refine SC.draws (by kernel_rfl) (t1 ([], false) (mv rfl) rfl (t1 ([], false) (nt rfl) rfl (t1 ([], false) (mv rfl) rfl (tp h6 (fun h6 => ?_) (fun h6 => ?_)))))
      ·refine u1 ([], false) (ww rfl) (mv rfl) rfl (u1 ([], false) (ww rfl) (mv rfl) rfl (u1 ([], false) (ww rfl) (nkr rfl) rfl (u1 ([], false) (ww rfl) (far (k := 0) rfl fo36_0 ts34 rfl) rfl (u1 ([0], false) (ww rfl) (lod rfl (ld_box ts34 ta34 rfl rfl)) rfl (u1 ([], false) (ww rfl) (len rfl rfl rfl (len_lst un34)) rfl (u1 ([], false) (ww rfl) (bi rfl rfl q_i64_eql) rfl (u1 ([], false) (ww rfl) (mv rfl) rfl (tp h6 (fun h6 => ?_) (fun h6 => ?_)))))))))
       ·have q := si h6; subst q
        refine jw rfl (jw rfl (jw rfl (jw rfl (jw rfl (jw rfl (jw rfl (jw rfl (jw rfl (jw rfl ?_)))))))))
        refine jw rfl (u1 ([], false) (ww rfl) (pkt rfl rfl) rfl (t1 ([], false) (pkt rfl rfl) rfl (ST.nil (And.intro (by decide +kernel) ?_))))
        exact (wq rfl)
       ·obtain ⟨v1639, hv1639, h6⟩ := ob h6; have q := si h6; subst q
        refine u1 ([], false) (ww rfl) (mv rfl) rfl (u1 ([], false) (ww rfl) (nkr rfl) rfl (u1 ([], false) (ww rfl) (far (k := 0) rfl fo36_0 ts34 rfl) rfl (u1 ([0], false) (ww rfl) (lod rfl (ld_box ts34 ta34 rfl rfl)) rfl (u1 ([], false) (ww rfl) (mv rfl) rfl (u1 ([], false) (ww rfl) (ial rfl rfl un34 ts103 (getI_some hv1639).1 (map_get (getI_some hv1639).2) rfl) rfl (u1 ([], false) (ww rfl) (fap rfl fo103_0 ts9 rfl) rfl (u1 ([], false) (ww rfl) (lod rfl (ld_rop ts9 ta9 rfl)) rfl (u1 ([], false) (ww rfl) (far (k := 2) rfl fo61_2 ts9 rfl) rfl (u1 ([1], false) (ww rfl) (lod rfl (ld_box ts9 ta9 rfl rfl)) rfl ?_)))))))))
        refine u1 ([], false) (ww rfl) (bi rfl rfl q_str_geq) rfl (u1 ([], false) (ww rfl) (pkf rfl rfl) rfl (t1 ([], false) (pkt rfl rfl) rfl (ST.nil (And.intro (by decide +kernel) ?_))))
        exact (wq rfl)
      ·have q := si h6; subst q
       refine jw rfl (jw rfl (jw rfl (jw rfl (jw rfl (jw rfl (jw rfl (jw rfl (jw rfl (jw rfl ?_)))))))))
       refine jw rfl (jw rfl (jw rfl (jw rfl (jw rfl (jw rfl (jw rfl (jw rfl (jw rfl (jw rfl ?_)))))))))
       refine t1 ([], false) (pkf rfl rfl) rfl (ST.nil (And.intro (by decide +kernel) ?_))
       exact (wq rfl)
     ·rintro y1637 h5
      refine cB h5 rfl (fun h5 => ?_) (fun h5 => ?_)
      ·refine sr (sa rfl (sn (SC.seqP h5 (fun y => ⟨mk 115 [(0, .ref 0 0 0), (3, .ref 1 0 0), (4, .slc 2 6 0 y1477.length none), (5, .d (eB true)), (6, .d (eI y1479)), (64, .d (eB y))], [.box (.d (.agg [((eL 6 eApiEntry) p1)])), .box (.d (eApiMsg p0)), .row 6 (List.map eApiEntry y1477) true]⟩) ?_ ?_)))
       ·intro u6_1642 h6
        refine SC.draws (by kernel_rfl) (t1 ([], false) (mv rfl) rfl (t1 ([], false) (mv rfl) rfl (t1 ([], false) (nkr rfl) rfl (t1 ([], false) (far (k := 0) rfl fo36_0 ts34 rfl) rfl (t1 ([0], false) (lod rfl (ld_box ts34 ta34 rfl rfl)) rfl (t1 ([], false) (len rfl rfl rfl (len_lst un34)) rfl (t1 ([], false) (bi rfl rfl q_i64_eql) rfl (t1 ([], false) (mv rfl) rfl (tp h6 (fun h6 => ?_) (fun h6 => ?_))))))))))
        ·have q := si h6; subst q
         refine jw rfl (jw rfl (jw rfl (jw rfl (jw rfl (jw rfl (jw rfl (jw rfl (jw rfl (jw rfl ?_)))))))))
         refine jw rfl (t1 ([], false) (pkt rfl rfl) rfl (ST.nil (And.intro (by decide +kernel) ?_)))
         exact (wq rfl)
        ·obtain ⟨v1643, hv1643, h6⟩ := ob h6; have q := si h6; subst q
         refine u1 ([], false) (ww rfl) (mv rfl) rfl (u1 ([], false) (ww rfl) (nkr rfl) rfl (u1 ([], false) (ww rfl) (far (k := 0) rfl fo36_0 ts34 rfl) rfl (u1 ([0], false) (ww rfl) (lod rfl (ld_box ts34 ta34 rfl rfl)) rfl (u1 ([], false) (ww rfl) (mv rfl) rfl (u1 ([], false) (ww rfl) (ial rfl rfl un34 ts103 (getI_some hv1643).1 (map_get (getI_some hv1643).2) rfl) rfl (u1 ([], false) (ww rfl) (fap rfl fo103_0 ts9 rfl) rfl (u1 ([], false) (ww rfl) (lod rfl (ld_rop ts9 ta9 rfl)) rfl (u1 ([], false) (ww rfl) (far (k := 2) rfl fo61_2 ts9 rfl) rfl (u1 ([1], false) (ww rfl) (lod rfl (ld_box ts9 ta9 rfl rfl)) rfl ?_)))))))))
         refine u1 ([], false) (ww rfl) (bi rfl rfl q_str_gtr) rfl (t1 ([], false) (pkf rfl rfl) rfl (ST.nil (And.intro (by decide +kernel) ?_)))
         exact (wq rfl)
       ·rintro y1641 h5
        refine cB h5 rfl (fun h5 => ?_) (fun h5 => ?_)
        ·obtain ⟨r1645, hq1644, h5⟩ := ob h5; obtain ⟨r1647, hq1646, h5⟩ := ob h5
         refine sr (s1 (far (k := 2) rfl fo61_2 ts9 rfl) (s1 (lod rfl (ld_box ts9 ta9 rfl rfl)) (s1 (bld rfl (bd103_0 p0.Key)) (s1 (lod (v := .d (eApiMsg p0)) rfl (ld_box ts61 ta61 rfl rfl)) (cq [] [3] (ref09_Apply_ok (ApiEntry.mk p0.Key false ([] : List UInt8) (0 : UInt64) false ([] : List UInt8)) p0 _ hq1644) wf rfl rfl rfl cb45 rfl rfl rfl rfl rfl rfl rfl rfl (s1 (alo (k := 4) zo103 rfl) (s0 (sto rfl rfl (sB (d' := .d (eApiEntry r1645)) ts103 rfl rfl rfl rfl rfl rfl rfl)) (sn (sr ?_)))))))))
         refine s1 (lod (v := .d (eApiEntry r1645)) rfl (ld_box ts103 ta103 rfl rfl)) (c0 (ref09_Gone_ok r1645 _ hq1646) wf rfl rfl rfl cb46 rfl (fun _ => rfl) (fun _ => rfl) (s1 (nt rfl) (sn (cB h5 rfl (fun h5 => ?_) (fun h5 => ?_)))))
         ·obtain ⟨hg1648, h5⟩ := gd h5; have q := si h5; subst q
          exact SC.region (sm rfl (s1 (lod (v := .d (eApiEntry r1645)) rfl (ld_box ts103 ta103 rfl rfl)) (s1 (bsn (k := 5) (ds := List.map eApiEntry [r1645]) (off := 0) (l' := [r1645].length) rfl un34 ei103 rfl rfl (by rfl) rfl rfl rfl) (s1 (app rfl rfl rfl rfl bc34 (aF (f := eApiEntry) (xs := y1477) (k := 6) rfl un34 ei103 rfl (el_full (xs := [r1645]) rfl) hg1648 rfl)) (sa rfl (SO.nil ((wc [0, 1, 6] [0, 0, 1, 6] (by kernel_rfl) rfl (by kernel_rfl)))))))))
         ·have q := si h5; subst q
          exact SC.skip ((wc [0, 1, 2] [0, 0, 1, 2] (by kernel_rfl) rfl (by kernel_rfl)))
        ·have q := si h5; subst q
         exact SC.skip ((wq rfl))
      ·have q := si h5; subst q
       exact SC.skip ((wq rfl))
    ·rintro ⟨y1633, y1634⟩ h4
     refine sq (sr (sm rfl (sm rfl (s1 (nkr rfl) (s1 (far (k := 0) rfl fo36_0 ts34 rfl) (s1 (lod rfl (ld_box ts34 ta34 rfl rfl)) (s1 (len rfl rfl rfl (len_lst un34)) (s1 (bi rfl rfl q_i64_eql) (sn ?_)))))))))
     refine cB h4 rfl (fun h4 => ?_) (fun h4 => ?_)
     ·have q := si h4; subst q; have q := si h3; subst q; have q : _ = _ := hv3; subst q; have q := si h1; subst q
      exact SC.exit ((wc [0, 2] [0, 0, 2] (by kernel_rfl) rfl (by kernel_rfl)))
     ·obtain ⟨v1649, hv1649, h4⟩ := ob h4
      refine sk (sr (sm rfl (s1 (nkr rfl) (s1 (far (k := 0) rfl fo36_0 ts34 rfl) (s1 (lod rfl (ld_box ts34 ta34 rfl rfl)) (sm rfl (s1 (ial rfl rfl un34 ts103 (getI_some hv1649).1 (map_get (getI_some hv1649).2) rfl) (s1 (lod (v := .d (eApiEntry v1649)) rfl (ld_rop ts103 ta103 rfl)) (s1 (alo (k := 3) zo103 rfl) ?_)))))))))
      refine s0 (sto rfl rfl (sB (d' := .d (eApiEntry v1649)) ts103 rfl rfl rfl rfl rfl rfl rfl)) (sn (SC.seqP h4 (fun y => ⟨mk 115 [(0, .ref 0 0 0), (3, .ref 1 0 0), (4, .slc 2 6 0 y1633.length none), (5, .d (eB y1634)), (6, .d (eI y1479)), (8, .ref 3 0 0)], [.box (.d (.agg [((eL 6 eApiEntry) p1)])), .box (.d (eApiMsg p0)), .row 6 (List.map eApiEntry y1633) true, .box (.d (eApiEntry y))]⟩) ?_ ?_))
      ·intro u5_1655 h5
       refine SC.seqP h5 (fun y => ⟨mk 115 [(0, .ref 0 0 0), (3, .ref 1 0 0), (4, .slc 2 6 0 y1633.length none), (5, .d (eB y1634)), (6, .d (eI y1479)), (8, .ref 3 0 0), (100, .d (eB y))], [.box (.d (.agg [((eL 6 eApiEntry) p1)])), .box (.d (eApiMsg p0)), .row 6 (List.map eApiEntry y1633) true, .box (.d (eApiEntry v1649))]⟩) ?_ ?_
       ·intro u6_1657 h6
        refine SC.region (s1 (far (k := 1) rfl fo61_1 ts3 rfl) (s1 (lod rfl (ld_box ts3 ta3 rfl rfl)) (s1 (bi rfl rfl q_i64_eql) (sm rfl (sp h6 (fun h6 => ?_) (fun h6 => ?_))))))
        ·have q := si h6; subst q
         exact kw rfl (kw rfl (kw rfl (kw rfl (kw rfl (s1 (pkt rfl rfl) (SO.nil ((wq rfl))))))))
        ·have q := si h6; subst q
         exact gw rfl (far (k := 0) rfl fo103_0 ts9 rfl) (gw rfl (lod rfl (ld_box ts9 ta9 rfl rfl)) (gw rfl (far (k := 2) rfl fo61_2 ts9 rfl) (gw rfl (lod rfl (ld_box ts9 ta9 rfl rfl)) (gw rfl (bi rfl rfl q_str_eql) (s1 (pkf rfl rfl) (SO.nil ((wq rfl))))))))
       ·rintro y1656 h5
        refine cB h5 rfl (fun h5 => ?_) (fun h5 => ?_)
        ·obtain ⟨r1659, hq1658, h5⟩ := ob h5; have q := si h5; subst q
         exact SC.region (s1 (lod (v := .d (eApiEntry v1649)) rfl (ld_box ts103 ta103 rfl rfl)) (s1 (lod (v := .d (eApiMsg p0)) rfl (ld_box ts61 ta61 rfl rfl)) (cq [] [4] (ref09_Apply_ok v1649 p0 _ hq1658) wf rfl rfl rfl cb45 rfl rfl rfl rfl rfl rfl rfl rfl (s0 (sto rfl rfl (sB (d' := .d (eApiEntry r1659)) ts103 rfl rfl rfl rfl rfl rfl rfl)) (SO.nil ((wc [0, 1, 2, 3] [0, 0, 1, 2, 3] (by kernel_rfl) rfl (by kernel_rfl))))))))
        ·have q := si h5; subst q
         exact SC.skip ((wq rfl))
      ·rintro y1654 h4
       obtain ⟨r1661, hq1660, h4⟩ := ob h4
       refine sr (s1 (lod (v := .d (eApiEntry y1654)) rfl (ld_box ts103 ta103 rfl rfl)) (c0 (ref09_Gone_ok y1654 _ hq1660) wf rfl rfl rfl cb46 rfl (fun _ => rfl) (fun _ => rfl) (s1 (nt rfl) (sn (cB h4 rfl (fun h4 => ?_) (fun h4 => ?_))))))
       ·obtain ⟨hg1662, h4⟩ := gd h4; have q := si h4; subst q
        exact SC.region (sm rfl (s1 (lod (v := .d (eApiEntry y1654)) rfl (ld_box ts103 ta103 rfl rfl)) (s1 (bsn (k := 4) (ds := List.map eApiEntry [y1654]) (off := 0) (l' := [y1654].length) rfl un34 ei103 rfl rfl (by rfl) rfl rfl rfl) (s1 (app rfl rfl rfl rfl bc34 (aF (f := eApiEntry) (xs := y1633) (k := 5) rfl un34 ei103 rfl (el_full (xs := [y1654]) rfl) hg1662 rfl)) (sa rfl (SO.nil (lf (wc [0, 1, 5] [0, 0, 1, 5] (by kernel_rfl) rfl (by kernel_rfl)))))))))
       ·have q := si h4; subst q
        exact SC.skip (lf (wc [0, 1, 2] [0, 0, 1, 2] (by kernel_rfl) rfl (by kernel_rfl)))
   ·rintro ⟨y1617, y1618⟩ h3
    have q := si h3; subst q
    exact SC.region (sm rfl (s1 (bi rfl rfl q_i64_add) (sa rfl (SO.nil (lf (wq rfl))))))
  ·have q := si h3; subst q; have q : _ = _ := hv3; subst q; have q := si h1; subst q
   exact SC.exit ((wc [0, 2] [0, 0, 2] (by kernel_rfl) rfl (by kernel_rfl)))
 ·rintro y1386 h0
  have q := si h0; subst q
  exact SC.region (sm rfl (sm rfl (s1 (nkr rfl) (s1 (far (k := 0) rfl fo36_0 ts34 rfl) (s0 (sto rfl rfl (sB (d' := .agg [.slc 1 6 0 y1386.length none]) ts34 rfl rfl rfl rfl rfl rfl rfl)) (SO.nil (finN (Wk.refl _) lresN rfl)))))))
noncomputable def law19_run (p0 : List Granarylaw19Tree) (p1 : List ForestOp) (pp : List (Nat × List ApiEntry)) : Option ((List (Nat × List ApiEntry)) × Bool) :=
 bindE (Y := (List (Nat × List ApiEntry))) (E := (List (Nat × List ApiEntry)) × Bool)
 (Option.bind (α := ((List (Nat × List ApiEntry))) ⊕ ((List (Nat × List ApiEntry)) × Bool))
 (loop (Y := (List (Nat × List ApiEntry)) × Int) (W := ((List (Nat × List ApiEntry))) ⊕ ((List (Nat × List ApiEntry)) × Bool)) (fun (y4780, y4781) =>
 bif (decide (y4781 < (p1.length : Int))) then
 bindE (Y := (List (Nat × List ApiEntry))) (E := (List (Nat × List ApiEntry)) × Bool)
 (Option.bind (α := (List (Nat × List ApiEntry)) × Bool)
 (Option.bind (α := (List (Nat × List ApiEntry)) × Bool)
 (loop (Y := (List (Nat × List ApiEntry)) × Bool × Int) (W := (List (Nat × List ApiEntry)) × Bool) (fun (y5327, y5328, y5329) =>
 bif (decide (y5329 < (p0.length : Int))) then
 Option.bind (α := (List (Nat × List ApiEntry)) × Bool)
 (Option.bind (getI p0 y5329) fun v5368 =>
 Option.bind (getI p1 y4781) fun v5369 =>
 bif (v5368.no == v5369.Tree) then
 Option.bind (getI p0 y5329) fun v5372 =>
 Option.bind (getI p1 y4781) fun v5373 =>
 Option.bind (pget y5327 v5372.t) fun v5374 =>
 Option.bind (ref11_Tree_Inject_1 v5373.Msg v5374) fun r5376 =>
 some ((pset y5327 v5372.t r5376), true)
 else
 some (y5327, y5328))
 fun (y5365, y5366) =>
 some (Sum.inl (y5365, y5366, (w64 (y5329 + (1 : Int)))))
 else
 some (Sum.inr (y5327, y5328))) (y4780, false, (0 : Int)))
 (fun e => some e))
 fun (y5303, y5304) =>
 bif (!y5304) then
 some (Sum.inr (y5303, false))
 else
 some (Sum.inl y5303))
 (fun y5229 =>
 some (Sum.inl (y5229, (w64 (y4781 + (1 : Int))))))
 (fun e => some (Sum.inr (Sum.inr e)))
 else
 some (Sum.inr (Sum.inl y4780))) (pp, (0 : Int)))
 (Sum.elim (fun e => some (Sum.inl e)) (fun e => some (Sum.inr e))))
 (fun y4482 =>
 some (y4482, true))
 (fun e => some e)
theorem law19_run_ok (p0 : List Granarylaw19Tree) (p1 : List ForestOp) (pp : List (Nat × List ApiEntry)) (r : (List (Nat × List ApiEntry)) × Bool) (h0 : law19_run p0 p1 pp = some r) : CallP Tryd.prog 11 [.d ((eL 2 eGranarylaw19Tree) p0), .d ((eL 9 eForestOp) p1)] ((plM (eL 6 eApiEntry)) pp) (.d (eB r.2)) ((plM (eL 6 eApiEntry)) r.1) := by
 unfold law19_run at h0
 refine fnp [0, 1] Tryd.func11 rfl rfl rfl rfl rfl rfl ?_
 refine srp (sa rfl (snp (SCp.seqB h0 (fun y => (⟨mk 44 [], []⟩, (plM (eL 6 eApiEntry)) y)) ?_ ?_)))
 ·intro u1_4483 h1 h0
  obtain ⟨u2_5081, h2, h1⟩ := ob h1
  refine srp (sa rfl (snp (SCp.blk (SCp.loopB h2 (fun y => (⟨mk 44 [(0, .d ((eL 2 eGranarylaw19Tree) p0)), (1, .d ((eL 9 eForestOp) p1)), (5, .d (eI y.2))], []⟩, (plM (eL 6 eApiEntry)) y.1)) (WkP.of (wq rfl) rfl) ?_))))
  intro n5378
  rintro ⟨y4780, y4781⟩ w2_5080 h3 hv3
  refine sqp (srp (sm rfl (sm rfl (s1 (len rfl rfl rfl (len_lst un46)) (s1 (bi rfl rfl q_i64_lss) (snp (cBp h3 rfl (fun h3 => ?_) (fun h3 => ?_))))))))
  ·refine skp (SCp.seqB h3 (fun y => (⟨mk 44 [(0, .d ((eL 2 eGranarylaw19Tree) p0)), (1, .d ((eL 9 eForestOp) p1)), (5, .d (eI y4781))], []⟩, (plM (eL 6 eApiEntry)) y)) ?_ ?_)
   ·intro u4_5230 h4 h3
    refine SCp.blk (srp (sa rfl (snp (SCp.seqP h4 (fun y => (⟨mk 44 [(0, .d ((eL 2 eGranarylaw19Tree) p0)), (1, .d ((eL 9 eForestOp) p1)), (5, .d (eI y4781)), (6, .d (eB y.2))], []⟩, (plM (eL 6 eApiEntry)) y.1)) ?_ ?_))))
    ·intro u5_5305 h5
     obtain ⟨u6_5355, h6, h5⟩ := ob h5
     refine srp (sa rfl (snp (SCp.blk (SCp.loopB h6 (fun y => (⟨mk 44 [(0, .d ((eL 2 eGranarylaw19Tree) p0)), (1, .d ((eL 9 eForestOp) p1)), (5, .d (eI y4781)), (6, .d (eB y.2.1)), (7, .d (eI y.2.2))], []⟩, (plM (eL 6 eApiEntry)) y.1)) (WkP.of (wq rfl) rfl) ?_))))
     intro n5377
     rintro ⟨y5327, y5328, y5329⟩ w6_5354 h7 hv7
     refine sqp (srp (sm rfl (sm rfl (s1 (len rfl rfl rfl (len_lst un39)) (s1 (bi rfl rfl q_i64_lss) (snp (cBp h7 rfl (fun h7 => ?_) (fun h7 => ?_))))))))
     ·refine skp (SCp.seqP h7 (fun y => (⟨mk 44 [(0, .d ((eL 2 eGranarylaw19Tree) p0)), (1, .d ((eL 9 eForestOp) p1)), (5, .d (eI y4781)), (6, .d (eB y.2)), (7, .d (eI y5329))], []⟩, (plM (eL 6 eApiEntry)) y.1)) ?_ ?_)
      ·intro u8_5367 h8
       obtain ⟨v5368, hv5368, h8⟩ := ob h8; obtain ⟨v5369, hv5369, h8⟩ := ob h8
       refine SCp.blk (sdp (by kernel_rfl) (t1 ([], false) (mv rfl) rfl (t1 ([], false) (mv rfl) rfl (t1 ([], false) (ial rfl rfl un39 ts38 (getI_some hv5368).1 (map_get (getI_some hv5368).2) rfl) rfl (t1 ([], false) (fap rfl fo38_0 ts3 rfl) rfl (t1 ([], false) (lod rfl (ld_rop ts3 ta3 rfl)) rfl (t1 ([], false) (mv rfl) rfl (t1 ([], false) (mv rfl) rfl (t1 ([], false) (ial rfl rfl un46 ts63 (getI_some hv5369).1 (map_get (getI_some hv5369).2) rfl) rfl ?_)))))))))
       refine t1 ([], false) (fap rfl fo63_1 ts3 rfl) rfl (t1 ([], false) (lod rfl (ld_rop ts3 ta3 rfl)) rfl (t1 ([], false) (bi rfl rfl q_i64_eql) rfl (tnp (by decide +kernel) (cBp h8 rfl (fun h8 => ?_) (fun h8 => ?_)))))
       ·obtain ⟨v5372, hv5372, h8⟩ := ob h8; obtain ⟨v5373, hv5373, h8⟩ := ob h8; obtain ⟨v5374, hv5374, h8⟩ := ob h8; obtain ⟨r5376, hq5375, h8⟩ := ob h8; have q := si h8; subst q
        refine sdQ 10 mixO (by kernel_rfl) (yq (mv rfl) rfl (yq (mv rfl) rfl (yq (ial rfl rfl un39 ts38 (getI_some hv5372).1 (map_get (getI_some hv5372).2) rfl) rfl (yq (fap rfl fo38_1 ts33 rfl) rfl (yq (lod rfl (ld_rop ts33 ta33 rfl)) rfl (yq (mv rfl) rfl (yq (mv rfl) rfl (yq (ial rfl rfl un46 ts63 (getI_some hv5373).1 (map_get (getI_some hv5373).2) rfl) rfl (yq (fap rfl fo63_2 ts61 rfl) rfl ?_)))))))))
        exact yq (lod (v := .d (eApiMsg v5373.Msg)) rfl (ld_rop ts61 ta61 rfl)) rfl (StC.nil (pcQ (CallP.inj (CallAt.frzB (ref11_Tree_Inject_1_ok v5373.Msg v5374 _ hq5375) rfl (frz_full rfl rfl) rfl) rfl rfl (plM_mem hv5374) rfl rfl plM_set) wf rfl rfl rfl cb31 rfl rfl id (SOp.nil (SCp.region (sa rfl (SO.nil (WkP.of (wq rfl) rfl)))))))
       ·have q := si h8; subst q
        exact SCp.skip (WkP.of (wq rfl) rfl)
      ·rintro ⟨y5365, y5366⟩ h7
       have q := si h7; subst q
       exact SCp.region (sm rfl (s1 (bi rfl rfl q_i64_add) (sa rfl (SO.nil (lfp (wq rfl) rfl)))))
     ·have q := si h7; subst q; have q : _ = _ := hv7; subst q; have q := si h5; subst q
      exact SCp.exit (WkP.of (wq rfl) rfl)
    ·rintro ⟨y5303, y5304⟩ h4
     refine srp (sm rfl (s1 (nt rfl) (snp (cBp h4 rfl (fun h4 => ?_) (fun h4 => ?_)))))
     ·have q := si h4; subst q; have q := si h3; subst q; have q : _ = _ := hv3; subst q; have q := si h1; subst q; have q := si h0; subst q
      exact srp (sa rfl (snp (SCp.ret (finRp (Wk.refl _) (lresT rfl lresN) rfl rfl))))
     ·have q := si h4; subst q
      exact SCp.skip (lfp (wq rfl) rfl)
   ·rintro y5229 h3
    have q := si h3; subst q
    exact SCp.region (sm rfl (s1 (bi rfl rfl q_i64_add) (sa rfl (SO.nil (lfp (wq rfl) rfl)))))
  ·have q := si h3; subst q; have q : _ = _ := hv3; subst q; have q := si h1; subst q
   exact SCp.exit (lfp (wq rfl) rfl)
 ·rintro y4482 h0
  have q := si h0; subst q
  exact srp (sa rfl (snp (SCp.ret (finRp (Wk.refl _) (lresT rfl lresN) rfl rfl))))
noncomputable def raw_Entries (p0 : List ApiEntry) (p1 : List ApiEntry) : Option Bool :=
 bif ((p0.length : Int) != (p1.length : Int)) then
 some false
 else
 bindE (Y := Unit) (E := Bool)
 (Option.bind (α := Unit ⊕ Bool)
 (loop (Y := Int) (W := Unit ⊕ Bool) (fun y62 =>
 bif (decide (y62 < (p0.length : Int))) then
 Option.bind (getI p0 y62) fun v68 =>
 Option.bind (getI p1 y62) fun v69 =>
 bif (!(eqApiEntry v68 v69)) then
 some (Sum.inr (Sum.inr false))
 else
 some (Sum.inl (w64 (y62 + (1 : Int))))
 else
 some (Sum.inr (Sum.inl ()))) (0 : Int))
 (Sum.elim (fun e => some (Sum.inl e)) (fun e => some (Sum.inr e))))
 (fun _ =>
 some true)
 (fun e => some e)
theorem raw_Entries_ok (p0 : List ApiEntry) (p1 : List ApiEntry) (r : Bool) (h0 : raw_Entries p0 p1 = some r) : CallAt Tryd.prog 13 [.d ((eL 6 eApiEntry) p0), .d ((eL 6 eApiEntry) p1)] [] (.d (eB r)) [] := by
 unfold raw_Entries at h0
 refine fn0 [0, 1] Tryd.func13 rfl rfl rfl rfl rfl ?_
 refine sr (sa rfl (sn (sq (sr (sm rfl (s1 (len rfl rfl rfl (len_lst un34)) (sm rfl (s1 (len rfl rfl rfl (len_lst un34)) (s1 (bi rfl rfl q_i64_neq) ?_)))))))))
 refine sn (cB h0 rfl (fun h0 => ?_) (fun h0 => ?_))
 ·have q := si h0; subst q
  exact sr (sa rfl (sn (SC.ret (finR (Wk.refl _) (lresT rfl lresN) rfl))))
 ·refine sk (SC.seqB h0 (fun y => ⟨mk 26 [], []⟩) ?_ ?_)
  ·intro u1_59 h1 h0
   obtain ⟨u2_67, h2, h1⟩ := ob h1
   refine sr (sa rfl (sn (SC.blk (SC.loopB h2 (fun y => ⟨mk 26 [(0, .d ((eL 6 eApiEntry) p0)), (1, .d ((eL 6 eApiEntry) p1)), (5, .d (eI y))], []⟩) (wq rfl) ?_))))
   intro n70
   rintro y62 w2_66 h3 hv3
   refine sq (sr (sm rfl (sm rfl (s1 (len rfl rfl rfl (len_lst un34)) (s1 (bi rfl rfl q_i64_lss) (sn (cB h3 rfl (fun h3 => ?_) (fun h3 => ?_))))))))
   ·obtain ⟨v68, hv68, h3⟩ := ob h3; obtain ⟨v69, hv69, h3⟩ := ob h3
    refine sk (sq (SC.blk (sd (by kernel_rfl) (t1 ([], false) (mv rfl) rfl (t1 ([], false) (mv rfl) rfl (t1 ([], false) (ial rfl rfl un34 ts103 (getI_some hv68).1 (map_get (getI_some hv68).2) rfl) rfl (t1 ([], false) (lod (v := .d (eApiEntry v68)) rfl (ld_rop ts103 ta103 rfl)) rfl (t1 ([], false) (mv rfl) rfl (t1 ([], false) (mv rfl) rfl ?_)))))))))
    refine t1 ([], false) (ial rfl rfl un34 ts103 (getI_some hv69).1 (map_get (getI_some hv69).2) rfl) rfl (t1 ([], false) (lod (v := .d (eApiEntry v69)) rfl (ld_rop ts103 ta103 rfl)) rfl (t1 ([], false) (bi (v := .d (eB (!(eqApiEntry v68 v69)))) rfl rfl (fun X Y => eqApiEntry_neq_103 X Y v68 v69)) rfl (tn (by decide +kernel) (cB h3 rfl (fun h3 => ?_) (fun h3 => ?_)))))
    ·have q := si h3; subst q; have q : _ = _ := hv3; subst q; have q := si h1; subst q; have q := si h0; subst q
     exact sr (sa rfl (sn (SC.ret (finR (Wk.refl _) (lresT rfl lresN) rfl))))
    ·refine SC.skip ?_
     change SC _ _ _ _ _
     have q := si h3; subst q
     exact SC.region (sm rfl (s1 (bi rfl rfl q_i64_add) (sa rfl (SO.nil (lf (wq rfl))))))
   ·have q := si h3; subst q; have q : _ = _ := hv3; subst q; have q := si h1; subst q
    exact SC.exit (lf (wq rfl))
  ·intro _ h0
   have q := si h0; subst q
   exact sr (sa rfl (sn (SC.ret (finR (Wk.refl _) (lresT rfl lresN) rfl))))
end Lv
