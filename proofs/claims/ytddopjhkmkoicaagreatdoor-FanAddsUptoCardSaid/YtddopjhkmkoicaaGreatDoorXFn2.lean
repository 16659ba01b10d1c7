/- Part of the proof of a law: functions and their walks. -/
import Derived.Test.YtddopjhkmkoicaaGreatDoorXFn1
namespace Lv
open Go Go.Proofs
set_option linter.unusedVariables false
set_option linter.unusedSimpArgs false
set_option linter.unusedSectionVars false
set_option maxRecDepth 100000
variable [BaseTab] [TabOk]
noncomputable def ref17_wide (p0 : ApiColumn) (p1 : Int) : Option Int :=
 Option.bind (α := Bool)
 (bif (p0.Kind == (1 : Int)) then
 some (p0.Kind == (1 : Int))
 else
 some (p0.Kind == (2 : Int)))
 fun y4 =>
 bif y4 then
 some (9 : Int)
 else
 bif (p0.Kind == (3 : Int)) then
 some (2 : Int)
 else
 some (w64 ((3 : Int) + (w64 (p1 * p0.Max))))
theorem ref17_wide_ok (p0 : ApiColumn) (p1 : Int) (r : Int) (h0 : ref17_wide p0 p1 = some r) : CallAt Tryz.prog 63 [.d (eApiColumn p0), .d (eI p1)] [] (.d (eI r)) [] := by
 unfold ref17_wide at h0
 refine fn0 [0, 1] Tryz.func63 rfl rfl rfl rfl rfl ?_
 refine sr (s1 (bxo (k := 0) rfl rfl rfl) (sa rfl (sn (sq (sr (s1 (far (k := 1) rfl fo77_1 ts3 rfl) (s1 (lod rfl (ld_box ts3 ta3 rfl rfl)) (sn (SC.blk ?_)))))))))
 refine SC.seqP h0 (fun y => ⟨mk 17 [(1, .d (eI p1)), (2, .ref 0 0 0), (6, .d (eI p0.Kind)), (7, .d (eB y))], [.box (.d (eApiColumn p0))]⟩) ?_ ?_
 ·intro u1_5 h1
  refine sr (s1 (bi rfl rfl q_i64_eql) (sa rfl (sn (cB h1 rfl (fun h1 => ?_) (fun h1 => ?_)))))
  ·have q := si h1; subst q
   exact SC.skip ((wq rfl))
  ·have q := si h1; subst q
   exact SC.region (s1 (bi rfl rfl q_i64_eql) (sa rfl (SO.nil ((wq rfl)))))
 ·rintro y4 h0
  refine cB h0 rfl (fun h0 => ?_) (fun h0 => ?_)
  ·have q := si h0; subst q
   exact sr (sa rfl (sn (SC.ret (finR (wc (e' := [(4, .d (eI (9 : Int)))]) [] [] (by kernel_rfl) rfl (by kernel_rfl)) (lresT rfl lresN) rfl))))
  ·refine sr (s1 (bi rfl rfl q_i64_eql) (sa rfl (sn (cB h0 rfl (fun h0 => ?_) (fun h0 => ?_)))))
   ·have q := si h0; subst q
    exact sr (sa rfl (sn (SC.ret (finR (wc (e' := [(4, .d (eI (2 : Int)))]) [] [] (by kernel_rfl) rfl (by kernel_rfl)) (lresT rfl lresN) rfl))))
   ·refine SC.skip ?_
    change SC _ _ _ _ _
    have q := si h0; subst q
    exact sr (sm rfl (s1 (far (k := 2) rfl fo77_2 ts3 rfl) (s1 (lod rfl (ld_box ts3 ta3 rfl rfl)) (s1 (bi rfl rfl q_i64_mul) (s1 (bi rfl rfl q_i64_add) (sa rfl (sn (SC.ret (finR (wc (e' := [(4, .d (eI (w64 ((3 : Int) + (w64 (p1 * p0.Max))))))]) [] [] (by kernel_rfl) rfl (by kernel_rfl)) (lresT rfl lresN) rfl)))))))))
noncomputable def ref17_RowMax (p0 : List ApiColumn) : Option Int :=
 Option.bind (α := Int)
 (Option.bind (α := Int)
 (loop (Y := Int × Int) (W := Int) (fun (y57, y58) =>
 bif (decide (y58 < (p0.length : Int))) then
 Option.bind (getI p0 y58) fun v66 =>
 Option.bind (ref17_wide v66 (1 : Int)) fun r67 =>
 some (Sum.inl ((w64 (y57 + r67)), (w64 (y58 + (1 : Int)))))
 else
 some (Sum.inr y57)) ((1 : Int), (0 : Int)))
 (fun e => some e))
 fun y52 =>
 some y52
theorem ref17_RowMax_ok (p0 : List ApiColumn) (r : Int) (h0 : ref17_RowMax p0 = some r) : CallAt Tryz.prog 25 [.d ((eL 7 eApiColumn) p0)] [] (.d (eI r)) [] := by
 unfold ref17_RowMax at h0
 refine fn0 [0] Tryz.func25 rfl rfl rfl rfl rfl ?_
 refine sr (sa rfl (sn (sr (sa rfl (sn (SC.seqP h0 (fun y => ⟨mk 19 [(3, .d (eI y))], []⟩) ?_ ?_))))))
 ·intro u1_53 h1
  obtain ⟨u2_65, h2, h1⟩ := ob h1
  refine sr (sa rfl (sn (SC.blk (SC.loopB h2 (fun y => ⟨mk 19 [(0, .d ((eL 7 eApiColumn) p0)), (3, .d (eI y.1)), (4, .d (eI y.2))], []⟩) (wq rfl) ?_))))
  intro n69
  rintro ⟨y57, y58⟩ w2_64 h3 hv3
  refine sq (sr (sm rfl (sm rfl (s1 (len rfl rfl rfl (len_lst un22)) (s1 (bi rfl rfl q_i64_lss) (sn (cB h3 rfl (fun h3 => ?_) (fun h3 => ?_))))))))
  ·obtain ⟨v66, hv66, h3⟩ := ob h3; obtain ⟨r67, hq68, h3⟩ := ob h3
   refine sk (sq (SC.blk (SC.region (sm rfl (sm rfl (sm rfl (s1 (ial rfl rfl un22 ts77 (getI_some hv66).1 (map_get (getI_some hv66).2) rfl) (s1 (lod (v := .d (eApiColumn v66)) rfl (ld_rop ts77 ta77 rfl)) (c0 (ref17_wide_ok v66 (1 : Int) _ hq68) wf rfl rfl rfl cb63 rfl (fun _ => rfl) (fun _ => rfl) ?_)))))))))
   refine s1 (bi rfl rfl q_i64_add) (sa rfl (SO.nil ?_))
   change SC _ _ _ _ _
   have q := si h3; subst q
   exact SC.region (sm rfl (s1 (bi rfl rfl q_i64_add) (sa rfl (SO.nil (lf (wq rfl))))))
  ·have q := si h3; subst q; have q : _ = _ := hv3; subst q; have q := si h1; subst q
   exact SC.exit ((wq rfl))
 ·rintro y52 h0
  have q := si h0; subst q
  exact sr (sm rfl (sa rfl (sn (SC.ret (finR (Wk.refl _) (lresT rfl lresN) rfl)))))
noncomputable def ref17_Up (p0 : List Int) : Option ((List ApiPart)) :=
 Option.bind (α := (List ApiPart))
 (Option.bind (α := (List ApiPart))
 (loop (Y := (List ApiPart) × Int) (W := (List ApiPart)) (fun (y47, y48) =>
 bif (decide (y48 < (p0.length : Int))) then
 Option.bind (getI p0 y48) fun v55 =>
 bif decide ((y47.length + [(ApiPart.mk v55 false)].length) * 16 ≤ room) then
 some (Sum.inl ((y47 ++ [(ApiPart.mk v55 false)]), (w64 (y48 + (1 : Int)))))
 else none
 else
 some (Sum.inr y47)) (([] : List ApiPart), (0 : Int)))
 (fun e => some e))
 fun y43 =>
 some y43
theorem ref17_Up_ok (p0 : List Int) (r : (List ApiPart)) (h0 : ref17_Up p0 = some r) : CallAt Tryz.prog 27 [.d ((eL 1 eI) p0)] [] (.d ((eL 2 eApiPart) r)) [] := by
 unfold ref17_Up at h0
 refine fn0 [0] Tryz.func27 rfl rfl rfl rfl rfl ?_
 refine sr (s1 (asg (v := .d .nils) rfl) (sn (sr (s1 (asg (v := .d .nils) rfl) (sn (SC.seqP h0 (fun y => ⟨mk 20 [(3, .slc 0 2 0 y.length none)], [.row 2 (List.map eApiPart y) true]⟩) ?_ ?_))))))
 ·intro u1_44 h1
  obtain ⟨u2_54, h2, h1⟩ := ob h1
  refine sr (sa rfl (sn (SC.blk (SC.loopB h2 (fun y => ⟨mk 20 [(0, .d ((eL 1 eI) p0)), (3, .slc 0 2 0 y.1.length none), (4, .d (eI y.2))], [.row 2 (List.map eApiPart y.1) true]⟩) (Wk.trans (Wk.pushE (σ' := [.row 2 (List.map eApiPart ([] : List ApiPart)) true]) (.row 2 [] true) (fun _ hh => by cases hh) rfl) (Wk.trans (Wk.env (e' := [(0, .d ((eL 1 eI) p0)), (3, .slc 0 2 0 (([] : List ApiPart).length) none), (4, .d (eI (0 : Int)))]) (EW.cons (AW.refl _) (EW.cons (AW.slcn _ _ _) (EW.cons (AW.refl _) EW.nil)))) (wq rfl))) ?_))))
  intro n57
  rintro ⟨y47, y48⟩ w2_53 h3 hv3
  refine sq (sr (sm rfl (sm rfl (s1 (len rfl rfl rfl (len_lst un23)) (s1 (bi rfl rfl q_i64_lss) (sn (cB h3 rfl (fun h3 => ?_) (fun h3 => ?_))))))))
  ·obtain ⟨v55, hv55, h3⟩ := ob h3; obtain ⟨hg56, h3⟩ := gd h3
   refine sk (sq (SC.blk (SC.region (sm rfl (sm rfl (sm rfl (s1 (ial rfl rfl un23 ts3 (getI_some hv55).1 (map_get (getI_some hv55).2) rfl) (s1 (lod rfl (ld_rop ts3 ta3 rfl)) (s1 (bld rfl (bd79_0 v55)) ?_)))))))))
   refine s1 (bsn (k := 1) (ds := List.map eApiPart [(ApiPart.mk v55 false)]) (off := 0) (l' := [(ApiPart.mk v55 false)].length) rfl un80 ei79 rfl rfl (by rfl) rfl rfl rfl) (s1 (app rfl rfl rfl rfl bc80 (aF (f := eApiPart) (xs := y47) (k := 2) rfl un80 ei79 rfl (el_full (xs := [(ApiPart.mk v55 false)]) rfl) hg56 rfl)) (sa rfl (SO.nil ?_)))
   change SC _ _ _ _ _
   have q := si h3; subst q
   exact SC.region (sm rfl (s1 (bi rfl rfl q_i64_add) (sa rfl (SO.nil (lf (wc [2] [2] (by kernel_rfl) rfl (by kernel_rfl)))))))
  ·have q := si h3; subst q; have q : _ = _ := hv3; subst q; have q := si h1; subst q
   exact SC.exit ((wq rfl))
 ·rintro y43 h0
  have q := si h0; subst q
  exact sr (sm rfl (sa rfl (sn (SC.ret (finR (Wk.trans (Wk.frz (i := 2) (x := .slc 0 2 0 y43.length none) rfl rfl (fF rfl rfl rfl)) (wc (e' := [(2, .d ((eL 2 eApiPart) y43))]) [] [] (by kernel_rfl) rfl (by kernel_rfl))) (lresT rfl lresN) rfl)))))
noncomputable def ref17_KeyMax (p0 : List ApiColumn) (p1 : List ApiPart) : Option Int :=
 Option.bind (α := Int)
 (Option.bind (α := Int)
 (loop (Y := Int × Int) (W := Int) (fun (y67, y68) =>
 bif (decide (y68 < (p1.length : Int))) then
 Option.bind (getI p1 y68) fun v77 =>
 Option.bind (getI p0 v77.Col) fun v78 =>
 Option.bind (ref17_wide v78 (2 : Int)) fun r79 =>
 some (Sum.inl ((w64 (y67 + r79)), (w64 (y68 + (1 : Int)))))
 else
 some (Sum.inr y67)) ((0 : Int), (0 : Int)))
 (fun e => some e))
 fun y61 =>
 some y61
theorem ref17_KeyMax_ok (p0 : List ApiColumn) (p1 : List ApiPart) (r : Int) (h0 : ref17_KeyMax p0 p1 = some r) : CallAt Tryz.prog 26 [.d ((eL 7 eApiColumn) p0), .d ((eL 2 eApiPart) p1)] [] (.d (eI r)) [] := by
 unfold ref17_KeyMax at h0
 refine fn0 [0, 1] Tryz.func26 rfl rfl rfl rfl rfl ?_
 refine sr (sa rfl (sn (sr (sa rfl (sn (SC.seqP h0 (fun y => ⟨mk 25 [(5, .d (eI y))], []⟩) ?_ ?_))))))
 ·intro u1_62 h1
  obtain ⟨u2_76, h2, h1⟩ := ob h1
  refine sr (sa rfl (sn (SC.blk (SC.loopB h2 (fun y => ⟨mk 25 [(0, .d ((eL 7 eApiColumn) p0)), (1, .d ((eL 2 eApiPart) p1)), (5, .d (eI y.1)), (6, .d (eI y.2))], []⟩) (wq rfl) ?_))))
  intro n81
  rintro ⟨y67, y68⟩ w2_75 h3 hv3
  refine sq (sr (sm rfl (sm rfl (s1 (len rfl rfl rfl (len_lst un80)) (s1 (bi rfl rfl q_i64_lss) (sn (cB h3 rfl (fun h3 => ?_) (fun h3 => ?_))))))))
  ·obtain ⟨v77, hv77, h3⟩ := ob h3; obtain ⟨v78, hv78, h3⟩ := ob h3; obtain ⟨r79, hq80, h3⟩ := ob h3
   refine sk (sq (SC.blk (SC.region (sm rfl (sm rfl (sm rfl (sm rfl (s1 (ial rfl rfl un80 ts79 (getI_some hv77).1 (map_get (getI_some hv77).2) rfl) (s1 (fap rfl fo79_0 ts3 rfl) ?_)))))))))
   refine s1 (lod rfl (ld_rop ts3 ta3 rfl)) (s1 (ial rfl rfl un22 ts77 (getI_some hv78).1 (map_get (getI_some hv78).2) rfl) (s1 (lod (v := .d (eApiColumn v78)) rfl (ld_rop ts77 ta77 rfl)) (c0 (ref17_wide_ok v78 (2 : Int) _ hq80) wf rfl rfl rfl cb63 rfl (fun _ => rfl) (fun _ => rfl) (s1 (bi rfl rfl q_i64_add) (sa rfl (SO.nil ?_))))))
   change SC _ _ _ _ _
   have q := si h3; subst q
   exact SC.region (sm rfl (s1 (bi rfl rfl q_i64_add) (sa rfl (SO.nil (lf (wq rfl))))))
  ·have q := si h3; subst q; have q : _ = _ := hv3; subst q; have q := si h1; subst q
   exact SC.exit ((wq rfl))
 ·rintro y61 h0
  have q := si h0; subst q
  exact sr (sm rfl (sa rfl (sn (SC.ret (finR (Wk.refl _) (lresT rfl lresN) rfl)))))
noncomputable def ref17_Cols (p0 : List ApiPart) : Option ((List Int)) :=
 Option.bind (α := (List Int))
 (Option.bind (α := (List Int))
 (loop (Y := (List Int) × Int) (W := (List Int)) (fun (y47, y48) =>
 bif (decide (y48 < (p0.length : Int))) then
 Option.bind (getI p0 y48) fun v55 =>
 bif decide ((y47.length + [v55.Col].length) * 8 ≤ room) then
 some (Sum.inl ((y47 ++ [v55.Col]), (w64 (y48 + (1 : Int)))))
 else none
 else
 some (Sum.inr y47)) (([] : List Int), (0 : Int)))
 (fun e => some e))
 fun y43 =>
 some y43
theorem ref17_Cols_ok (p0 : List ApiPart) (r : (List Int)) (h0 : ref17_Cols p0 = some r) : CallAt Tryz.prog 53 [.d ((eL 2 eApiPart) p0)] [] (.d ((eL 1 eI) r)) [] := by
 unfold ref17_Cols at h0
 refine fn0 [0] Tryz.func53 rfl rfl rfl rfl rfl ?_
 refine sr (s1 (asg (v := .d .nils) rfl) (sn (sr (s1 (asg (v := .d .nils) rfl) (sn (SC.seqP h0 (fun y => ⟨mk 20 [(3, .slc 0 1 0 y.length none)], [.row 1 (List.map eI y) true]⟩) ?_ ?_))))))
 ·intro u1_44 h1
  obtain ⟨u2_54, h2, h1⟩ := ob h1
  refine sr (sa rfl (sn (SC.blk (SC.loopB h2 (fun y => ⟨mk 20 [(0, .d ((eL 2 eApiPart) p0)), (3, .slc 0 1 0 y.1.length none), (4, .d (eI y.2))], [.row 1 (List.map eI y.1) true]⟩) (Wk.trans (Wk.pushE (σ' := [.row 1 (List.map eI ([] : List Int)) true]) (.row 1 [] true) (fun _ hh => by cases hh) rfl) (Wk.trans (Wk.env (e' := [(0, .d ((eL 2 eApiPart) p0)), (3, .slc 0 1 0 (([] : List Int).length) none), (4, .d (eI (0 : Int)))]) (EW.cons (AW.refl _) (EW.cons (AW.slcn _ _ _) (EW.cons (AW.refl _) EW.nil)))) (wq rfl))) ?_))))
  intro n57
  rintro ⟨y47, y48⟩ w2_53 h3 hv3
  refine sq (sr (sm rfl (sm rfl (s1 (len rfl rfl rfl (len_lst un80)) (s1 (bi rfl rfl q_i64_lss) (sn (cB h3 rfl (fun h3 => ?_) (fun h3 => ?_))))))))
  ·obtain ⟨v55, hv55, h3⟩ := ob h3; obtain ⟨hg56, h3⟩ := gd h3
   refine sk (sq (SC.blk (SC.region (sm rfl (sm rfl (sm rfl (s1 (ial rfl rfl un80 ts79 (getI_some hv55).1 (map_get (getI_some hv55).2) rfl) (s1 (fap rfl fo79_0 ts3 rfl) (s1 (lod rfl (ld_rop ts3 ta3 rfl)) ?_)))))))))
   refine s1 (bsn (k := 1) (ds := List.map eI [v55.Col]) (off := 0) (l' := [v55.Col].length) rfl un23 ei3 rfl rfl (by rfl) rfl rfl rfl) (s1 (app rfl rfl rfl rfl bc23 (aF (f := eI) (xs := y47) (k := 2) rfl un23 ei3 rfl (el_full (xs := [v55.Col]) rfl) hg56 rfl)) (sa rfl (SO.nil ?_)))
   change SC _ _ _ _ _
   have q := si h3; subst q
   exact SC.region (sm rfl (s1 (bi rfl rfl q_i64_add) (sa rfl (SO.nil (lf (wc [2] [2] (by kernel_rfl) rfl (by kernel_rfl)))))))
  ·have q := si h3; subst q; have q : _ = _ := hv3; subst q; have q := si h1; subst q
   exact SC.exit ((wq rfl))
 ·rintro y43 h0
  have q := si h0; subst q
  exact sr (sm rfl (sa rfl (sn (SC.ret (finR (Wk.trans (Wk.frz (i := 2) (x := .slc 0 1 0 y43.length none) rfl rfl (fF rfl rfl rfl)) (wc (e' := [(2, .d ((eL 1 eI) y43))]) [] [] (by kernel_rfl) rfl (by kernel_rfl))) (lresT rfl lresN) rfl)))))
noncomputable def ref17_index (p0 : ApiTable) (p1 : ApiIndex) : Option Int :=
 Option.bind (α := Bool)
 (bif (decide ((p1.Parts.length : Int) < (1 : Int))) then
 some true
 else
 bif (decide ((p1.Parts.length : Int) > (4 : Int))) then
 some true
 else
 Option.bind (ref17_Cols p1.Parts) fun r145 =>
 Option.bind (ref17_places (p0.Cols.length : Int) r145) fun r147 =>
 bif (!r147) then
 some true
 else
 Option.bind (ref17_places (p0.Cols.length : Int) p1.Extra) fun r149 =>
 some (!r149))
 fun y143 =>
 bif y143 then
 some (1 : Int)
 else
 bindE (Y := Unit) (E := Int)
 (Option.bind (α := Unit ⊕ Int)
 (loop (Y := Int) (W := Unit ⊕ Int) (fun y229 =>
 bif (decide (y229 < (p1.Extra.length : Int))) then
 Option.bind (α := Bool)
 (Option.bind (ref17_Cols p1.Parts) fun r261 =>
 Option.bind (getI p1.Extra y229) fun v263 =>
 Option.bind (ref17_Has r261 v263) fun r264 =>
 bif r264 then
 some true
 else
 Option.bind (getI p1.Extra y229) fun v266 =>
 Option.bind (ref17_Has p0.Primary v266) fun r267 =>
 some r267)
 fun y259 =>
 bif y259 then
 some (Sum.inr (Sum.inr (1 : Int)))
 else
 some (Sum.inl (w64 (y229 + (1 : Int))))
 else
 some (Sum.inr (Sum.inl ()))) (0 : Int))
 (Sum.elim (fun e => some (Sum.inl e)) (fun e => some (Sum.inr e))))
 (fun _ =>
 Option.bind (ref17_KeyMax p0.Cols p1.Parts) fun r270 =>
 bif (decide (r270 > (128 : Int))) then
 some (7 : Int)
 else
 some (0 : Int))
 (fun e => some e)
theorem ref17_index_ok (p0 : ApiTable) (p1 : ApiIndex) (r : Int) (h0 : ref17_index p0 p1 = some r) : CallAt Tryz.prog 28 [.d (eApiTable p0), .d (eApiIndex p1)] [] (.d (eI r)) [] := by
 unfold ref17_index at h0
 refine fn0 [0, 1] Tryz.func28 rfl rfl rfl rfl rfl ?_
 refine sr (s1 (bxo (k := 0) rfl rfl rfl) (s1 (bxo (k := 1) rfl rfl rfl) (sa rfl (sn (sr (s1 (far (k := 1) rfl fo26_1 ts22 rfl) (s1 (lod rfl (ld_box ts22 ta22 rfl rfl)) (s1 (len rfl rfl rfl (len_lst un22)) (sa rfl ?_)))))))))
 refine sn (sq (SC.seqP h0 (fun y => ⟨mk 67 [(2, .ref 0 0 0), (3, .ref 1 0 0), (34, .d (eB y))], [.box (.d (eApiTable p0)), .box (.d (eApiIndex p1))]⟩) ?_ ?_))
 ·intro u1_144 h1
  refine SC.region (s1 (far (k := 1) rfl fo82_1 ts80 rfl) (s1 (lod rfl (ld_box ts80 ta80 rfl rfl)) (s1 (len rfl rfl rfl (len_lst un80)) (s1 (bi rfl rfl q_i64_lss) (sm rfl (sp h1 (fun h1 => ?_) (fun h1 => ?_)))))))
  ·have q := si h1; subst q
   refine kw rfl (kw rfl (kw rfl (kw rfl (s1 (pkt rfl rfl) (sm rfl (kw rfl (kw rfl (kw rfl (kw rfl ?_)))))))))
   refine kw rfl (kw rfl (s1 (pkt rfl rfl) (sm rfl (kw rfl (kw rfl (kw rfl (kw rfl (kw rfl (s1 (pkt rfl rfl) ?_)))))))))
   exact SO.nil ((wq rfl))
  ·refine gw rfl (far (k := 1) rfl fo82_1 ts80 rfl) (gw rfl (lod rfl (ld_box ts80 ta80 rfl rfl)) (gw rfl (len rfl rfl rfl (len_lst un80)) (gw rfl (bi rfl rfl q_i64_gtr) (s1 (pkf rfl rfl) (sm rfl (sp h1 (fun h1 => ?_) (fun h1 => ?_)))))))
   ·have q := si h1; subst q
    refine kw rfl (kw rfl (kw rfl (kw rfl (kw rfl (kw rfl (s1 (pkt rfl rfl) (sm rfl (kw rfl (kw rfl ?_)))))))))
    exact kw rfl (kw rfl (kw rfl (s1 (pkt rfl rfl) (SO.nil ((wq rfl))))))
   ·obtain ⟨r145, hq146, h1⟩ := ob h1; obtain ⟨r147, hq148, h1⟩ := ob h1
    refine gw rfl (mv rfl) (gw rfl (far (k := 1) rfl fo82_1 ts80 rfl) (gw rfl (lod rfl (ld_box ts80 ta80 rfl rfl)) (c0 (ref17_Cols_ok p1.Parts _ hq146) (ww rfl) rfl rfl rfl cb53 rfl (fun _ => rfl) (fun _ => rfl) (c0 (ref17_places_ok (p0.Cols.length : Int) r145 _ hq148) (ww rfl) rfl rfl rfl cb24 rfl (fun _ => rfl) (fun _ => rfl) (gw rfl (nt rfl) (s1 (pkf rfl rfl) (sm rfl (sp h1 (fun h1 => ?_) (fun h1 => ?_)))))))))
    ·have q := si h1; subst q
     exact kw rfl (kw rfl (kw rfl (kw rfl (kw rfl (s1 (pkt rfl rfl) (SO.nil ((wq rfl))))))))
    ·obtain ⟨r149, hq150, h1⟩ := ob h1; have q := si h1; subst q
     exact gw rfl (mv rfl) (gw rfl (far (k := 2) rfl fo82_2 ts23 rfl) (gw rfl (lod rfl (ld_box ts23 ta23 rfl rfl)) (c0 (ref17_places_ok (p0.Cols.length : Int) p1.Extra _ hq150) (ww rfl) rfl rfl rfl cb24 rfl (fun _ => rfl) (fun _ => rfl) (gw rfl (nt rfl) (s1 (pkf rfl rfl) (SO.nil ((wq rfl))))))))
 ·rintro y143 h0
  refine cB h0 rfl (fun h0 => ?_) (fun h0 => ?_)
  ·have q := si h0; subst q
   exact sr (sa rfl (sn (SC.ret (finR (wc (e' := [(4, .d (eI (1 : Int)))]) [] [] (by kernel_rfl) rfl (by kernel_rfl)) (lresT rfl lresN) rfl))))
  ·refine sk (SC.seqB h0 (fun y => ⟨mk 67 [(2, .ref 0 0 0), (3, .ref 1 0 0)], [.box (.d (eApiTable p0)), .box (.d (eApiIndex p1))]⟩) ?_ ?_)
   ·intro u1_210 h1 h0
    obtain ⟨u2_250, h2, h1⟩ := ob h1
    refine sr (sa rfl (sn (SC.blk (SC.loopB h2 (fun y => ⟨mk 67 [(2, .ref 0 0 0), (3, .ref 1 0 0), (6, .d (eI y))], [.box (.d (eApiTable p0)), .box (.d (eApiIndex p1))]⟩) (wq rfl) ?_))))
    intro n269
    rintro y229 w2_249 h3 hv3
    refine sq (sr (sm rfl (s1 (far (k := 2) rfl fo82_2 ts23 rfl) (s1 (lod rfl (ld_box ts23 ta23 rfl rfl)) (s1 (len rfl rfl rfl (len_lst un23)) (s1 (bi rfl rfl q_i64_lss) (sn (cB h3 rfl (fun h3 => ?_) (fun h3 => ?_)))))))))
    ·refine sk (sq (SC.blk (SC.seqP h3 (fun y => ⟨mk 67 [(2, .ref 0 0 0), (3, .ref 1 0 0), (6, .d (eI y229)), (60, .d (eB y))], [.box (.d (eApiTable p0)), .box (.d (eApiIndex p1))]⟩) ?_ ?_)))
     ·intro u4_260 h4
      obtain ⟨r261, hq262, h4⟩ := ob h4; obtain ⟨v263, hv263, h4⟩ := ob h4; obtain ⟨r264, hq265, h4⟩ := ob h4
      refine SC.draws (by kernel_rfl) (t1 ([], false) (far (k := 1) rfl fo82_1 ts80 rfl) rfl (t1 ([1], false) (lod rfl (ld_box ts80 ta80 rfl rfl)) rfl (tc0 (ref17_Cols_ok p1.Parts _ hq262) wf rfl rfl rfl cb53 rfl (fun _ => rfl) (fun _ => rfl) (t1 ([], false) (far (k := 2) rfl fo82_2 ts23 rfl) rfl (t1 ([1], false) (lod rfl (ld_box ts23 ta23 rfl rfl)) rfl (t1 ([], false) (mv rfl) rfl (t1 ([], false) (ial rfl rfl un23 ts3 (getI_some hv263).1 (map_get (getI_some hv263).2) rfl) rfl (t1 ([], false) (lod rfl (ld_rop ts3 ta3 rfl)) rfl (tc0 (ref17_Has_ok r261 v263 _ hq265) wf rfl rfl rfl cb52 rfl (fun _ => rfl) (fun _ => rfl) ?_)))))))))
      refine t1 ([], false) (mv rfl) rfl (tp h4 (fun h4 => ?_) (fun h4 => ?_))
      ·have q := si h4; subst q
       refine jw rfl (jw rfl (jw rfl (jw rfl (jw rfl (jw rfl (jw rfl (jw rfl (t1 ([], false) (pkt rfl rfl) rfl (ST.nil (And.intro (by decide +kernel) ?_))))))))))
       exact (wq rfl)
      ·obtain ⟨v266, hv266, h4⟩ := ob h4; obtain ⟨r267, hq268, h4⟩ := ob h4; have q := si h4; subst q
       refine u1 ([], false) (ww rfl) (far (k := 2) rfl fo26_2 ts23 rfl) rfl (u1 ([0], false) (ww rfl) (lod rfl (ld_box ts23 ta23 rfl rfl)) rfl (u1 ([], false) (ww rfl) (far (k := 2) rfl fo82_2 ts23 rfl) rfl (u1 ([1], false) (ww rfl) (lod rfl (ld_box ts23 ta23 rfl rfl)) rfl (u1 ([], false) (ww rfl) (mv rfl) rfl (u1 ([], false) (ww rfl) (ial rfl rfl un23 ts3 (getI_some hv266).1 (map_get (getI_some hv266).2) rfl) rfl (u1 ([], false) (ww rfl) (lod rfl (ld_rop ts3 ta3 rfl)) rfl (tc0 (ref17_Has_ok p0.Primary v266 _ hq268) (ww rfl) rfl rfl rfl cb52 rfl (fun _ => rfl) (fun _ => rfl) (t1 ([], false) (pkf rfl rfl) rfl (ST.nil (And.intro (by decide +kernel) ?_))))))))))
       exact (wq rfl)
     ·rintro y259 h3
      refine cB h3 rfl (fun h3 => ?_) (fun h3 => ?_)
      ·have q := si h3; subst q; have q : _ = _ := hv3; subst q; have q := si h1; subst q; have q := si h0; subst q
       exact sr (sa rfl (sn (SC.ret (finR (wc (e' := [(4, .d (eI (1 : Int)))]) [] [] (by kernel_rfl) rfl (by kernel_rfl)) (lresT rfl lresN) rfl))))
      ·refine SC.skip ?_
       change SC _ _ _ _ _
       have q := si h3; subst q
       exact SC.region (sm rfl (s1 (bi rfl rfl q_i64_add) (sa rfl (SO.nil (lf (wq rfl))))))
    ·have q := si h3; subst q; have q : _ = _ := hv3; subst q; have q := si h1; subst q
     exact SC.exit (lf (wq rfl))
   ·intro _ h0
    obtain ⟨r270, hq271, h0⟩ := ob h0
    refine sq (sr (s1 (far (k := 1) rfl fo26_1 ts22 rfl) (s1 (lod rfl (ld_box ts22 ta22 rfl rfl)) (s1 (far (k := 1) rfl fo82_1 ts80 rfl) (s1 (lod rfl (ld_box ts80 ta80 rfl rfl)) (c0 (ref17_KeyMax_ok p0.Cols p1.Parts _ hq271) wf rfl rfl rfl cb26 rfl (fun _ => rfl) (fun _ => rfl) (s1 (bi rfl rfl q_i64_gtr) (sn (cB h0 rfl (fun h0 => ?_) (fun h0 => ?_))))))))))
    ·have q := si h0; subst q
     exact sr (sa rfl (sn (SC.ret (finR (wc (e' := [(4, .d (eI (7 : Int)))]) [] [] (by kernel_rfl) rfl (by kernel_rfl)) (lresT rfl lresN) rfl))))
    ·have q := si h0; subst q
     exact sk (sr (sa rfl (sn (SC.ret (finR (wc (e' := [(4, .d (eI (0 : Int)))]) [] [] (by kernel_rfl) rfl (by kernel_rfl)) (lresT rfl lresN) rfl)))))
noncomputable def ref17_Check (p0 : ApiTable) : Option Int :=
 Option.bind (ref06_Name p0.Name) fun r443 =>
 bif (!r443) then
 some (1 : Int)
 else
 Option.bind (α := Bool)
 (bif (decide ((p0.Cols.length : Int) < (1 : Int))) then
 some true
 else
 some (decide ((p0.Cols.length : Int) > (24 : Int))))
 fun y445 =>
 bif y445 then
 some (7 : Int)
 else
 bindE (Y := Unit) (E := Int)
 (Option.bind (α := Unit ⊕ Int)
 (loop (Y := Int) (W := Unit ⊕ Int) (fun y537 =>
 bif (decide (y537 < (p0.Cols.length : Int))) then
 bindE (Y := Unit) (E := Int)
 (Option.bind (getI p0.Cols y537) fun v585 =>
 Option.bind (ref06_Column v585) fun r586 =>
 bif (r586 != (0 : Int)) then
 some (Sum.inr r586)
 else
 Option.bind (α := Unit ⊕ Int)
 (loop (Y := Int) (W := Unit ⊕ Int) (fun y590 =>
 bif (decide (y590 < y537)) then
 Option.bind (getI p0.Cols y590) fun v596 =>
 Option.bind (getI p0.Cols y537) fun v597 =>
 bif (v596.Name == v597.Name) then
 some (Sum.inr (Sum.inr (6 : Int)))
 else
 some (Sum.inl (w64 (y590 + (1 : Int))))
 else
 some (Sum.inr (Sum.inl ()))) (0 : Int))
 (Sum.elim (fun e => some (Sum.inl e)) (fun e => some (Sum.inr e))))
 (fun _ =>
 some (Sum.inl (w64 (y537 + (1 : Int)))))
 (fun e => some (Sum.inr (Sum.inr e)))
 else
 some (Sum.inr (Sum.inl ()))) (0 : Int))
 (Sum.elim (fun e => some (Sum.inl e)) (fun e => some (Sum.inr e))))
 (fun _ =>
 Option.bind (α := Bool)
 (bif (decide ((p0.Primary.length : Int) < (1 : Int))) then
 some true
 else
 bif (decide ((p0.Primary.length : Int) > (4 : Int))) then
 some true
 else
 Option.bind (ref17_places (p0.Cols.length : Int) p0.Primary) fun r604 =>
 some (!r604))
 fun y602 =>
 bif y602 then
 some (1 : Int)
 else
 bindE (Y := Unit) (E := Int)
 (Option.bind (α := Unit ⊕ Int)
 (loop (Y := Int) (W := Unit ⊕ Int) (fun y620 =>
 bif (decide (y620 < (p0.Primary.length : Int))) then
 Option.bind (getI p0.Primary y620) fun v626 =>
 Option.bind (getI p0.Cols v626) fun v627 =>
 bif v627.Nulls then
 some (Sum.inr (Sum.inr (1 : Int)))
 else
 some (Sum.inl (w64 (y620 + (1 : Int))))
 else
 some (Sum.inr (Sum.inl ()))) (0 : Int))
 (Sum.elim (fun e => some (Sum.inl e)) (fun e => some (Sum.inr e))))
 (fun _ =>
 Option.bind (α := Bool)
 (Option.bind (ref17_RowMax p0.Cols) fun r637 =>
 bif (decide (r637 > (512 : Int))) then
 some true
 else
 Option.bind (ref17_Up p0.Primary) fun r639 =>
 Option.bind (ref17_KeyMax p0.Cols r639) fun r641 =>
 bif (decide (r641 > (128 : Int))) then
 some true
 else
 some (decide ((p0.Indexes.length : Int) > (6 : Int))))
 fun y635 =>
 bif y635 then
 some (7 : Int)
 else
 bindE (Y := Unit) (E := Int)
 (Option.bind (α := Unit ⊕ Int)
 (loop (Y := Int) (W := Unit ⊕ Int) (fun y789 =>
 bif (decide (y789 < (p0.Indexes.length : Int))) then
 bindE (Y := Unit) (E := Int)
 (Option.bind (getI p0.Indexes y789) fun v861 =>
 Option.bind (ref06_Name v861.Name) fun r862 =>
 bif (!r862) then
 some (Sum.inr (1 : Int))
 else
 bindE (Y := Unit) (E := Int)
 (Option.bind (α := Unit ⊕ Int)
 (loop (Y := Int) (W := Unit ⊕ Int) (fun y874 =>
 bif (decide (y874 < y789)) then
 Option.bind (getI p0.Indexes y874) fun v879 =>
 bif (v879.Name == v861.Name) then
 some (Sum.inr (Sum.inr (6 : Int)))
 else
 some (Sum.inl (w64 (y874 + (1 : Int))))
 else
 some (Sum.inr (Sum.inl ()))) (0 : Int))
 (Sum.elim (fun e => some (Sum.inl e)) (fun e => some (Sum.inr e))))
 (fun _ =>
 Option.bind (ref17_index p0 v861) fun r881 =>
 bif (r881 != (0 : Int)) then
 some (Sum.inr r881)
 else
 some (Sum.inl ()))
 (fun e => some (Sum.inr e)))
 (fun _ =>
 some (Sum.inl (w64 (y789 + (1 : Int)))))
 (fun e => some (Sum.inr (Sum.inr e)))
 else
 some (Sum.inr (Sum.inl ()))) (0 : Int))
 (Sum.elim (fun e => some (Sum.inl e)) (fun e => some (Sum.inr e))))
 (fun _ =>
 some (0 : Int))
 (fun e => some e))
 (fun e => some e))
 (fun e => some e)
theorem ref17_Check_ok (p0 : ApiTable) (r : Int) (h0 : ref17_Check p0 = some r) : CallAt Tryz.prog 8 [.d (eApiTable p0)] [] (.d (eI r)) [] := by
 unfold ref17_Check at h0
 refine fn0 [0] Tryz.func8 rfl rfl rfl rfl rfl ?_
 obtain ⟨r443, hq444, h0⟩ := ob h0
 refine sr (s1 (bxo (k := 0) rfl rfl rfl) (sa rfl (sn (sq (sr (s1 (far (k := 0) rfl fo26_0 ts9 rfl) (s1 (lod rfl (ld_box ts9 ta9 rfl rfl)) (c0 (ref06_Name_ok p0.Name _ hq444) wf rfl rfl rfl cb22 rfl (fun _ => rfl) (fun _ => rfl) (s1 (nt rfl) ?_)))))))))
 refine sn (cB h0 rfl (fun h0 => ?_) (fun h0 => ?_))
 ·have q := si h0; subst q
  exact sr (sa rfl (sn (SC.ret (finR (wc (e' := [(2, .d (eI (1 : Int)))]) [] [] (by kernel_rfl) rfl (by kernel_rfl)) (lresT rfl lresN) rfl))))
 ·refine sk (sq (SC.seqP h0 (fun y => ⟨mk 150 [(1, .ref 0 0 0), (24, .d (eB y))], [.box (.d (eApiTable p0))]⟩) ?_ ?_))
  ·intro u1_446 h1
   refine SC.region (s1 (far (k := 1) rfl fo26_1 ts22 rfl) (s1 (lod rfl (ld_box ts22 ta22 rfl rfl)) (s1 (len rfl rfl rfl (len_lst un22)) (s1 (bi rfl rfl q_i64_lss) (sm rfl (sp h1 (fun h1 => ?_) (fun h1 => ?_)))))))
   ·have q := si h1; subst q
    exact kw rfl (kw rfl (kw rfl (kw rfl (s1 (pkt rfl rfl) (SO.nil ((wq rfl)))))))
   ·have q := si h1; subst q
    exact gw rfl (far (k := 1) rfl fo26_1 ts22 rfl) (gw rfl (lod rfl (ld_box ts22 ta22 rfl rfl)) (gw rfl (len rfl rfl rfl (len_lst un22)) (gw rfl (bi rfl rfl q_i64_gtr) (s1 (pkf rfl rfl) (SO.nil ((wq rfl)))))))
  ·rintro y445 h0
   refine cB h0 rfl (fun h0 => ?_) (fun h0 => ?_)
   ·have q := si h0; subst q
    exact sr (sa rfl (sn (SC.ret (finR (wc (e' := [(2, .d (eI (7 : Int)))]) [] [] (by kernel_rfl) rfl (by kernel_rfl)) (lresT rfl lresN) rfl))))
   ·refine sk (SC.seqB h0 (fun y => ⟨mk 150 [(1, .ref 0 0 0)], [.box (.d (eApiTable p0))]⟩) ?_ ?_)
    ·intro u1_523 h1 h0
     obtain ⟨u2_569, h2, h1⟩ := ob h1
     refine sr (sa rfl (sn (SC.blk (SC.loopB h2 (fun y => ⟨mk 150 [(1, .ref 0 0 0), (3, .d (eI y))], [.box (.d (eApiTable p0))]⟩) (wq rfl) ?_))))
     intro n599
     rintro y537 w2_568 h3 hv3
     refine sq (sr (sm rfl (s1 (far (k := 1) rfl fo26_1 ts22 rfl) (s1 (lod rfl (ld_box ts22 ta22 rfl rfl)) (s1 (len rfl rfl rfl (len_lst un22)) (s1 (bi rfl rfl q_i64_lss) (sn (cB h3 rfl (fun h3 => ?_) (fun h3 => ?_)))))))))
     ·refine sk (SC.seqB h3 (fun y => ⟨mk 150 [(1, .ref 0 0 0), (3, .d (eI y537))], [.box (.d (eApiTable p0))]⟩) ?_ ?_)
      ·intro u4_584 h4 h3
       obtain ⟨v585, hv585, h4⟩ := ob h4; obtain ⟨r586, hq587, h4⟩ := ob h4
       refine SC.blk (sr (s1 (far (k := 1) rfl fo26_1 ts22 rfl) (s1 (lod rfl (ld_box ts22 ta22 rfl rfl)) (sm rfl (s1 (ial rfl rfl un22 ts77 (getI_some hv585).1 (map_get (getI_some hv585).2) rfl) (s1 (lod (v := .d (eApiColumn v585)) rfl (ld_rop ts77 ta77 rfl)) (c0 (ref06_Column_ok v585 _ hq587) wf rfl rfl rfl cb23 rfl (fun _ => rfl) (fun _ => rfl) (sa rfl (sn ?_)))))))))
       refine sq (sr (sm rfl (s1 (bi rfl rfl q_i64_neq) (sn (cB h4 rfl (fun h4 => ?_) (fun h4 => ?_))))))
       ·have q := si h4; subst q; have q := si h3; subst q; have q : _ = _ := hv3; subst q; have q := si h1; subst q; have q := si h0; subst q
        exact sr (sm rfl (sa rfl (sn (SC.ret (finR (wc (e' := [(2, .d (eI r586))]) [] [] (by kernel_rfl) rfl (by kernel_rfl)) (lresT rfl lresN) rfl)))))
       ·obtain ⟨u5_595, h5, h4⟩ := ob h4
        refine sk (sr (sa rfl (sn (SC.blk (SC.loopB h5 (fun y => ⟨mk 150 [(1, .ref 0 0 0), (3, .d (eI y537)), (5, .d (eI y))], [.box (.d (eApiTable p0))]⟩) (wq rfl) ?_)))))
        intro n598
        rintro y590 w5_594 h6 hv6
        refine sq (sr (sm rfl (sm rfl (s1 (bi rfl rfl q_i64_lss) (sn (cB h6 rfl (fun h6 => ?_) (fun h6 => ?_)))))))
        ·obtain ⟨v596, hv596, h6⟩ := ob h6; obtain ⟨v597, hv597, h6⟩ := ob h6
         refine sk (sq (SC.blk (sd (by kernel_rfl) (t1 ([], false) (far (k := 1) rfl fo26_1 ts22 rfl) rfl (t1 ([0], false) (lod rfl (ld_box ts22 ta22 rfl rfl)) rfl (t1 ([], false) (mv rfl) rfl (t1 ([], false) (ial rfl rfl un22 ts77 (getI_some hv596).1 (map_get (getI_some hv596).2) rfl) rfl (t1 ([], false) (fap rfl fo77_0 ts9 rfl) rfl (t1 ([], false) (lod rfl (ld_rop ts9 ta9 rfl)) rfl ?_)))))))))
         refine t1 ([], false) (far (k := 1) rfl fo26_1 ts22 rfl) rfl (t1 ([0], false) (lod rfl (ld_box ts22 ta22 rfl rfl)) rfl (t1 ([], false) (mv rfl) rfl (t1 ([], false) (ial rfl rfl un22 ts77 (getI_some hv597).1 (map_get (getI_some hv597).2) rfl) rfl (t1 ([], false) (fap rfl fo77_0 ts9 rfl) rfl (t1 ([], false) (lod rfl (ld_rop ts9 ta9 rfl)) rfl (t1 ([], false) (bi rfl rfl q_str_eql) rfl (tn (by decide +kernel) (cB h6 rfl (fun h6 => ?_) (fun h6 => ?_)))))))))
         ·have q := si h6; subst q; have q : _ = _ := hv6; subst q; have q := si h4; subst q; have q := si h3; subst q; have q : _ = _ := hv3; subst q; have q := si h1; subst q; have q := si h0; subst q
          exact sr (sa rfl (sn (SC.ret (finR (wc (e' := [(2, .d (eI (6 : Int)))]) [] [] (by kernel_rfl) rfl (by kernel_rfl)) (lresT rfl lresN) rfl))))
         ·refine SC.skip ?_
          change SC _ _ _ _ _
          have q := si h6; subst q
          exact SC.region (sm rfl (s1 (bi rfl rfl q_i64_add) (sa rfl (SO.nil (lf (wq rfl))))))
        ·have q := si h6; subst q; have q : _ = _ := hv6; subst q; have q := si h4; subst q
         exact SC.exit (lf (wq rfl))
      ·intro _ h3
       have q := si h3; subst q
       exact SC.region (sm rfl (s1 (bi rfl rfl q_i64_add) (sa rfl (SO.nil (lf (wq rfl))))))
     ·have q := si h3; subst q; have q : _ = _ := hv3; subst q; have q := si h1; subst q
      exact SC.exit (lf (wq rfl))
    ·intro _ h0
     refine sq (SC.seqP h0 (fun y => ⟨mk 150 [(1, .ref 0 0 0), (77, .d (eB y))], [.box (.d (eApiTable p0))]⟩) ?_ ?_)
     ·intro u1_603 h1
      refine SC.region (s1 (far (k := 2) rfl fo26_2 ts23 rfl) (s1 (lod rfl (ld_box ts23 ta23 rfl rfl)) (s1 (len rfl rfl rfl (len_lst un23)) (s1 (bi rfl rfl q_i64_lss) (sm rfl (sp h1 (fun h1 => ?_) (fun h1 => ?_)))))))
      ·have q := si h1; subst q
       refine kw rfl (kw rfl (kw rfl (kw rfl (s1 (pkt rfl rfl) (sm rfl (kw rfl (kw rfl (kw rfl (kw rfl ?_)))))))))
       exact kw rfl (kw rfl (kw rfl (s1 (pkt rfl rfl) (SO.nil ((wq rfl))))))
      ·refine gw rfl (far (k := 2) rfl fo26_2 ts23 rfl) (gw rfl (lod rfl (ld_box ts23 ta23 rfl rfl)) (gw rfl (len rfl rfl rfl (len_lst un23)) (gw rfl (bi rfl rfl q_i64_gtr) (s1 (pkf rfl rfl) (sm rfl (sp h1 (fun h1 => ?_) (fun h1 => ?_)))))))
       ·have q := si h1; subst q
        exact kw rfl (kw rfl (kw rfl (kw rfl (kw rfl (kw rfl (kw rfl (s1 (pkt rfl rfl) (SO.nil ((wq rfl))))))))))
       ·obtain ⟨r604, hq605, h1⟩ := ob h1; have q := si h1; subst q
        exact gw rfl (far (k := 1) rfl fo26_1 ts22 rfl) (gw rfl (lod rfl (ld_box ts22 ta22 rfl rfl)) (gw rfl (len rfl rfl rfl (len_lst un22)) (gw rfl (far (k := 2) rfl fo26_2 ts23 rfl) (gw rfl (lod rfl (ld_box ts23 ta23 rfl rfl)) (c0 (ref17_places_ok (p0.Cols.length : Int) p0.Primary _ hq605) (ww rfl) rfl rfl rfl cb24 rfl (fun _ => rfl) (fun _ => rfl) (gw rfl (nt rfl) (s1 (pkf rfl rfl) (SO.nil ((wq rfl))))))))))
     ·rintro y602 h0
      refine cB h0 rfl (fun h0 => ?_) (fun h0 => ?_)
      ·have q := si h0; subst q
       exact sr (sa rfl (sn (SC.ret (finR (wc (e' := [(2, .d (eI (1 : Int)))]) [] [] (by kernel_rfl) rfl (by kernel_rfl)) (lresT rfl lresN) rfl))))
      ·refine sk (SC.seqB h0 (fun y => ⟨mk 150 [(1, .ref 0 0 0)], [.box (.d (eApiTable p0))]⟩) ?_ ?_)
       ·intro u1_617 h1 h0
        obtain ⟨u2_625, h2, h1⟩ := ob h1
        refine sr (sa rfl (sn (SC.blk (SC.loopB h2 (fun y => ⟨mk 150 [(1, .ref 0 0 0), (6, .d (eI y))], [.box (.d (eApiTable p0))]⟩) (wq rfl) ?_))))
        intro n628
        rintro y620 w2_624 h3 hv3
        refine sq (sr (sm rfl (s1 (far (k := 2) rfl fo26_2 ts23 rfl) (s1 (lod rfl (ld_box ts23 ta23 rfl rfl)) (s1 (len rfl rfl rfl (len_lst un23)) (s1 (bi rfl rfl q_i64_lss) (sn (cB h3 rfl (fun h3 => ?_) (fun h3 => ?_)))))))))
        ·obtain ⟨v626, hv626, h3⟩ := ob h3; obtain ⟨v627, hv627, h3⟩ := ob h3
         refine sk (sq (SC.blk (sd (by kernel_rfl) (t1 ([], false) (far (k := 1) rfl fo26_1 ts22 rfl) rfl (t1 ([0], false) (lod rfl (ld_box ts22 ta22 rfl rfl)) rfl (t1 ([], false) (far (k := 2) rfl fo26_2 ts23 rfl) rfl (t1 ([0], false) (lod rfl (ld_box ts23 ta23 rfl rfl)) rfl (t1 ([], false) (mv rfl) rfl (t1 ([], false) (ial rfl rfl un23 ts3 (getI_some hv626).1 (map_get (getI_some hv626).2) rfl) rfl ?_)))))))))
         refine t1 ([], false) (lod rfl (ld_rop ts3 ta3 rfl)) rfl (t1 ([], false) (ial rfl rfl un22 ts77 (getI_some hv627).1 (map_get (getI_some hv627).2) rfl) rfl (t1 ([], false) (fap rfl fo77_3 ts4 rfl) rfl (t1 ([], false) (lod rfl (ld_rop ts4 ta4 rfl)) rfl (tn (by decide +kernel) (cB h3 rfl (fun h3 => ?_) (fun h3 => ?_))))))
         ·have q := si h3; subst q; have q : _ = _ := hv3; subst q; have q := si h1; subst q; have q := si h0; subst q
          exact sr (sa rfl (sn (SC.ret (finR (wc (e' := [(2, .d (eI (1 : Int)))]) [] [] (by kernel_rfl) rfl (by kernel_rfl)) (lresT rfl lresN) rfl))))
         ·refine SC.skip ?_
          change SC _ _ _ _ _
          have q := si h3; subst q
          exact SC.region (sm rfl (s1 (bi rfl rfl q_i64_add) (sa rfl (SO.nil (lf (wq rfl))))))
        ·have q := si h3; subst q; have q : _ = _ := hv3; subst q; have q := si h1; subst q
         exact SC.exit (lf (wq rfl))
       ·intro _ h0
        refine sq (SC.seqP h0 (fun y => ⟨mk 150 [(1, .ref 0 0 0), (113, .d (eB y))], [.box (.d (eApiTable p0))]⟩) ?_ ?_)
        ·intro u1_636 h1
         obtain ⟨r637, hq638, h1⟩ := ob h1
         refine SC.draws (by kernel_rfl) (t1 ([], false) (far (k := 1) rfl fo26_1 ts22 rfl) rfl (t1 ([0], false) (lod rfl (ld_box ts22 ta22 rfl rfl)) rfl (tc0 (ref17_RowMax_ok p0.Cols _ hq638) wf rfl rfl rfl cb25 rfl (fun _ => rfl) (fun _ => rfl) (t1 ([], false) (bi rfl rfl q_i64_gtr) rfl (t1 ([], false) (mv rfl) rfl (tp h1 (fun h1 => ?_) (fun h1 => ?_)))))))
         ·have q := si h1; subst q
          refine jw rfl (jw rfl (jw rfl (jw rfl (jw rfl (jw rfl (jw rfl (t1 ([], false) (pkt rfl rfl) rfl (t1 ([], false) (mv rfl) rfl (jw rfl ?_)))))))))
          refine jw rfl (jw rfl (jw rfl (t1 ([], false) (pkt rfl rfl) rfl (ST.nil (And.intro (by decide +kernel) ?_)))))
          exact (wq rfl)
         ·obtain ⟨r639, hq640, h1⟩ := ob h1; obtain ⟨r641, hq642, h1⟩ := ob h1
          refine u1 ([], false) (ww rfl) (far (k := 1) rfl fo26_1 ts22 rfl) rfl (u1 ([0], false) (ww rfl) (lod rfl (ld_box ts22 ta22 rfl rfl)) rfl (u1 ([], false) (ww rfl) (far (k := 2) rfl fo26_2 ts23 rfl) rfl (u1 ([0], false) (ww rfl) (lod rfl (ld_box ts23 ta23 rfl rfl)) rfl (tc0 (ref17_Up_ok p0.Primary _ hq640) (ww rfl) rfl rfl rfl cb27 rfl (fun _ => rfl) (fun _ => rfl) (tc0 (ref17_KeyMax_ok p0.Cols r639 _ hq642) (ww rfl) rfl rfl rfl cb26 rfl (fun _ => rfl) (fun _ => rfl) (u1 ([], false) (ww rfl) (bi rfl rfl q_i64_gtr) rfl (t1 ([], false) (pkf rfl rfl) rfl (t1 ([], false) (mv rfl) rfl (tp h1 (fun h1 => ?_) (fun h1 => ?_))))))))))
          ·have q := si h1; subst q
           refine jw rfl (jw rfl (jw rfl (jw rfl (t1 ([], false) (pkt rfl rfl) rfl (ST.nil (And.intro (by decide +kernel) ?_))))))
           exact (wq rfl)
          ·have q := si h1; subst q
           refine u1 ([], false) (ww rfl) (far (k := 3) rfl fo26_3 ts24 rfl) rfl (u1 ([0], false) (ww rfl) (lod rfl (ld_box ts24 ta24 rfl rfl)) rfl (u1 ([], false) (ww rfl) (len rfl rfl rfl (len_lst un24)) rfl (u1 ([], false) (ww rfl) (bi rfl rfl q_i64_gtr) rfl (t1 ([], false) (pkf rfl rfl) rfl (ST.nil (And.intro (by decide +kernel) ?_))))))
           exact (wq rfl)
        ·rintro y635 h0
         refine cB h0 rfl (fun h0 => ?_) (fun h0 => ?_)
         ·have q := si h0; subst q
          exact sr (sa rfl (sn (SC.ret (finR (wc (e' := [(2, .d (eI (7 : Int)))]) [] [] (by kernel_rfl) rfl (by kernel_rfl)) (lresT rfl lresN) rfl))))
         ·refine sk (SC.seqB h0 (fun y => ⟨mk 150 [], []⟩) ?_ ?_)
          ·intro u1_763 h1 h0
           obtain ⟨u2_837, h2, h1⟩ := ob h1
           refine sr (sa rfl (sn (SC.blk (SC.loopB h2 (fun y => ⟨mk 150 [(1, .ref 0 0 0), (7, .d (eI y))], [.box (.d (eApiTable p0))]⟩) (wq rfl) ?_))))
           intro n883
           rintro y789 w2_836 h3 hv3
           refine sq (sr (sm rfl (s1 (far (k := 3) rfl fo26_3 ts24 rfl) (s1 (lod rfl (ld_box ts24 ta24 rfl rfl)) (s1 (len rfl rfl rfl (len_lst un24)) (s1 (bi rfl rfl q_i64_lss) (sn (cB h3 rfl (fun h3 => ?_) (fun h3 => ?_)))))))))
           ·refine sk (SC.seqB h3 (fun y => ⟨mk 150 [(1, .ref 0 0 0), (7, .d (eI y789))], [.box (.d (eApiTable p0))]⟩) ?_ ?_)
            ·intro u4_860 h4 h3
             obtain ⟨v861, hv861, h4⟩ := ob h4; obtain ⟨r862, hq863, h4⟩ := ob h4
             refine SC.blk (sr (s1 (far (k := 3) rfl fo26_3 ts24 rfl) (s1 (lod rfl (ld_box ts24 ta24 rfl rfl)) (sm rfl (s1 (ial rfl rfl un24 ts82 (getI_some hv861).1 (map_get (getI_some hv861).2) rfl) (s1 (lod (v := .d (eApiIndex v861)) rfl (ld_rop ts82 ta82 rfl)) (s1 (alo (k := 1) zo82 rfl) (s0 (sto rfl rfl (sB (d' := .d (eApiIndex v861)) ts82 rfl rfl rfl rfl rfl rfl rfl)) (sn ?_)))))))))
             refine sq (sr (s1 (far (k := 0) rfl fo82_0 ts9 rfl) (s1 (lod rfl (ld_box ts9 ta9 rfl rfl)) (c0 (ref06_Name_ok v861.Name _ hq863) wf rfl rfl rfl cb22 rfl (fun _ => rfl) (fun _ => rfl) (s1 (nt rfl) (sn (cB h4 rfl (fun h4 => ?_) (fun h4 => ?_))))))))
             ·have q := si h4; subst q; have q := si h3; subst q; have q : _ = _ := hv3; subst q; have q := si h1; subst q; have q := si h0; subst q
              exact sr (sa rfl (sn (SC.ret (finR (wc (e' := [(2, .d (eI (1 : Int)))]) [] [] (by kernel_rfl) rfl (by kernel_rfl)) (lresT rfl lresN) rfl))))
             ·refine sk (SC.seqB h4 (fun y => ⟨mk 150 [(1, .ref 0 0 0), (7, .d (eI y789)), (8, .ref 1 0 0)], [.box (.d (eApiTable p0)), .box (.d (eApiIndex v861))]⟩) ?_ ?_)
              ·intro u5_872 h5 h4
               obtain ⟨u6_878, h6, h5⟩ := ob h5
               refine sr (sa rfl (sn (SC.blk (SC.loopB h6 (fun y => ⟨mk 150 [(1, .ref 0 0 0), (7, .d (eI y789)), (8, .ref 1 0 0), (9, .d (eI y))], [.box (.d (eApiTable p0)), .box (.d (eApiIndex v861))]⟩) (wq rfl) ?_))))
               intro n880
               rintro y874 w6_877 h7 hv7
               refine sq (sr (sm rfl (sm rfl (s1 (bi rfl rfl q_i64_lss) (sn (cB h7 rfl (fun h7 => ?_) (fun h7 => ?_)))))))
               ·obtain ⟨v879, hv879, h7⟩ := ob h7
                refine sk (sq (SC.blk (sd (by kernel_rfl) (t1 ([], false) (far (k := 3) rfl fo26_3 ts24 rfl) rfl (t1 ([0], false) (lod rfl (ld_box ts24 ta24 rfl rfl)) rfl (t1 ([], false) (mv rfl) rfl (t1 ([], false) (ial rfl rfl un24 ts82 (getI_some hv879).1 (map_get (getI_some hv879).2) rfl) rfl (t1 ([], false) (fap rfl fo82_0 ts9 rfl) rfl (t1 ([], false) (lod rfl (ld_rop ts9 ta9 rfl)) rfl ?_)))))))))
                refine t1 ([], false) (far (k := 0) rfl fo82_0 ts9 rfl) rfl (t1 ([1], false) (lod rfl (ld_box ts9 ta9 rfl rfl)) rfl (t1 ([], false) (bi rfl rfl q_str_eql) rfl (tn (by decide +kernel) (cB h7 rfl (fun h7 => ?_) (fun h7 => ?_)))))
                ·have q := si h7; subst q; have q : _ = _ := hv7; subst q; have q := si h5; subst q; have q := si h4; subst q; have q := si h3; subst q; have q : _ = _ := hv3; subst q; have q := si h1; subst q; have q := si h0; subst q
                 exact sr (sa rfl (sn (SC.ret (finR (wc (e' := [(2, .d (eI (6 : Int)))]) [] [] (by kernel_rfl) rfl (by kernel_rfl)) (lresT rfl lresN) rfl))))
                ·refine SC.skip ?_
                 change SC _ _ _ _ _
                 have q := si h7; subst q
                 exact SC.region (sm rfl (s1 (bi rfl rfl q_i64_add) (sa rfl (SO.nil (lf (wq rfl))))))
               ·have q := si h7; subst q; have q : _ = _ := hv7; subst q; have q := si h5; subst q
                exact SC.exit (lf (wq rfl))
              ·intro _ h4
               obtain ⟨r881, hq882, h4⟩ := ob h4
               refine sr (s1 (lod (v := .d (eApiTable p0)) rfl (ld_box ts26 ta26 rfl rfl)) (s1 (lod (v := .d (eApiIndex v861)) rfl (ld_box ts82 ta82 rfl rfl)) (c0 (ref17_index_ok p0 v861 _ hq882) wf rfl rfl rfl cb28 rfl (fun _ => rfl) (fun _ => rfl) (sa rfl (sn (sr (sm rfl (s1 (bi rfl rfl q_i64_neq) (sn ?_)))))))))
               refine cB h4 rfl (fun h4 => ?_) (fun h4 => ?_)
               ·have q := si h4; subst q; have q := si h3; subst q; have q : _ = _ := hv3; subst q; have q := si h1; subst q; have q := si h0; subst q
                exact sr (sm rfl (sa rfl (sn (SC.ret (finR (wc (e' := [(2, .d (eI r881))]) [] [] (by kernel_rfl) rfl (by kernel_rfl)) (lresT rfl lresN) rfl)))))
               ·have q := si h4; subst q
                exact SC.skip (lf (wc [0] [0] (by kernel_rfl) rfl (by kernel_rfl)))
            ·intro _ h3
             have q := si h3; subst q
             exact SC.region (sm rfl (s1 (bi rfl rfl q_i64_add) (sa rfl (SO.nil (lf (wq rfl))))))
           ·have q := si h3; subst q; have q : _ = _ := hv3; subst q; have q := si h1; subst q
            exact SC.exit (lf (wc [] [] (by kernel_rfl) rfl (by kernel_rfl)))
          ·intro _ h0
           have q := si h0; subst q
           exact sr (sa rfl (sn (SC.ret (finR (Wk.refl _) (lresT rfl lresN) rfl))))
noncomputable def slices_Index_int_int (p0 : List Int) (p1 : Int) : Option Int :=
 bindE (Y := Unit) (E := Int)
 (Option.bind (α := Unit ⊕ Int)
 (loop (Y := Int) (W := Unit ⊕ Int) (fun y29 =>
 bif (decide (y29 < (p0.length : Int))) then
 Option.bind (getI p0 y29) fun v34 =>
 bif (p1 == v34) then
 some (Sum.inr (Sum.inr y29))
 else
 some (Sum.inl (w64 (y29 + (1 : Int))))
 else
 some (Sum.inr (Sum.inl ()))) (0 : Int))
 (Sum.elim (fun e => some (Sum.inl e)) (fun e => some (Sum.inr e))))
 (fun _ =>
 some (-1 : Int))
 (fun e => some e)
theorem slices_Index_int_int_ok (p0 : List Int) (p1 : Int) (r : Int) (h0 : slices_Index_int_int p0 p1 = some r) : CallAt Tryz.prog 80 [.d ((eL 1 eI) p0), .d (eI p1)] [] (.d (eI r)) [] := by
 unfold slices_Index_int_int at h0
 refine fn0 [0, 1] Tryz.func80 rfl rfl rfl rfl rfl ?_
 refine sr (sa rfl (sn (SC.seqB h0 (fun y => ⟨mk 19 [], []⟩) ?_ ?_)))
 ·intro u1_27 h1 h0
  obtain ⟨u2_33, h2, h1⟩ := ob h1
  refine sr (sm rfl (s1 (len rfl rfl rfl (len_lst un23)) (sm rfl (sn (SC.blk (SC.loopB h2 (fun y => ⟨mk 19 [(0, .d ((eL 1 eI) p0)), (1, .d (eI p1)), (7, .d (eI (p0.length : Int))), (8, .d (eI y))], []⟩) (wq rfl) ?_))))))
  intro n35
  rintro y29 w2_32 h3 hv3
  refine sr (s1 (bi rfl rfl q_i64_lss) (sn (sq (cB h3 rfl (fun h3 => ?_) (fun h3 => ?_)))))
  ·obtain ⟨v34, hv34, h3⟩ := ob h3
   refine sk (sq (SC.blk (sr (sm rfl (sa rfl (sn (sr (sm rfl (sm rfl ?_)))))))))
   refine sm rfl (s1 (ial rfl rfl un23 ts3 (getI_some hv34).1 (map_get (getI_some hv34).2) rfl) (s1 (lod rfl (ld_rop ts3 ta3 rfl)) (s1 (bi rfl rfl q_i64_eql) (sn (cB h3 rfl (fun h3 => ?_) (fun h3 => ?_))))))
   ·have q := si h3; subst q; have q : _ = _ := hv3; subst q; have q := si h1; subst q; have q := si h0; subst q
    exact sr (sm rfl (sa rfl (sn (SC.ret (finR (Wk.refl _) (lresT rfl lresN) rfl)))))
   ·refine SC.skip ?_
    change SC _ _ _ _ _
    have q := si h3; subst q
    exact SC.region (s1 (bi rfl rfl q_i64_add) (sm rfl (SO.nil (lf (wq rfl)))))
  ·have q := si h3; subst q; have q : _ = _ := hv3; subst q; have q := si h1; subst q
   exact SC.exit (lf (wq rfl))
 ·intro _ h0
  have q := si h0; subst q
  exact sr (sa rfl (sn (SC.ret (finR (Wk.refl _) (lresT rfl lresN) rfl))))
noncomputable def slices_Contains_int_int (p0 : List Int) (p1 : Int) : Option Bool :=
 Option.bind (slices_Index_int_int p0 p1) fun r4 =>
 some (decide (r4 ≥ (0 : Int)))
theorem slices_Contains_int_int_ok (p0 : List Int) (p1 : Int) (r : Bool) (h0 : slices_Contains_int_int p0 p1 = some r) : CallAt Tryz.prog 48 [.d ((eL 1 eI) p0), .d (eI p1)] [] (.d (eB r)) [] := by
 unfold slices_Contains_int_int at h0
 refine fn0 [0, 1] Tryz.func48 rfl rfl rfl rfl rfl ?_
 obtain ⟨r4, hq5, h0⟩ := ob h0; have q := si h0; subst q
 refine sr (sa rfl (sn (sr (sm rfl (sm rfl (c0 (slices_Index_int_int_ok p0 p1 _ hq5) wf rfl rfl rfl cb80 rfl (fun _ => rfl) (fun _ => rfl) (s1 (bi rfl rfl q_i64_geq) (sa rfl (sn ?_)))))))))
 exact SC.ret (finR (Wk.refl _) (lresT rfl lresN) rfl)
noncomputable def fan_Add_1_1 (p0 : ApiPart) (p1 : Int) : Option Unit :=
 some ()
theorem fan_Add_1_1_ok (p0 : ApiPart) (p1 : Int) (r : Unit) (h0 : fan_Add_1_1 p0 p1 = some r) : CallAt Tryz.prog 50 [.d (eApiPart p0), .ref 0 0 0] [.box (.d (eI p1))] (.d (eB (p0.Col == p1))) [.box (.d (eI p1))] := by
 unfold fan_Add_1_1 at h0
 refine fn0 [0, 1] Tryz.func50 rfl rfl rfl rfl rfl ?_
 have q := si h0; subst q
 refine sr (s1 (bxo (k := 1) rfl rfl rfl) (sa rfl (sn (sr (s1 (far (k := 0) rfl fo79_0 ts3 rfl) (s1 (lod rfl (ld_box ts3 ta3 rfl rfl)) (s1 (lod rfl (ld_box ts3 ta3 rfl rfl)) (s1 (bi rfl rfl q_i64_eql) (sa rfl ?_)))))))))
 exact sn (SC.ret (finR (wc (e' := [(3, .d (eB (p0.Col == p1)))]) [0] [0] (by kernel_rfl) rfl (by kernel_rfl)) (lresT rfl lresN) rfl))
noncomputable def slices_IndexFunc_api_Part_api_Part (p0 : List ApiPart) (p1 : Int) : Option Int :=
 bindE (Y := Unit) (E := Int)
 (Option.bind (α := Unit ⊕ Int)
 (loop (Y := Int) (W := Unit ⊕ Int) (fun y39 =>
 bif (decide (y39 < (p0.length : Int))) then
 Option.bind (getI p0 y39) fun v45 =>
 Option.bind (fan_Add_1_1 v45 p1) fun _ =>
 bif (v45.Col == p1) then
 some (Sum.inr (Sum.inr y39))
 else
 some (Sum.inl (w64 (y39 + (1 : Int))))
 else
 some (Sum.inr (Sum.inl ()))) (0 : Int))
 (Sum.elim (fun e => some (Sum.inl e)) (fun e => some (Sum.inr e))))
 (fun _ =>
 some (-1 : Int))
 (fun e => some e)
theorem slices_IndexFunc_api_Part_api_Part_ok (p0 : List ApiPart) (p1 : Int) (r : Int) (h0 : slices_IndexFunc_api_Part_api_Part p0 p1 = some r) : CallAt Tryz.prog 81 [.d ((eL 2 eApiPart) p0), .fn (.func 50) [] [.ref 0 0 0]] [.box (.d (eI p1))] (.d (eI r)) [.box (.d (eI p1))] := by
 unfold slices_IndexFunc_api_Part_api_Part at h0
 refine fn0 [0, 1] Tryz.func81 rfl rfl rfl rfl rfl ?_
 refine sr (sa rfl (sn (SC.seqB h0 (fun y => ⟨mk 19 [], [.box (.d (eI p1))]⟩) ?_ ?_)))
 ·intro u1_36 h1 h0
  obtain ⟨u2_44, h2, h1⟩ := ob h1
  refine sr (sm rfl (s1 (len rfl rfl rfl (len_lst un80)) (sm rfl (sn (SC.blk (SC.loopB h2 (fun y => ⟨mk 19 [(0, .d ((eL 2 eApiPart) p0)), (1, .fn (.func 50) [] [.ref 0 0 0]), (7, .d (eI (p0.length : Int))), (8, .d (eI y))], [.box (.d (eI p1))]⟩) (wq rfl) ?_))))))
  intro n47
  rintro y39 w2_43 h3 hv3
  refine sr (s1 (bi rfl rfl q_i64_lss) (sn (sq (cB h3 rfl (fun h3 => ?_) (fun h3 => ?_)))))
  ·obtain ⟨v45, hv45, h3⟩ := ob h3; obtain ⟨_, hq46, h3⟩ := ob h3
   refine sk (sq (SC.blk (sr (sm rfl (sa rfl (sn (sr (sm rfl (sm rfl ?_)))))))))
   refine sm rfl (s1 (ial rfl rfl un80 ts79 (getI_some hv45).1 (map_get (getI_some hv45).2) rfl) (s1 (lod (v := .d (eApiPart v45)) rfl (ld_rop ts79 ta79 rfl)) (cq [0] [] (fan_Add_1_1_ok v45 p1 _ hq46) wf rfl rfl rfl cb50 rfl rfl rfl rfl rfl rfl rfl rfl (sn (cB h3 rfl (fun h3 => ?_) (fun h3 => ?_))))))
   ·have q := si h3; subst q; have q : _ = _ := hv3; subst q; have q := si h1; subst q; have q := si h0; subst q
    exact sr (sm rfl (sa rfl (sn (SC.ret (finR (Wk.refl _) (lresT rfl lresN) rfl)))))
   ·refine SC.skip ?_
    change SC _ _ _ _ _
    have q := si h3; subst q
    exact SC.region (s1 (bi rfl rfl q_i64_add) (sm rfl (SO.nil (lf (wq rfl)))))
  ·have q := si h3; subst q; have q : _ = _ := hv3; subst q; have q := si h1; subst q
   exact SC.exit (lf (wq rfl))
 ·intro _ h0
  have q := si h0; subst q
  exact sr (sa rfl (sn (SC.ret (finR (Wk.refl _) (lresT rfl lresN) rfl))))
noncomputable def slices_ContainsFunc_api_Part_api_Part (p0 : List ApiPart) (p1 : Int) : Option Bool :=
 Option.bind (slices_IndexFunc_api_Part_api_Part p0 p1) fun r4 =>
 some (decide (r4 ≥ (0 : Int)))
theorem slices_ContainsFunc_api_Part_api_Part_ok (p0 : List ApiPart) (p1 : Int) (r : Bool) (h0 : slices_ContainsFunc_api_Part_api_Part p0 p1 = some r) : CallAt Tryz.prog 49 [.d ((eL 2 eApiPart) p0), .fn (.func 50) [] [.ref 0 0 0]] [.box (.d (eI p1))] (.d (eB r)) [.box (.d (eI p1))] := by
 unfold slices_ContainsFunc_api_Part_api_Part at h0
 refine fn0 [0, 1] Tryz.func49 rfl rfl rfl rfl rfl ?_
 obtain ⟨r4, hq5, h0⟩ := ob h0; have q := si h0; subst q
 refine sr (sa rfl (sn (sr (sm rfl (sm rfl (cq [0] [] (slices_IndexFunc_api_Part_api_Part_ok p0 p1 _ hq5) wf rfl rfl rfl cb81 rfl rfl rfl rfl rfl rfl rfl rfl (s1 (bi rfl rfl q_i64_geq) (sa rfl (sn ?_)))))))))
 exact SC.ret (finR (Wk.refl _) (lresT rfl lresN) rfl)
noncomputable def fan_Add_1 (p0 : ApiIndex) (p1 : Int) : Option Bool :=
 Option.bind (α := Bool)
 (Option.bind (slices_Contains_int_int p0.Extra p1) fun r18 =>
 bif r18 then
 some true
 else
 Option.bind (slices_ContainsFunc_api_Part_api_Part p0.Parts p1) fun r20 =>
 some r20)
 fun y16 =>
 some y16
theorem fan_Add_1_ok (p0 : ApiIndex) (p1 : Int) (r : Bool) (h0 : fan_Add_1 p0 p1 = some r) : CallAt Tryz.prog 47 [.d (eApiIndex p0), .ref 0 0 0] [.box (.d (eI p1))] (.d (eB r)) [.box (.d (eI p1))] := by
 unfold fan_Add_1 at h0
 refine fn0 [0, 1] Tryz.func47 rfl rfl rfl rfl rfl ?_
 refine sr (s1 (bxo (k := 1) rfl rfl rfl) (sa rfl (sn (SC.seqP h0 (fun y => ⟨mk 14 [(3, .d (eB y))], [.box (.d (eI p1))]⟩) ?_ ?_))))
 ·intro u1_17 h1
  obtain ⟨r18, hq19, h1⟩ := ob h1
  refine SC.region (s1 (far (k := 2) rfl fo82_2 ts23 rfl) (s1 (lod rfl (ld_box ts23 ta23 rfl rfl)) (s1 (lod rfl (ld_box ts3 ta3 rfl rfl)) (c0 (slices_Contains_int_int_ok p0.Extra p1 _ hq19) wf rfl rfl rfl cb48 rfl (fun _ => rfl) (fun _ => rfl) (sm rfl (sp h1 (fun h1 => ?_) (fun h1 => ?_)))))))
  ·have q := si h1; subst q
   exact kw rfl (kw rfl (kw rfl (kw rfl (s1 (pkt rfl rfl) (sa rfl (SO.nil ((wc [0] [0] (by kernel_rfl) rfl (by kernel_rfl)))))))))
  ·obtain ⟨r20, hq21, h1⟩ := ob h1; have q := si h1; subst q
   exact gw rfl (far (k := 1) rfl fo82_1 ts80 rfl) (gw rfl (lod rfl (ld_box ts80 ta80 rfl rfl)) (gw rfl (mkf rfl rfl) (cq [0] [] (slices_ContainsFunc_api_Part_api_Part_ok p0.Parts p1 _ hq21) (ww rfl) rfl rfl rfl cb49 rfl rfl rfl rfl rfl rfl rfl rfl (s1 (pkf rfl rfl) (sa rfl (SO.nil ((wc [0] [0] (by kernel_rfl) rfl (by kernel_rfl)))))))))
 ·rintro y16 h0
  have q := si h0; subst q
  exact SC.ret (finR (Wk.refl _) (lresT rfl lresN) rfl)
noncomputable def slices_IndexFunc_api_Index_api_Index (p0 : List ApiIndex) (p1 : Int) : Option Int :=
 bindE (Y := Unit) (E := Int)
 (Option.bind (α := Unit ⊕ Int)
 (loop (Y := Int) (W := Unit ⊕ Int) (fun y49 =>
 bif (decide (y49 < (p0.length : Int))) then
 Option.bind (getI p0 y49) fun v56 =>
 Option.bind (fan_Add_1 v56 p1) fun r57 =>
 bif r57 then
 some (Sum.inr (Sum.inr y49))
 else
 some (Sum.inl (w64 (y49 + (1 : Int))))
 else
 some (Sum.inr (Sum.inl ()))) (0 : Int))
 (Sum.elim (fun e => some (Sum.inl e)) (fun e => some (Sum.inr e))))
 (fun _ =>
 some (-1 : Int))
 (fun e => some e)
theorem slices_IndexFunc_api_Index_api_Index_ok (p0 : List ApiIndex) (p1 : Int) (r : Int) (h0 : slices_IndexFunc_api_Index_api_Index p0 p1 = some r) : CallAt Tryz.prog 79 [.d ((eL 6 eApiIndex) p0), .fn (.func 47) [] [.ref 0 0 0]] [.box (.d (eI p1))] (.d (eI r)) [.box (.d (eI p1))] := by
 unfold slices_IndexFunc_api_Index_api_Index at h0
 refine fn0 [0, 1] Tryz.func79 rfl rfl rfl rfl rfl ?_
 refine sr (sa rfl (sn (SC.seqB h0 (fun y => ⟨mk 19 [], [.box (.d (eI p1))]⟩) ?_ ?_)))
 ·intro u1_45 h1 h0
  obtain ⟨u2_55, h2, h1⟩ := ob h1
  refine sr (sm rfl (s1 (len rfl rfl rfl (len_lst un24)) (sm rfl (sn (SC.blk (SC.loopB h2 (fun y => ⟨mk 19 [(0, .d ((eL 6 eApiIndex) p0)), (1, .fn (.func 47) [] [.ref 0 0 0]), (7, .d (eI (p0.length : Int))), (8, .d (eI y))], [.box (.d (eI p1))]⟩) (wq rfl) ?_))))))
  intro n59
  rintro y49 w2_54 h3 hv3
  refine sr (s1 (bi rfl rfl q_i64_lss) (sn (sq (cB h3 rfl (fun h3 => ?_) (fun h3 => ?_)))))
  ·obtain ⟨v56, hv56, h3⟩ := ob h3; obtain ⟨r57, hq58, h3⟩ := ob h3
   refine sk (sq (SC.blk (sr (sm rfl (sa rfl (sn (sr (sm rfl (sm rfl ?_)))))))))
   refine sm rfl (s1 (ial rfl rfl un24 ts82 (getI_some hv56).1 (map_get (getI_some hv56).2) rfl) (s1 (lod (v := .d (eApiIndex v56)) rfl (ld_rop ts82 ta82 rfl)) (cq [0] [] (fan_Add_1_ok v56 p1 _ hq58) wf rfl rfl rfl cb47 rfl rfl rfl rfl rfl rfl rfl rfl (sn (cB h3 rfl (fun h3 => ?_) (fun h3 => ?_))))))
   ·have q := si h3; subst q; have q : _ = _ := hv3; subst q; have q := si h1; subst q; have q := si h0; subst q
    exact sr (sm rfl (sa rfl (sn (SC.ret (finR (Wk.refl _) (lresT rfl lresN) rfl)))))
   ·refine SC.skip ?_
    change SC _ _ _ _ _
    have q := si h3; subst q
    exact SC.region (s1 (bi rfl rfl q_i64_add) (sm rfl (SO.nil (lf (wq rfl)))))
  ·have q := si h3; subst q; have q : _ = _ := hv3; subst q; have q := si h1; subst q
   exact SC.exit (lf (wq rfl))
 ·intro _ h0
  have q := si h0; subst q
  exact sr (sa rfl (sn (SC.ret (finR (Wk.refl _) (lresT rfl lresN) rfl))))
noncomputable def slices_ContainsFunc_api_Index_api_Index (p0 : List ApiIndex) (p1 : Int) : Option Bool :=
 Option.bind (slices_IndexFunc_api_Index_api_Index p0 p1) fun r4 =>
 some (decide (r4 ≥ (0 : Int)))
theorem slices_ContainsFunc_api_Index_api_Index_ok (p0 : List ApiIndex) (p1 : Int) (r : Bool) (h0 : slices_ContainsFunc_api_Index_api_Index p0 p1 = some r) : CallAt Tryz.prog 46 [.d ((eL 6 eApiIndex) p0), .fn (.func 47) [] [.ref 0 0 0]] [.box (.d (eI p1))] (.d (eB r)) [.box (.d (eI p1))] := by
 unfold slices_ContainsFunc_api_Index_api_Index at h0
 refine fn0 [0, 1] Tryz.func46 rfl rfl rfl rfl rfl ?_
 obtain ⟨r4, hq5, h0⟩ := ob h0; have q := si h0; subst q
 refine sr (sa rfl (sn (sr (sm rfl (sm rfl (cq [0] [] (slices_IndexFunc_api_Index_api_Index_ok p0 p1 _ hq5) wf rfl rfl rfl cb79 rfl rfl rfl rfl rfl rfl rfl rfl (s1 (bi rfl rfl q_i64_geq) (sa rfl (sn ?_)))))))))
 exact SC.ret (finR (Wk.refl _) (lresT rfl lresN) rfl)
noncomputable def pack_To (p0 : List UInt8) : Option Unit :=
 bif decide (p0.length * 1 ≤ room) then
 some ()
 else none
theorem pack_To_ok (p0 : List UInt8) (r : Unit) (h0 : pack_To p0 = some r) : CallAt Tryz.prog 91 [.d ((eL 1 eU8) p0)] [] (.ref 0 0 0) [.box (.agg [.slc 1 1 0 p0.length none, .d (eB false)]), .row 1 (List.map eU8 p0) true] := by
 unfold pack_To at h0
 refine fn0 [0] Tryz.func91 rfl rfl rfl rfl rfl ?_
 obtain ⟨hg2, h0⟩ := gd h0; have q := si h0; subst q
 refine sr (s1 (asg (v := .d .nilp) rfl) (sn (sr (sm rfl (s1 (app rfl rfl rfl rfl bc125 (aN (f := eU8) (k := 0) un125 ei5 el_lst hg2 rfl)) (s1 (bld (v := .agg [.slc 0 1 0 p0.length none, .d (eB false)]) rfl (by rfl)) (s1 (bxo (k := 1) rfl rfl rfl) (sa rfl (sn ?_)))))))))
 exact SC.ret (finR (wc (e' := [(2, .ref 0 0 0)]) [1, 0] [1] (by kernel_rfl) rfl (by kernel_rfl)) (lresT rfl lresN) rfl)
noncomputable def pack_In_take (p0 : Int) (p1 : List UInt8) (p2 : Bool) : Option (Nat × Nat × Nat × Bool) :=
 Option.bind (α := Bool)
 (bif p2 then
 some true
 else
 some (decide ((p1.length : Int) < p0)))
 fun y10 =>
 bif y10 then
 Option.bind (α := Unit)
 (some ())
 fun _ =>
 some (0, 0, p1.length, true)
 else
 bif decide (0 ≤ p0 ∧ p0 ≤ (p1.length : Int)) then
 bif decide (0 ≤ p0 ∧ p0 ≤ (p1.length : Int)) then
 some (p0.toNat, 0 + p0.toNat, p1.length - p0.toNat, p2)
 else none
 else none
theorem pack_In_take_ok (p0 : Int) (p1 : List UInt8) (p2 : Bool) (r : Nat × Nat × Nat × Bool) (h0 : pack_In_take p0 p1 p2 = some r) : CallAt Tryz.prog 128 [.ref 0 0 0, .d (eI p0)] [.box (.agg [.slc 1 1 0 p1.length none, .d (eB p2)]), .row 1 (List.map eU8 p1) true] (.slc 1 1 0 r.1 none) [.box (.agg [.slc 1 1 r.2.1 r.2.2.1 none, .d (eB r.2.2.2)]), .row 1 (List.map eU8 p1) true] := by
 unfold pack_In_take at h0
 refine fn0 [0, 1] Tryz.func128 rfl rfl rfl rfl rfl ?_
 refine sr (s1 (asg (v := .d .nils) rfl) (sn (sq (SC.seqP h0 (fun y => ⟨mk 44 [(0, .ref 0 0 0), (1, .d (eI p0)), (22, .d (eB y))], [.box (.agg [.slc 1 1 0 p1.length none, .d (eB p2)]), .row 1 (List.map eU8 p1) true]⟩) ?_ ?_))))
 ·intro u1_11 h1
  refine SC.region (sm rfl (s1 (bi (v := .d (eB false)) rfl rfl (fun _ _ => nil_eql un167)) (sm rfl (gw rfl (mv rfl) (gw rfl (nkr rfl) (gw rfl (far (k := 1) rfl fo188_1 ts4 rfl) (gw rfl (lod rfl (ld_box ts4 ta4 rfl rfl)) (s1 (pkf rfl rfl) (sm rfl ?_)))))))))
  refine sp h1 (fun h1 => ?_) (fun h1 => ?_)
  ·have q := si h1; subst q
   exact kw rfl (kw rfl (kw rfl (kw rfl (kw rfl (kw rfl (kw rfl (s1 (pkt rfl rfl) (SO.nil ((wq rfl))))))))))
  ·have q := si h1; subst q
   exact gw rfl (mv rfl) (gw rfl (nkr rfl) (gw rfl (far (k := 0) rfl fo188_0 ts125 rfl) (gw rfl (lod rfl (ld_box ts125 ta125 rfl rfl)) (gw rfl (len rfl rfl rfl (len_slc un125)) (gw rfl (mv rfl) (gw rfl (bi rfl rfl q_i64_lss) (s1 (pkf rfl rfl) (SO.nil ((wq rfl))))))))))
 ·rintro y10 h0
  refine cB h0 rfl (fun h0 => ?_) (fun h0 => ?_)
  ·refine SC.seqP h0 (fun y => ⟨mk 44 [], [.box (.agg [.slc 1 1 0 p1.length none, .d (eB true)]), .row 1 (List.map eU8 p1) true]⟩) ?_ ?_
   ·intro u1_12 h1
    have q := si h1; subst q
    refine sr (sm rfl (s1 (bi (v := .d (eB true)) rfl rfl (fun _ _ => nil_neq un167)) (sn (cT rfl (SC.region (sm rfl (s1 (nkr rfl) (s1 (far (k := 1) rfl fo188_1 ts4 rfl) (s0 (sto (b := .d (eB true)) rfl rfl (sB (d' := .agg [.slc 1 1 0 p1.length none, .d (eB true)]) ts4 rfl rfl rfl rfl rfl rfl rfl)) ?_)))))))))
    exact SO.nil ((wq rfl))
   ·intro _ h0
    have q := si h0; subst q
    exact sr (s1 (asg (v := .d .nils) rfl) (sn (SC.ret (finR (Wk.trans (Wk.env (e' := [(4, .slc 1 1 0 0 none)]) (EW.cons (AW.slcn _ _ _) EW.nil)) (wq (e' := [(4, .slc 1 1 0 0 none)]) rfl)) (lresT rfl lresN) rfl))))
  ·obtain ⟨hg13, h0⟩ := gd h0; obtain ⟨hg14, h0⟩ := gd h0; have q := si h0; subst q
   refine sk (sr (sm rfl (s1 (nkr rfl) (s1 (far (k := 0) rfl fo188_0 ts125 rfl) (s1 (lod rfl (ld_box ts125 ta125 rfl rfl)) (sm rfl (s1 (slo rfl rfl rfl rfl (sl_slc_hi un125 ts5 hg13)) (sa rfl (sn ?_)))))))))
   refine sr (sm rfl (sm rfl (s1 (nkr rfl) (s1 (far (k := 0) rfl fo188_0 ts125 rfl) (s1 (lod rfl (ld_box ts125 ta125 rfl rfl)) (sm rfl (s1 (slo rfl rfl rfl rfl (sl_slc_lo un125 ts5 hg14)) (s1 (nkr rfl) (s1 (far (k := 0) rfl fo188_0 ts125 rfl) ?_)))))))))
   exact s0 (sto rfl rfl (sB (d' := .agg [.slc 1 1 (0 + p0.toNat) (p1.length - p0.toNat) none, .d (eB p2)]) ts125 rfl rfl rfl rfl rfl rfl rfl)) (sn (sr (sm rfl (sa rfl (sn (SC.ret (finR (Wk.refl _) (lresT rfl lresN) rfl)))))))
noncomputable def pack_In_number (p0 : Int) (p1 : List UInt8) (p2 : Bool) : Option (UInt64 × Nat × Nat × Bool) :=
 Option.bind (α := UInt64 × Nat × Nat × Bool)
 (Option.bind (pack_In_take p0 p1 p2) fun (r60, r61, r62, r63) =>
 Option.bind (α := UInt64 × Nat × Nat × Bool)
 (loop (Y := UInt64 × Int) (W := UInt64 × Nat × Nat × Bool) (fun (y66, y67) =>
 bif (decide (y67 < (r60 : Int))) then
 Option.bind (getS p1 0 r60 y67) fun v73 =>
 some (Sum.inl (((shl64 y66 8) ||| (v73.toUInt64)), (w64 (y67 + (1 : Int)))))
 else
 some (Sum.inr (y66, r61, r62, r63))) ((0 : UInt64), (0 : Int)))
 (fun e => some e))
 fun (y55, y56, y57, y58) =>
 some (y55, y56, y57, y58)
theorem pack_In_number_ok (p0 : Int) (p1 : List UInt8) (p2 : Bool) (r : UInt64 × Nat × Nat × Bool) (h0 : pack_In_number p0 p1 p2 = some r) : CallAt Tryz.prog 115 [.ref 0 0 0, .d (eI p0)] [.box (.agg [.slc 1 1 0 p1.length none, .d (eB p2)]), .row 1 (List.map eU8 p1) true] (.d (eU64 r.1)) [.box (.agg [.slc 1 1 r.2.1 r.2.2.1 none, .d (eB r.2.2.2)]), .row 1 (List.map eU8 p1) true] := by
 unfold pack_In_number at h0
 refine fn0 [0, 1] Tryz.func115 rfl rfl rfl rfl rfl ?_
 refine sr (s1 (asg (v := .d (eU64 (0 : UInt64))) rfl) (sn (sr (s1 (asg (v := .d (eU64 (0 : UInt64))) rfl) (sn (SC.seqP h0 (fun y => ⟨mk 23 [(5, .d (eU64 y.1))], [.box (.agg [.slc 1 1 y.2.1 y.2.2.1 none, .d (eB y.2.2.2)]), .row 1 (List.map eU8 p1) true]⟩) ?_ ?_))))))
 ·intro u1_59 h1
  obtain ⟨⟨r60, r61, r62, r63⟩, hq64, h1⟩ := ob h1; obtain ⟨u2_72, h2, h1⟩ := ob h1
  refine sr (sm rfl (sm rfl (cq [0, 1] [] (pack_In_take_ok p0 p1 p2 _ hq64) wf rfl rfl rfl cb128 rfl rfl rfl rfl rfl rfl rfl rfl (s1 (len rfl rfl rfl (len_slc un125)) (sm rfl (sn (SC.blk (SC.loopB h2 (fun y => ⟨mk 23 [(5, .d (eU64 y.1)), (10, .slc 1 1 0 r60 none), (11, .d (eI (r60 : Int))), (12, .d (eI y.2))], [.box (.agg [.slc 1 1 r61 r62 none, .d (eB r63)]), .row 1 (List.map eU8 p1) true]⟩) (wq rfl) ?_))))))))
  intro n74
  rintro ⟨y66, y67⟩ w2_71 h3 hv3
  refine sr (s1 (bi rfl rfl q_i64_lss) (sn (sq (cB h3 rfl (fun h3 => ?_) (fun h3 => ?_)))))
  ·obtain ⟨v73, hv73, h3⟩ := ob h3
   refine sk (sq (SC.blk (sr (s1 (iaz rfl rfl un125 ts5 (getS_some hv73).1) (s1 (lod rfl (ld_row ts5 ta5 rfl (map_get (by have q := (getS_some hv73).2; simpa using q)) rfl)) (sa rfl (sn (SC.region (sm rfl ?_)))))))))
   refine s1 (bi (v := .d (eU64 (shl64 y66 8))) rfl rfl (fun X Y => b_u64_shl _ X Y y66 _ (by decide))) (sm rfl (s1 (cvo rfl (cv_u8_u64 un5 un54 v73)) (s1 (bi rfl rfl q_u64_or) (sa rfl (SO.nil ?_)))))
   change SC _ _ _ _ _
   have q := si h3; subst q
   exact SC.region (s1 (bi rfl rfl q_i64_add) (sm rfl (SO.nil (lf (wq rfl)))))
  ·have q := si h3; subst q; have q : _ = _ := hv3; subst q; have q := si h1; subst q
   exact SC.exit ((wq rfl))
 ·rintro ⟨y55, y56, y57, y58⟩ h0
  have q := si h0; subst q
  exact sr (sm rfl (sa rfl (sn (SC.ret (finR (Wk.refl _) (lresT rfl lresN) rfl)))))
noncomputable def pack_In_U8_1 (p0 : List UInt8) (p1 : Bool) : Option (UInt8 × Nat × Nat × Bool) :=
 Option.bind (pack_In_number (1 : Int) p0 p1) fun (r10, r11, r12, r13) =>
 some ((r10.toUInt8), r11, r12, r13)
theorem pack_In_U8_1_ok (p0 : List UInt8) (p1 : Bool) (r : UInt8 × Nat × Nat × Bool) (h0 : pack_In_U8_1 p0 p1 = some r) : CallAt Tryz.prog 92 [.ref 0 0 0] [.box (.agg [.slc 1 1 0 p0.length none, .d (eB p1)]), .row 1 (List.map eU8 p0) true] (.d (eU8 r.1)) [.box (.agg [.slc 1 1 r.2.1 r.2.2.1 none, .d (eB r.2.2.2)]), .row 1 (List.map eU8 p0) true] := by
 unfold pack_In_U8_1 at h0
 refine fn0 [0] Tryz.func92 rfl rfl rfl rfl rfl ?_
 obtain ⟨⟨r10, r11, r12, r13⟩, hq14, h0⟩ := ob h0; have q := si h0; subst q
 refine sr (s1 (asg (v := .d (eU8 (0 : UInt8))) rfl) (sn (sr (sm rfl (cq [0, 1] [] (pack_In_number_ok (1 : Int) p0 p1 _ hq14) wf rfl rfl rfl cb115 rfl rfl rfl rfl rfl rfl rfl rfl (s1 (cvo rfl (cv_u64_u8 un54 un5 r10)) (sa rfl (sn (SC.ret ?_)))))))))
 exact finR (Wk.refl _) (lresT rfl lresN) rfl
noncomputable def pack_In_Left (p0 : List UInt8) (p1 : Nat) (p2 : Nat) (p3 : Bool) : Option Unit :=
 some ()
theorem pack_In_Left_ok (p0 : List UInt8) (p1 : Nat) (p2 : Nat) (p3 : Bool) (r : Unit) (h0 : pack_In_Left p0 p1 p2 p3 = some r) : CallAt Tryz.prog 93 [.ref 0 0 0] [.box (.agg [.slc 1 1 p1 p2 none, .d (eB p3)]), .row 1 (List.map eU8 p0) true] (.d (eI (p2 : Int))) [.box (.agg [.slc 1 1 p1 p2 none, .d (eB p3)]), .row 1 (List.map eU8 p0) true] := by
 unfold pack_In_Left at h0
 refine fn0 [0] Tryz.func93 rfl rfl rfl rfl rfl ?_
 have q := si h0; subst q
 refine sr (sa rfl (sn (sq (sr (sm rfl (s1 (bi (v := .d (eB false)) rfl rfl (fun _ _ => nil_eql un167)) (sn (cF rfl (sk ?_)))))))))
 exact sr (sm rfl (s1 (nkr rfl) (s1 (far (k := 0) rfl fo188_0 ts125 rfl) (s1 (lod rfl (ld_box ts125 ta125 rfl rfl)) (s1 (len rfl rfl rfl (len_slc un125)) (sa rfl (sn (SC.ret (finR (Wk.refl _) (lresT rfl lresN) rfl)))))))))
noncomputable def pack_In_take_1 (p0 : Int) (p1 : List UInt8) (p2 : Nat) (p3 : Nat) (p4 : Bool) : Option (Nat × Nat × Nat × Nat × Bool) :=
 Option.bind (α := Bool)
 (bif p4 then
 some true
 else
 some (decide ((p3 : Int) < p0)))
 fun y11 =>
 bif y11 then
 Option.bind (α := Unit)
 (some ())
 fun _ =>
 some (0, 0, p2, p3, true)
 else
 bif decide (0 ≤ p0 ∧ p0 ≤ (p3 : Int)) then
 bif decide (0 ≤ p0 ∧ p0 ≤ (p3 : Int)) then
 some (p2, p0.toNat, p2 + p0.toNat, p3 - p0.toNat, p4)
 else none
 else none
theorem pack_In_take_1_ok (p0 : Int) (p1 : List UInt8) (p2 : Nat) (p3 : Nat) (p4 : Bool) (r : Nat × Nat × Nat × Nat × Bool) (h0 : pack_In_take_1 p0 p1 p2 p3 p4 = some r) : CallAt Tryz.prog 128 [.ref 0 0 0, .d (eI p0)] [.box (.agg [.slc 1 1 p2 p3 none, .d (eB p4)]), .row 1 (List.map eU8 p1) true] (.slc 1 1 r.1 r.2.1 none) [.box (.agg [.slc 1 1 r.2.2.1 r.2.2.2.1 none, .d (eB r.2.2.2.2)]), .row 1 (List.map eU8 p1) true] := by
 unfold pack_In_take_1 at h0
 refine fn0 [0, 1] Tryz.func128 rfl rfl rfl rfl rfl ?_
 refine sr (s1 (asg (v := .d .nils) rfl) (sn (sq (SC.seqP h0 (fun y => ⟨mk 44 [(0, .ref 0 0 0), (1, .d (eI p0)), (22, .d (eB y))], [.box (.agg [.slc 1 1 p2 p3 none, .d (eB p4)]), .row 1 (List.map eU8 p1) true]⟩) ?_ ?_))))
 ·intro u1_12 h1
  refine SC.region (sm rfl (s1 (bi (v := .d (eB false)) rfl rfl (fun _ _ => nil_eql un167)) (sm rfl (gw rfl (mv rfl) (gw rfl (nkr rfl) (gw rfl (far (k := 1) rfl fo188_1 ts4 rfl) (gw rfl (lod rfl (ld_box ts4 ta4 rfl rfl)) (s1 (pkf rfl rfl) (sm rfl ?_)))))))))
  refine sp h1 (fun h1 => ?_) (fun h1 => ?_)
  ·have q := si h1; subst q
   exact kw rfl (kw rfl (kw rfl (kw rfl (kw rfl (kw rfl (kw rfl (s1 (pkt rfl rfl) (SO.nil ((wq rfl))))))))))
  ·have q := si h1; subst q
   exact gw rfl (mv rfl) (gw rfl (nkr rfl) (gw rfl (far (k := 0) rfl fo188_0 ts125 rfl) (gw rfl (lod rfl (ld_box ts125 ta125 rfl rfl)) (gw rfl (len rfl rfl rfl (len_slc un125)) (gw rfl (mv rfl) (gw rfl (bi rfl rfl q_i64_lss) (s1 (pkf rfl rfl) (SO.nil ((wq rfl))))))))))
 ·rintro y11 h0
  refine cB h0 rfl (fun h0 => ?_) (fun h0 => ?_)
  ·refine SC.seqP h0 (fun y => ⟨mk 44 [], [.box (.agg [.slc 1 1 p2 p3 none, .d (eB true)]), .row 1 (List.map eU8 p1) true]⟩) ?_ ?_
   ·intro u1_13 h1
    have q := si h1; subst q
    refine sr (sm rfl (s1 (bi (v := .d (eB true)) rfl rfl (fun _ _ => nil_neq un167)) (sn (cT rfl (SC.region (sm rfl (s1 (nkr rfl) (s1 (far (k := 1) rfl fo188_1 ts4 rfl) (s0 (sto (b := .d (eB true)) rfl rfl (sB (d' := .agg [.slc 1 1 p2 p3 none, .d (eB true)]) ts4 rfl rfl rfl rfl rfl rfl rfl)) ?_)))))))))
    exact SO.nil ((wq rfl))
   ·intro _ h0
    have q := si h0; subst q
    exact sr (s1 (asg (v := .d .nils) rfl) (sn (SC.ret (finR (Wk.trans (Wk.env (e' := [(4, .slc 1 1 0 0 none)]) (EW.cons (AW.slcn _ _ _) EW.nil)) (wq (e' := [(4, .slc 1 1 0 0 none)]) rfl)) (lresT rfl lresN) rfl))))
  ·obtain ⟨hg14, h0⟩ := gd h0; obtain ⟨hg15, h0⟩ := gd h0; have q := si h0; subst q
   refine sk (sr (sm rfl (s1 (nkr rfl) (s1 (far (k := 0) rfl fo188_0 ts125 rfl) (s1 (lod rfl (ld_box ts125 ta125 rfl rfl)) (sm rfl (s1 (slo rfl rfl rfl rfl (sl_slc_hi un125 ts5 hg14)) (sa rfl (sn ?_)))))))))
   refine sr (sm rfl (sm rfl (s1 (nkr rfl) (s1 (far (k := 0) rfl fo188_0 ts125 rfl) (s1 (lod rfl (ld_box ts125 ta125 rfl rfl)) (sm rfl (s1 (slo rfl rfl rfl rfl (sl_slc_lo un125 ts5 hg15)) (s1 (nkr rfl) (s1 (far (k := 0) rfl fo188_0 ts125 rfl) ?_)))))))))
   exact s0 (sto rfl rfl (sB (d' := .agg [.slc 1 1 (p2 + p0.toNat) (p3 - p0.toNat) none, .d (eB p4)]) ts125 rfl rfl rfl rfl rfl rfl rfl)) (sn (sr (sm rfl (sa rfl (sn (SC.ret (finR (Wk.refl _) (lresT rfl lresN) rfl)))))))
noncomputable def pack_In_number_1 (p0 : Int) (p1 : List UInt8) (p2 : Nat) (p3 : Nat) (p4 : Bool) : Option (UInt64 × Nat × Nat × Bool) :=
 Option.bind (α := UInt64 × Nat × Nat × Bool)
 (Option.bind (pack_In_take_1 p0 p1 p2 p3 p4) fun (r63, r64, r65, r66, r67) =>
 Option.bind (α := UInt64 × Nat × Nat × Bool)
 (loop (Y := UInt64 × Int) (W := UInt64 × Nat × Nat × Bool) (fun (y70, y71) =>
 bif (decide (y71 < (r64 : Int))) then
 Option.bind (getS p1 r63 r64 y71) fun v77 =>
 some (Sum.inl (((shl64 y70 8) ||| (v77.toUInt64)), (w64 (y71 + (1 : Int)))))
 else
 some (Sum.inr (y70, r65, r66, r67))) ((0 : UInt64), (0 : Int)))
 (fun e => some e))
 fun (y58, y59, y60, y61) =>
 some (y58, y59, y60, y61)
theorem pack_In_number_1_ok (p0 : Int) (p1 : List UInt8) (p2 : Nat) (p3 : Nat) (p4 : Bool) (r : UInt64 × Nat × Nat × Bool) (h0 : pack_In_number_1 p0 p1 p2 p3 p4 = some r) : CallAt Tryz.prog 115 [.ref 0 0 0, .d (eI p0)] [.box (.agg [.slc 1 1 p2 p3 none, .d (eB p4)]), .row 1 (List.map eU8 p1) true] (.d (eU64 r.1)) [.box (.agg [.slc 1 1 r.2.1 r.2.2.1 none, .d (eB r.2.2.2)]), .row 1 (List.map eU8 p1) true] := by
 unfold pack_In_number_1 at h0
 refine fn0 [0, 1] Tryz.func115 rfl rfl rfl rfl rfl ?_
 refine sr (s1 (asg (v := .d (eU64 (0 : UInt64))) rfl) (sn (sr (s1 (asg (v := .d (eU64 (0 : UInt64))) rfl) (sn (SC.seqP h0 (fun y => ⟨mk 23 [(5, .d (eU64 y.1))], [.box (.agg [.slc 1 1 y.2.1 y.2.2.1 none, .d (eB y.2.2.2)]), .row 1 (List.map eU8 p1) true]⟩) ?_ ?_))))))
 ·intro u1_62 h1
  obtain ⟨⟨r63, r64, r65, r66, r67⟩, hq68, h1⟩ := ob h1; obtain ⟨u2_76, h2, h1⟩ := ob h1
  refine sr (sm rfl (sm rfl (cq [0, 1] [] (pack_In_take_1_ok p0 p1 p2 p3 p4 _ hq68) wf rfl rfl rfl cb128 rfl rfl rfl rfl rfl rfl rfl rfl (s1 (len rfl rfl rfl (len_slc un125)) (sm rfl (sn (SC.blk (SC.loopB h2 (fun y => ⟨mk 23 [(5, .d (eU64 y.1)), (10, .slc 1 1 r63 r64 none), (11, .d (eI (r64 : Int))), (12, .d (eI y.2))], [.box (.agg [.slc 1 1 r65 r66 none, .d (eB r67)]), .row 1 (List.map eU8 p1) true]⟩) (wq rfl) ?_))))))))
  intro n78
  rintro ⟨y70, y71⟩ w2_75 h3 hv3
  refine sr (s1 (bi rfl rfl q_i64_lss) (sn (sq (cB h3 rfl (fun h3 => ?_) (fun h3 => ?_)))))
  ·obtain ⟨v77, hv77, h3⟩ := ob h3
   refine sk (sq (SC.blk (sr (s1 (ias rfl rfl un125 ts5 (getS_some hv77).1) (s1 (lod rfl (ld_row ts5 ta5 rfl (map_get (getS_some hv77).2) rfl)) (sa rfl (sn (SC.region (sm rfl ?_)))))))))
   refine s1 (bi (v := .d (eU64 (shl64 y70 8))) rfl rfl (fun X Y => b_u64_shl _ X Y y70 _ (by decide))) (sm rfl (s1 (cvo rfl (cv_u8_u64 un5 un54 v77)) (s1 (bi rfl rfl q_u64_or) (sa rfl (SO.nil ?_)))))
   change SC _ _ _ _ _
   have q := si h3; subst q
   exact SC.region (s1 (bi rfl rfl q_i64_add) (sm rfl (SO.nil (lf (wq rfl)))))
  ·have q := si h3; subst q; have q : _ = _ := hv3; subst q; have q := si h1; subst q
   exact SC.exit ((wq rfl))
 ·rintro ⟨y58, y59, y60, y61⟩ h0
  have q := si h0; subst q
  exact sr (sm rfl (sa rfl (sn (SC.ret (finR (Wk.refl _) (lresT rfl lresN) rfl)))))
noncomputable def pack_In_Flag_1 (p0 : List UInt8) (p1 : Nat) (p2 : Nat) (p3 : Bool) : Option (Bool × Nat × Nat × Bool) :=
 Option.bind (α := Bool)
 (bif (decide ((p2 : Int) > (0 : Int))) then
 Option.bind (getS p0 p1 p2 (0 : Int)) fun v18 =>
 some (decide ((1 : UInt8) < v18))
 else
 some false)
 fun y16 =>
 bif y16 then
 Option.bind (α := Unit)
 (some ())
 fun _ =>
 some (false, p1, p2, true)
 else
 Option.bind (pack_In_number_1 (1 : Int) p0 p1 p2 p3) fun (r20, r21, r22, r23) =>
 some ((r20 == (1 : UInt64)), r21, r22, r23)
theorem pack_In_Flag_1_ok (p0 : List UInt8) (p1 : Nat) (p2 : Nat) (p3 : Bool) (r : Bool × Nat × Nat × Bool) (h0 : pack_In_Flag_1 p0 p1 p2 p3 = some r) : CallAt Tryz.prog 116 [.ref 0 0 0] [.box (.agg [.slc 1 1 p1 p2 none, .d (eB p3)]), .row 1 (List.map eU8 p0) true] (.d (eB r.1)) [.box (.agg [.slc 1 1 r.2.1 r.2.2.1 none, .d (eB r.2.2.2)]), .row 1 (List.map eU8 p0) true] := by
 unfold pack_In_Flag_1 at h0
 refine fn0 [0] Tryz.func116 rfl rfl rfl rfl rfl ?_
 refine sr (sa rfl (sn (sq (SC.seqP h0 (fun y => ⟨mk 30 [(0, .ref 0 0 0), (21, .d (eB y))], [.box (.agg [.slc 1 1 p1 p2 none, .d (eB p3)]), .row 1 (List.map eU8 p0) true]⟩) ?_ ?_))))
 ·intro u1_17 h1
  refine SC.region (sm rfl (s1 (bi (v := .d (eB false)) rfl rfl (fun _ _ => nil_eql un167)) (sm rfl (gw rfl (mv rfl) (gw rfl (nkr rfl) (gw rfl (far (k := 0) rfl fo188_0 ts125 rfl) (gw rfl (lod rfl (ld_box ts125 ta125 rfl rfl)) (gw rfl (len rfl rfl rfl (len_slc un125)) (gw rfl (bi rfl rfl q_i64_gtr) ?_)))))))))
  refine gw rfl (mv rfl) (sp h1 (fun h1 => ?_) (fun h1 => ?_))
  ·obtain ⟨v18, hv18, h1⟩ := ob h1; have q := si h1; subst q
   refine gw rfl (mv rfl) (gw rfl (nkr rfl) (gw rfl (far (k := 0) rfl fo188_0 ts125 rfl) (gw rfl (lod rfl (ld_box ts125 ta125 rfl rfl)) (gw rfl (ias rfl rfl un125 ts5 (getS_some hv18).1) (gw rfl (lod rfl (ld_row ts5 ta5 rfl (map_get (getS_some hv18).2) rfl)) (gw rfl (bi rfl rfl (q_u8_gtr (b := (1 : UInt8)))) (gw rfl (pkt rfl rfl) (s1 (pkf rfl rfl) (SO.nil ?_)))))))))
   exact (wq rfl)
  ·have q := si h1; subst q
   refine kw rfl (kw rfl (kw rfl (kw rfl (kw rfl (kw rfl (kw rfl (gw rfl (pkf rfl rfl) (s1 (pkf rfl rfl) (SO.nil ?_)))))))))
   exact (wq rfl)
 ·rintro y16 h0
  refine cB h0 rfl (fun h0 => ?_) (fun h0 => ?_)
  ·refine SC.seqP h0 (fun y => ⟨mk 30 [], [.box (.agg [.slc 1 1 p1 p2 none, .d (eB true)]), .row 1 (List.map eU8 p0) true]⟩) ?_ ?_
   ·intro u1_19 h1
    have q := si h1; subst q
    refine sr (sm rfl (s1 (bi (v := .d (eB true)) rfl rfl (fun _ _ => nil_neq un167)) (sn (cT rfl (SC.region (sm rfl (s1 (nkr rfl) (s1 (far (k := 1) rfl fo188_1 ts4 rfl) (s0 (sto (b := .d (eB true)) rfl rfl (sB (d' := .agg [.slc 1 1 p1 p2 none, .d (eB true)]) ts4 rfl rfl rfl rfl rfl rfl rfl)) ?_)))))))))
    exact SO.nil ((wq rfl))
   ·intro _ h0
    have q := si h0; subst q
    exact sr (sa rfl (sn (SC.ret (finR (Wk.refl _) (lresT rfl lresN) rfl))))
  ·obtain ⟨⟨r20, r21, r22, r23⟩, hq24, h0⟩ := ob h0; have q := si h0; subst q
   exact sk (sr (sm rfl (cq [0, 1] [] (pack_In_number_1_ok (1 : Int) p0 p1 p2 p3 _ hq24) wf rfl rfl rfl cb115 rfl rfl rfl rfl rfl rfl rfl rfl (s1 (bi rfl rfl (q_u64_eql (b := (1 : UInt64)))) (sa rfl (sn (SC.ret (finR (Wk.refl _) (lresT rfl lresN) rfl))))))))
noncomputable def pack_In_U64 (p0 : List UInt8) (p1 : Nat) (p2 : Nat) (p3 : Bool) : Option (UInt64 × Nat × Nat × Bool) :=
 Option.bind (pack_In_number_1 (8 : Int) p0 p1 p2 p3) fun (r10, r11, r12, r13) =>
 some (r10, r11, r12, r13)
theorem pack_In_U64_ok (p0 : List UInt8) (p1 : Nat) (p2 : Nat) (p3 : Bool) (r : UInt64 × Nat × Nat × Bool) (h0 : pack_In_U64 p0 p1 p2 p3 = some r) : CallAt Tryz.prog 117 [.ref 0 0 0] [.box (.agg [.slc 1 1 p1 p2 none, .d (eB p3)]), .row 1 (List.map eU8 p0) true] (.d (eU64 r.1)) [.box (.agg [.slc 1 1 r.2.1 r.2.2.1 none, .d (eB r.2.2.2)]), .row 1 (List.map eU8 p0) true] := by
 unfold pack_In_U64 at h0
 refine fn0 [0] Tryz.func117 rfl rfl rfl rfl rfl ?_
 obtain ⟨⟨r10, r11, r12, r13⟩, hq14, h0⟩ := ob h0; have q := si h0; subst q
 exact sr (s1 (asg (v := .d (eU64 (0 : UInt64))) rfl) (sn (sr (sm rfl (cq [0, 1] [] (pack_In_number_1_ok (8 : Int) p0 p1 p2 p3 _ hq14) wf rfl rfl rfl cb115 rfl rfl rfl rfl rfl rfl rfl rfl (sa rfl (sn (SC.ret (finR (Wk.refl _) (lresT rfl lresN) rfl)))))))))
noncomputable def pack_In_U8 (p0 : List UInt8) (p1 : Nat) (p2 : Nat) (p3 : Bool) : Option (UInt8 × Nat × Nat × Bool) :=
 Option.bind (pack_In_number_1 (1 : Int) p0 p1 p2 p3) fun (r10, r11, r12, r13) =>
 some ((r10.toUInt8), r11, r12, r13)
theorem pack_In_U8_ok (p0 : List UInt8) (p1 : Nat) (p2 : Nat) (p3 : Bool) (r : UInt8 × Nat × Nat × Bool) (h0 : pack_In_U8 p0 p1 p2 p3 = some r) : CallAt Tryz.prog 92 [.ref 0 0 0] [.box (.agg [.slc 1 1 p1 p2 none, .d (eB p3)]), .row 1 (List.map eU8 p0) true] (.d (eU8 r.1)) [.box (.agg [.slc 1 1 r.2.1 r.2.2.1 none, .d (eB r.2.2.2)]), .row 1 (List.map eU8 p0) true] := by
 unfold pack_In_U8 at h0
 refine fn0 [0] Tryz.func92 rfl rfl rfl rfl rfl ?_
 obtain ⟨⟨r10, r11, r12, r13⟩, hq14, h0⟩ := ob h0; have q := si h0; subst q
 refine sr (s1 (asg (v := .d (eU8 (0 : UInt8))) rfl) (sn (sr (sm rfl (cq [0, 1] [] (pack_In_number_1_ok (1 : Int) p0 p1 p2 p3 _ hq14) wf rfl rfl rfl cb115 rfl rfl rfl rfl rfl rfl rfl rfl (s1 (cvo rfl (cv_u64_u8 un54 un5 r10)) (sa rfl (sn (SC.ret ?_)))))))))
 exact finR (Wk.refl _) (lresT rfl lresN) rfl
noncomputable def pack_In_long (p0 : List UInt8) (p1 : Nat) (p2 : Nat) (p3 : Bool) : Option Int :=
 Option.bind (getS p0 p1 p2 (0 : Int)) fun v4 =>
 Option.bind (getS p0 p1 p2 (1 : Int)) fun v5 =>
 some (orI (w64 ((v4.toNat : Int) * 2 ^ min ((8 : UInt64).toNat : Int).toNat 64)) (v5.toNat : Int))
theorem pack_In_long_ok (p0 : List UInt8) (p1 : Nat) (p2 : Nat) (p3 : Bool) (r : Int) (h0 : pack_In_long p0 p1 p2 p3 = some r) : CallAt Tryz.prog 129 [.ref 0 0 0] [.box (.agg [.slc 1 1 p1 p2 none, .d (eB p3)]), .row 1 (List.map eU8 p0) true] (.d (eI r)) [.box (.agg [.slc 1 1 p1 p2 none, .d (eB p3)]), .row 1 (List.map eU8 p0) true] := by
 unfold pack_In_long at h0
 refine fn0 [0] Tryz.func129 rfl rfl rfl rfl rfl ?_
 obtain ⟨v4, hv4, h0⟩ := ob h0; obtain ⟨v5, hv5, h0⟩ := ob h0; have q := si h0; subst q
 refine sr (sa rfl (sn (sd (by kernel_rfl) (t1 ([], false) (mv rfl) rfl (t1 ([], false) (nkr rfl) rfl (t1 ([], false) (far (k := 0) rfl fo188_0 ts125 rfl) rfl (t1 ([0], false) (lod rfl (ld_box ts125 ta125 rfl rfl)) rfl (t1 ([], false) (ias rfl rfl un125 ts5 (getS_some hv4).1) rfl (t1 ([1], false) (lod rfl (ld_row ts5 ta5 rfl (map_get (getS_some hv4).2) rfl)) rfl ?_)))))))))
 refine t1 ([], false) (cvo rfl (cv_u8_i64 un5 un3 v4)) rfl (t1 ([], false) (bi (v := .d (eI (w64 ((v4.toNat : Int) * 2 ^ min ((8 : UInt64).toNat : Int).toNat 64)))) rfl rfl (fun X Y => b_i64_shl _ X Y (v4.toNat : Int) _ (by decide))) rfl (t1 ([], false) (mv rfl) rfl (t1 ([], false) (nkr rfl) rfl (t1 ([], false) (far (k := 0) rfl fo188_0 ts125 rfl) rfl (t1 ([0], false) (lod rfl (ld_box ts125 ta125 rfl rfl)) rfl (t1 ([], false) (ias rfl rfl un125 ts5 (getS_some hv5).1) rfl (t1 ([1], false) (lod rfl (ld_row ts5 ta5 rfl (map_get (getS_some hv5).2) rfl)) rfl (t1 ([], false) (cvo rfl (cv_u8_i64 un5 un3 v5)) rfl (t1 ([], false) (bi rfl rfl q_i64_or) rfl ?_)))))))))
 exact t1 ([], false) (asg rfl) rfl (tn (by decide +kernel) (SC.ret (finR (Wk.refl _) (lresT rfl lresN) rfl)))
noncomputable def pack_In_Text (p0 : List UInt8) (p1 : Nat) (p2 : Nat) (p3 : Bool) : Option ((List UInt8) × Nat × Nat × Bool) :=
 Option.bind (α := Bool)
 (bif p3 then
 some true
 else
 bif (decide ((p2 : Int) < (2 : Int))) then
 some true
 else
 Option.bind (pack_In_long p0 p1 p2 p3) fun r26 =>
 some (decide ((p2 : Int) < (w64 ((2 : Int) + r26)))))
 fun y24 =>
 bif y24 then
 Option.bind (α := Unit)
 (some ())
 fun _ =>
 some (([] : List UInt8), p1, p2, true)
 else
 Option.bind (pack_In_long p0 p1 p2 p3) fun r29 =>
 Option.bind (pack_In_take_1 (w64 ((2 : Int) + r29)) p0 p1 p2 p3) fun (r31, r32, r33, r34, r35) =>
 bif decide (0 ≤ (2 : Int) ∧ (2 : Int) ≤ (r32 : Int)) then
 bif decide ((r31 + (2 : Int).toNat) + (r32 - (2 : Int).toNat) ≤ p0.length) then
 some ((List.take (r32 - (2 : Int).toNat) (List.drop (r31 + (2 : Int).toNat) p0)), r33, r34, r35)
 else none
 else none
theorem pack_In_Text_ok (p0 : List UInt8) (p1 : Nat) (p2 : Nat) (p3 : Bool) (r : (List UInt8) × Nat × Nat × Bool) (h0 : pack_In_Text p0 p1 p2 p3 = some r) : CallAt Tryz.prog 118 [.ref 0 0 0] [.box (.agg [.slc 1 1 p1 p2 none, .d (eB p3)]), .row 1 (List.map eU8 p0) true] (.d (eS r.1)) [.box (.agg [.slc 1 1 r.2.1 r.2.2.1 none, .d (eB r.2.2.2)]), .row 1 (List.map eU8 p0) true] := by
 unfold pack_In_Text at h0
 refine fn0 [0] Tryz.func118 rfl rfl rfl rfl rfl ?_
 refine sr (s1 (asg (v := .d (eS ([] : List UInt8))) rfl) (sn (sq (SC.seqP h0 (fun y => ⟨mk 42 [(0, .ref 0 0 0), (29, .d (eB y))], [.box (.agg [.slc 1 1 p1 p2 none, .d (eB p3)]), .row 1 (List.map eU8 p0) true]⟩) ?_ ?_))))
 ·intro u1_25 h1
  refine SC.draws (by kernel_rfl) (t1 ([], false) (mv rfl) rfl (t1 ([], false) (bi (v := .d (eB false)) rfl rfl (fun _ _ => nil_eql un167)) rfl (t1 ([], false) (mv rfl) rfl (u1 ([], false) (ww rfl) (mv rfl) rfl (u1 ([], false) (ww rfl) (nkr rfl) rfl (u1 ([], false) (ww rfl) (far (k := 1) rfl fo188_1 ts4 rfl) rfl (u1 ([0], false) (ww rfl) (lod rfl (ld_box ts4 ta4 rfl rfl)) rfl (t1 ([], false) (pkf rfl rfl) rfl (t1 ([], false) (mv rfl) rfl ?_)))))))))
  refine tp h1 (fun h1 => ?_) (fun h1 => ?_)
  ·have q := si h1; subst q
   refine jw rfl (jw rfl (jw rfl (jw rfl (jw rfl (jw rfl (t1 ([], false) (pkt rfl rfl) rfl (t1 ([], false) (mv rfl) rfl (jw rfl (jw rfl ?_)))))))))
   refine jw rfl (jw rfl (jw rfl (jw rfl (jw rfl (jw rfl (jw rfl (t1 ([], false) (pkt rfl rfl) rfl (ST.nil (And.intro (by decide +kernel) ?_)))))))))
   exact (wq rfl)
  ·refine u1 ([], false) (ww rfl) (mv rfl) rfl (u1 ([], false) (ww rfl) (nkr rfl) rfl (u1 ([], false) (ww rfl) (far (k := 0) rfl fo188_0 ts125 rfl) rfl (u1 ([0], false) (ww rfl) (lod rfl (ld_box ts125 ta125 rfl rfl)) rfl (u1 ([], false) (ww rfl) (len rfl rfl rfl (len_slc un125)) rfl (u1 ([], false) (ww rfl) (bi rfl rfl q_i64_lss) rfl (t1 ([], false) (pkf rfl rfl) rfl (t1 ([], false) (mv rfl) rfl (tp h1 (fun h1 => ?_) (fun h1 => ?_)))))))))
   ·have q := si h1; subst q
    refine jw rfl (jw rfl (jw rfl (jw rfl (jw rfl (jw rfl (jw rfl (jw rfl (jw rfl (t1 ([], false) (pkt rfl rfl) rfl ?_)))))))))
    refine ST.nil (And.intro (by decide +kernel) ?_)
    exact (wq rfl)
   ·obtain ⟨r26, hq27, h1⟩ := ob h1; have q := si h1; subst q
    refine u1 ([], false) (ww rfl) (mv rfl) rfl (u1 ([], false) (ww rfl) (nkr rfl) rfl (u1 ([], false) (ww rfl) (far (k := 0) rfl fo188_0 ts125 rfl) rfl (u1 ([0], false) (ww rfl) (lod rfl (ld_box ts125 ta125 rfl rfl)) rfl (u1 ([], false) (ww rfl) (len rfl rfl rfl (len_slc un125)) rfl (u1 ([], false) (ww rfl) (mv rfl) rfl (tqr [0, 1] [0, 1] (pack_In_long_ok p0 p1 p2 p3 _ hq27) (ww rfl) rfl rfl rfl cb129 rfl rfl rfl rfl rfl rfl rfl rfl (u1 ([], false) (ww rfl) (bi rfl rfl q_i64_add) rfl (u1 ([], false) (ww rfl) (bi rfl rfl q_i64_lss) rfl (t1 ([], false) (pkf rfl rfl) rfl ?_)))))))))
    refine ST.nil (And.intro (by decide +kernel) ?_)
    exact (wq rfl)
 ·rintro y24 h0
  refine cB h0 rfl (fun h0 => ?_) (fun h0 => ?_)
  ·refine SC.seqP h0 (fun y => ⟨mk 42 [], [.box (.agg [.slc 1 1 p1 p2 none, .d (eB true)]), .row 1 (List.map eU8 p0) true]⟩) ?_ ?_
   ·intro u1_28 h1
    have q := si h1; subst q
    refine sr (sm rfl (s1 (bi (v := .d (eB true)) rfl rfl (fun _ _ => nil_neq un167)) (sn (cT rfl (SC.region (sm rfl (s1 (nkr rfl) (s1 (far (k := 1) rfl fo188_1 ts4 rfl) (s0 (sto (b := .d (eB true)) rfl rfl (sB (d' := .agg [.slc 1 1 p1 p2 none, .d (eB true)]) ts4 rfl rfl rfl rfl rfl rfl rfl)) ?_)))))))))
    exact SO.nil ((wq rfl))
   ·intro _ h0
    have q := si h0; subst q
    exact sr (s1 (asg (v := .d (eS ([] : List UInt8))) rfl) (sn (SC.ret (finR (Wk.refl _) (lresT rfl lresN) rfl))))
  ·obtain ⟨r29, hq30, h0⟩ := ob h0; obtain ⟨⟨r31, r32, r33, r34, r35⟩, hq36, h0⟩ := ob h0; obtain ⟨hg37, h0⟩ := gd h0; obtain ⟨hg38, h0⟩ := gd h0; have q := si h0; subst q
   refine sk (sr (sm rfl (sm rfl (cq [0, 1] [] (pack_In_long_ok p0 p1 p2 p3 _ hq30) wf rfl rfl rfl cb129 rfl rfl rfl rfl rfl rfl rfl rfl (s1 (bi rfl rfl q_i64_add) (cq [0, 1] [] (pack_In_take_1_ok (w64 ((2 : Int) + r29)) p0 p1 p2 p3 _ hq36) wf rfl rfl rfl cb128 rfl rfl rfl rfl rfl rfl rfl rfl (s1 (slo rfl rfl rfl rfl (sl_slc_lo un125 ts5 hg37)) (s1 (cvo (v := .d (eS (List.take (r32 - (2 : Int).toNat) (List.drop (r31 + (2 : Int).toNat) p0)))) rfl (cv_bytes_str un125 un9 un5 (el_slc (xs := p0) rfl hg38) (fun _ hh => by cases hh))) (sa rfl ?_)))))))))
   exact sn (SC.ret (finR (Wk.refl _) (lresT rfl lresN) rfl))
noncomputable def row_take (p0 : Int) (p1 : List UInt8) (p2 : Nat) (p3 : Nat) (p4 : Bool) : Option (Nat × Nat × Bool × ApiValue) :=
 Option.bind (pack_In_Flag_1 p1 p2 p3 p4) fun (r49, r50, r51, r52) =>
 bif r49 then
 some (r50, r51, r52, (ApiValue.mk (0 : Int) (0 : UInt64) ([] : List UInt8)))
 else
 Option.bind (α := Nat × Nat × Bool × ApiValue)
 (Option.bind (α := Bool)
 (bif (p0 == (1 : Int)) then
 some (p0 == (1 : Int))
 else
 some (p0 == (2 : Int)))
 fun y76 =>
 bif y76 then
 Option.bind (pack_In_U64 p1 r50 r51 r52) fun (r78, r79, r80, r81) =>
 some (r79, r80, r81, (ApiValue.mk p0 r78 ([] : List UInt8)))
 else
 bif (p0 == (3 : Int)) then
 Option.bind (pack_In_U8 p1 r50 r51 r52) fun (r83, r84, r85, r86) =>
 some (r84, r85, r86, (ApiValue.mk p0 (r83.toUInt64) ([] : List UInt8)))
 else
 Option.bind (pack_In_Text p1 r50 r51 r52) fun (r88, r89, r90, r91) =>
 some (r89, r90, r91, (ApiValue.mk p0 (0 : UInt64) r88)))
 fun (y71, y72, y73, y74) =>
 some (y71, y72, y73, y74)
theorem row_take_ok (p0 : Int) (p1 : List UInt8) (p2 : Nat) (p3 : Nat) (p4 : Bool) (r : Nat × Nat × Bool × ApiValue) (h0 : row_take p0 p1 p2 p3 p4 = some r) : CallAt Tryz.prog 94 [.ref 0 0 0, .d (eI p0)] [.box (.agg [.slc 1 1 p2 p3 none, .d (eB p4)]), .row 1 (List.map eU8 p1) true] (.d (eApiValue r.2.2.2)) [.box (.agg [.slc 1 1 r.1 r.2.1 none, .d (eB r.2.2.1)]), .row 1 (List.map eU8 p1) true, .box (.d (eApiValue r.2.2.2))] := by
 unfold row_take at h0
 refine fn0 [0, 1] Tryz.func94 rfl rfl rfl rfl rfl ?_
 obtain ⟨⟨r49, r50, r51, r52⟩, hq53, h0⟩ := ob h0
 refine sr (s1 (alo (k := 2) zo68 rfl) (sn (sq (sr (sm rfl (cq [0, 1] [] (pack_In_Flag_1_ok p1 p2 p3 p4 _ hq53) wf rfl rfl rfl cb116 rfl rfl rfl rfl rfl rfl rfl rfl (sn (cB h0 rfl (fun h0 => ?_) (fun h0 => ?_)))))))))
 ·have q := si h0; subst q
  exact sr (s1 (bld rfl (bd68_ )) (s0 (sto rfl rfl (sB (d' := .d (eApiValue (ApiValue.mk (0 : Int) (0 : UInt64) ([] : List UInt8)))) ts68 rfl rfl rfl rfl rfl rfl rfl)) (sn (SC.ret (finR (Wk.refl _) (lresC rfl (ld_box ts68 ta68 rfl rfl) lresN) rfl)))))
 ·refine sk (sr (sm rfl (s1 (bld rfl (bd68_0 p0)) (s1 (alo (k := 3) zo68 rfl) (s0 (sto rfl rfl (sB (d' := .d (eApiValue (ApiValue.mk p0 (0 : UInt64) ([] : List UInt8)))) ts68 rfl rfl rfl rfl rfl rfl rfl)) (sn (SC.seqP h0 (fun y => ⟨mk 28 [(4, .ref 2 0 0), (5, .ref 3 0 0)], [.box (.agg [.slc 1 1 y.1 y.2.1 none, .d (eB y.2.2.1)]), .row 1 (List.map eU8 p1) true, .box (.d (eApiValue (ApiValue.mk (0 : Int) (0 : UInt64) ([] : List UInt8)))), .box (.d (eApiValue y.2.2.2))]⟩) ?_ ?_)))))))
  ·intro u1_75 h1
   refine sr (sm rfl (sn (SC.blk (SC.seqP h1 (fun y => ⟨mk 28 [(0, .ref 0 0 0), (4, .ref 2 0 0), (5, .ref 3 0 0), (11, .d (eI p0)), (15, .d (eB y))], [.box (.agg [.slc 1 1 r50 r51 none, .d (eB r52)]), .row 1 (List.map eU8 p1) true, .box (.d (eApiValue (ApiValue.mk (0 : Int) (0 : UInt64) ([] : List UInt8)))), .box (.d (eApiValue (ApiValue.mk p0 (0 : UInt64) ([] : List UInt8))))]⟩) ?_ ?_))))
   ·intro u2_77 h2
    refine sr (s1 (bi rfl rfl q_i64_eql) (sa rfl (sn (cB h2 rfl (fun h2 => ?_) (fun h2 => ?_)))))
    ·have q := si h2; subst q
     exact SC.skip ((wq rfl))
    ·have q := si h2; subst q
     exact SC.region (s1 (bi rfl rfl q_i64_eql) (sa rfl (SO.nil ((wq rfl)))))
   ·rintro y76 h1
    refine cB h1 rfl (fun h1 => ?_) (fun h1 => ?_)
    ·obtain ⟨⟨r78, r79, r80, r81⟩, hq82, h1⟩ := ob h1; have q := si h1; subst q
     exact SC.region (sm rfl (cq [0, 1] [] (pack_In_U64_ok p1 r50 r51 r52 _ hq82) wf rfl rfl rfl cb117 rfl rfl rfl rfl rfl rfl rfl rfl (s1 (far (k := 1) rfl fo68_1 ts54 rfl) (s0 (sto rfl rfl (sB (d' := .d (eApiValue (ApiValue.mk p0 r78 ([] : List UInt8)))) ts54 rfl rfl rfl rfl rfl rfl rfl)) (SO.nil ((wq rfl)))))))
    ·refine sr (s1 (bi rfl rfl q_i64_eql) (sa rfl (sn (cB h1 rfl (fun h1 => ?_) (fun h1 => ?_)))))
     ·obtain ⟨⟨r83, r84, r85, r86⟩, hq87, h1⟩ := ob h1; have q := si h1; subst q
      exact SC.region (sm rfl (cq [0, 1] [] (pack_In_U8_ok p1 r50 r51 r52 _ hq87) wf rfl rfl rfl cb92 rfl rfl rfl rfl rfl rfl rfl rfl (s1 (cvo rfl (cv_u8_u64 un5 un54 r83)) (s1 (far (k := 1) rfl fo68_1 ts54 rfl) (s0 (sto rfl rfl (sB (d' := .d (eApiValue (ApiValue.mk p0 (r83.toUInt64) ([] : List UInt8)))) ts54 rfl rfl rfl rfl rfl rfl rfl)) (SO.nil ((wq rfl))))))))
     ·obtain ⟨⟨r88, r89, r90, r91⟩, hq92, h1⟩ := ob h1; have q := si h1; subst q
      exact SC.region (sm rfl (cq [0, 1] [] (pack_In_Text_ok p1 r50 r51 r52 _ hq92) wf rfl rfl rfl cb118 rfl rfl rfl rfl rfl rfl rfl rfl (s1 (far (k := 2) rfl fo68_2 ts9 rfl) (s0 (sto rfl rfl (sB (d' := .d (eApiValue (ApiValue.mk p0 (0 : UInt64) r88))) ts9 rfl rfl rfl rfl rfl rfl rfl)) (SO.nil ((wq rfl)))))))
  ·rintro ⟨y71, y72, y73, y74⟩ h0
   have q := si h0; subst q
   exact sr (s1 (lod (v := .d (eApiValue y74)) rfl (ld_box ts68 ta68 rfl rfl)) (s0 (sto rfl rfl (sB (d' := .d (eApiValue y74)) ts68 rfl rfl rfl rfl rfl rfl rfl)) (sn (SC.ret (finR (wc (e' := [(4, .ref 2 0 0)]) [0, 1, 2] [0, 1, 2] (by kernel_rfl) rfl (by kernel_rfl)) (lresC rfl (ld_box ts68 ta68 rfl rfl) lresN) rfl)))))
noncomputable def pack_In_Bad (p0 : List UInt8) (p1 : Nat) (p2 : Nat) (p3 : Bool) : Option Unit :=
 Option.bind (α := Unit)
 (some ())
 fun _ =>
 some ()
theorem pack_In_Bad_ok (p0 : List UInt8) (p1 : Nat) (p2 : Nat) (p3 : Bool) (r : Unit) (h0 : pack_In_Bad p0 p1 p2 p3 = some r) : CallAt Tryz.prog 95 [.ref 0 0 0] [.box (.agg [.slc 1 1 p1 p2 none, .d (eB p3)]), .row 1 (List.map eU8 p0) true] (.d (eB p3)) [.box (.agg [.slc 1 1 p1 p2 none, .d (eB p3)]), .row 1 (List.map eU8 p0) true] := by
 unfold pack_In_Bad at h0
 refine fn0 [0] Tryz.func95 rfl rfl rfl rfl rfl ?_
 refine sr (sa rfl (sn (SC.seqP h0 (fun y => ⟨mk 11 [(2, .d (eB p3))], [.box (.agg [.slc 1 1 p1 p2 none, .d (eB p3)]), .row 1 (List.map eU8 p0) true]⟩) ?_ ?_)))
 ·intro u1_2 h1
  have q := si h1; subst q
  refine SC.region (sm rfl (s1 (bi (v := .d (eB false)) rfl rfl (fun _ _ => nil_eql un167)) (sm rfl (gw rfl (mv rfl) (gw rfl (nkr rfl) (gw rfl (far (k := 1) rfl fo188_1 ts4 rfl) (gw rfl (lod rfl (ld_box ts4 ta4 rfl rfl)) (s1 (pkf rfl rfl) (sa rfl ?_)))))))))
  exact SO.nil ((wq rfl))
 ·intro _ h0
  have q := si h0; subst q
  exact SC.ret (finR (Wk.refl _) (lresT rfl lresN) rfl)
noncomputable def row_Decode_1_1 (p0 : ApiValue) (p1 : Int) (p2 : List ApiValue) : Option Unit :=
 bif decide ((p2.length + [p0].length) * 32 ≤ room) then
 some ()
 else none
theorem row_Decode_1_1_ok (p0 : ApiValue) (p1 : Int) (p2 : List ApiValue) (r : Unit) (h0 : row_Decode_1_1 p0 p1 p2 = some r) : CallAt Tryz.prog 61 [.d (eApiValue p0), .d (eI p1), .ref 0 0 0] [.box (.slc 1 3 0 p2.length none), .row 3 (List.map eApiValue p2) true] (.tuple []) [.box (.slc 2 3 0 ((p2 ++ [p0]).length) none), .dead, .row 3 (List.map eApiValue (p2 ++ [p0])) true] := by
 unfold row_Decode_1_1 at h0
 refine fn0 [0, 1, 2] Tryz.func61 rfl rfl rfl rfl rfl ?_
 obtain ⟨hg2, h0⟩ := gd h0; have q := si h0; subst q
 refine sr (s1 (bxo (k := 2) rfl rfl rfl) (sn (SC.region (s1 (lod rfl (ld_box ts28 ta28 rfl rfl)) (s1 (lod (v := .d (eApiValue p0)) rfl (ld_box ts68 ta68 rfl rfl)) (s1 (bsn (k := 3) (ds := List.map eApiValue [p0]) (off := 0) (l' := [p0].length) rfl un28 ei68 rfl rfl (by rfl) rfl rfl rfl) (s1 (app rfl rfl rfl rfl bc28 (aF (f := eApiValue) (xs := p2) (k := 4) rfl un28 ei68 rfl (el_full (xs := [p0]) rfl) hg2 rfl)) (s0 (sto rfl rfl (sC ts28 rfl rfl rfl rfl rfl rfl)) (SO.nil ?_)))))))))
 exact finN (wc (e' := []) [0, 1, 4] [0, 1] (by kernel_rfl) rfl (by kernel_rfl)) lresN rfl
noncomputable def pack_In_Done (p0 : List UInt8) (p1 : Nat) (p2 : Nat) (p3 : Bool) : Option Bool :=
 Option.bind (α := Bool)
 (Option.bind (pack_In_Bad p0 p1 p2 p3) fun _ =>
 bif (!p3) then
 Option.bind (pack_In_Left p0 p1 p2 p3) fun _ =>
 some ((p2 : Int) == (0 : Int))
 else
 some false)
 fun y10 =>
 some y10
theorem pack_In_Done_ok (p0 : List UInt8) (p1 : Nat) (p2 : Nat) (p3 : Bool) (r : Bool) (h0 : pack_In_Done p0 p1 p2 p3 = some r) : CallAt Tryz.prog 97 [.ref 0 0 0] [.box (.agg [.slc 1 1 p1 p2 none, .d (eB p3)]), .row 1 (List.map eU8 p0) true] (.d (eB r)) [.box (.agg [.slc 1 1 p1 p2 none, .d (eB p3)]), .row 1 (List.map eU8 p0) true] := by
 unfold pack_In_Done at h0
 refine fn0 [0] Tryz.func97 rfl rfl rfl rfl rfl ?_
 refine sr (sa rfl (sn (SC.seqP h0 (fun y => ⟨mk 11 [(2, .d (eB y))], [.box (.agg [.slc 1 1 p1 p2 none, .d (eB p3)]), .row 1 (List.map eU8 p0) true]⟩) ?_ ?_)))
 ·intro u1_11 h1
  obtain ⟨_, hq12, h1⟩ := ob h1
  refine SC.region (sm rfl (cq [0, 1] [] (pack_In_Bad_ok p0 p1 p2 p3 _ hq12) wf rfl rfl rfl cb95 rfl rfl rfl rfl rfl rfl rfl rfl (s1 (nt rfl) (sm rfl (sp h1 (fun h1 => ?_) (fun h1 => ?_))))))
  ·obtain ⟨_, hq13, h1⟩ := ob h1; have q := si h1; subst q
   exact gw rfl (mv rfl) (cq [0, 1] [] (pack_In_Left_ok p0 p1 p2 p3 _ hq13) (ww rfl) rfl rfl rfl cb93 rfl rfl rfl rfl rfl rfl rfl rfl (gw rfl (bi rfl rfl q_i64_eql) (s1 (pkt rfl rfl) (sa rfl (SO.nil ((wq rfl)))))))
  ·have q := si h1; subst q
   exact kw rfl (kw rfl (kw rfl (s1 (pkf rfl rfl) (sa rfl (SO.nil ((wq rfl)))))))
 ·rintro y10 h0
  have q := si h0; subst q
  exact SC.ret (finR (Wk.refl _) (lresT rfl lresN) rfl)
noncomputable def row_read (p0 : List ApiColumn) (p1 : List UInt8) : Option (Bool × (List ApiValue)) :=
 Option.bind (pack_To p1) fun _ =>
 Option.bind (pack_In_U8_1 p1 false) fun (r143, r144, r145, r146) =>
 Option.bind (α := Bool)
 (bif (decide ((r143.toNat : Int) < (1 : Int))) then
 some true
 else
 some (decide ((r143.toNat : Int) > (p0.length : Int))))
 fun y148 =>
 bif y148 then
 some (false, ([] : List ApiValue))
 else
 bindE (Y := (List ApiValue) × Nat × Nat × Bool) (E := Bool × (List ApiValue))
 (bif decide (0 ≤ (r143.toNat : Int) ∧ (r143.toNat : Int) ≤ (p0.length : Int)) then
 Option.bind (α := ((List ApiValue) × Nat × Nat × Bool) ⊕ (Bool × (List ApiValue)))
 (loop (Y := Int × (List ApiValue) × Nat × Nat × Bool) (W := ((List ApiValue) × Nat × Nat × Bool) ⊕ (Bool × (List ApiValue))) (fun (y234, y235, y236, y237, y238) =>
 bif (decide (y234 < ((List.take (r143.toNat : Int).toNat p0).length : Int))) then
 Option.bind (getI (List.take (r143.toNat : Int).toNat p0) y234) fun v262 =>
 Option.bind (pack_In_Left p1 y236 y237 y238) fun _ =>
 Option.bind (row_take v262.Kind p1 y236 y237 y238) fun (r264, r265, r266, r267) =>
 Option.bind (α := Bool)
 (Option.bind (pack_In_Bad p1 r264 r265 r266) fun _ =>
 bif r266 then
 some true
 else
 Option.bind (value_Fits v262 r267) fun r275 =>
 some (r275 != (0 : Int)))
 fun y272 =>
 bif y272 then
 some (Sum.inr (Sum.inr (false, y235)))
 else
 Option.bind (row_Decode_1_1 r267 (y237 : Int) y235) fun _ =>
 some (Sum.inl ((w64 (y234 + (1 : Int))), (y235 ++ [r267]), r264, r265, r266))
 else
 some (Sum.inr (Sum.inl (y235, y236, y237, y238)))) ((0 : Int), ([] : List ApiValue), r144, r145, r146))
 (Sum.elim (fun e => some (Sum.inl e)) (fun e => some (Sum.inr e)))
 else none)
 (fun (y212, y213, y214, y215) =>
 Option.bind (pack_In_Done p1 y213 y214 y215) fun r279 =>
 some (r279, y212))
 (fun e => some e)
theorem row_read_ok (p0 : List ApiColumn) (p1 : List UInt8) (r : Bool × (List ApiValue)) (h0 : row_read p0 p1 = some r) : CallAt Tryz.prog 60 [.d ((eL 7 eApiColumn) p0), .d (eS p1), .fn (.func 61) [] [.ref 0 0 0]] [.box (.d .nils)] (.d (eB r.1)) [.box (.slc 1 3 0 r.2.length none), .row 3 (List.map eApiValue r.2) true] := by
 unfold row_read at h0
 refine fn0 [0, 1, 2] Tryz.func60 rfl rfl rfl rfl rfl ?_
 obtain ⟨_, hq142, h0⟩ := ob h0; obtain ⟨⟨r143, r144, r145, r146⟩, hq147, h0⟩ := ob h0
 refine sr (sa rfl (sn (sr (sm rfl (s1 (cvs (s := p1) (k := 1) rfl un9 un125 un5 ts5 rfl) (cq (args' := [.slc 0 1 0 p1.length none]) (σc := [.row 1 (List.map eU8 p1) true]) [1] [2, 3] (CallAt.frz (ArgF.frz (fF rfl rfl rfl) (ArgF.nil _)) (fq [] [1, 2] (pack_To_ok p1 _ hq142) rfl rfl rfl rfl rfl rfl rfl rfl)) wf rfl rfl rfl cb91 rfl rfl rfl rfl rfl rfl rfl rfl (sa rfl (sn (sr ?_)))))))))
 refine sm rfl (cq [2, 3] [] (pack_In_U8_1_ok p1 false _ hq147) wf rfl rfl rfl cb92 rfl rfl rfl rfl rfl rfl rfl rfl (s1 (cvo rfl (cv_u8_i64 un5 un3 r143)) (sa rfl (sn (sq (SC.seqP h0 (fun y => ⟨mk 56 [(0, .d ((eL 7 eApiColumn) p0)), (2, .fn (.func 61) [] [.ref 0 0 0]), (7, .ref 1 0 0), (8, .d (eI (r143.toNat : Int))), (26, .d (eB y))], [.box (.d .nils), .box (.agg [.slc 2 1 r144 r145 none, .d (eB r146)]), .row 1 (List.map eU8 p1) true]⟩) ?_ ?_))))))
 ·intro u1_149 h1
  refine SC.region (sm rfl (s1 (bi rfl rfl q_i64_lss) (sm rfl (sp h1 (fun h1 => ?_) (fun h1 => ?_)))))
  ·have q := si h1; subst q
   exact kw rfl (kw rfl (kw rfl (kw rfl (s1 (pkt rfl rfl) (SO.nil ((wc [0, 2, 3] [0, 0, 2] (by kernel_rfl) rfl (by kernel_rfl))))))))
  ·have q := si h1; subst q
   exact gw rfl (mv rfl) (gw rfl (mv rfl) (gw rfl (len rfl rfl rfl (len_lst un22)) (gw rfl (bi rfl rfl q_i64_gtr) (s1 (pkf rfl rfl) (SO.nil ((wc [0, 2, 3] [0, 0, 2] (by kernel_rfl) rfl (by kernel_rfl))))))))
 ·rintro y148 h0
  refine cB h0 rfl (fun h0 => ?_) (fun h0 => ?_)
  ·have q := si h0; subst q
   exact sr (sa rfl (sn (SC.ret (finR (Wk.trans (Wk.pushE (σ' := [.box (.d .nils), .box (.agg [.slc 2 1 r144 r145 none, .d (eB r146)]), .row 1 (List.map eU8 p1) true, .row 3 (List.map eApiValue ([] : List ApiValue)) true]) (.row 3 [] true) (fun _ hh => by cases hh) rfl) (Wk.trans (Wk.boxE (id := 0) (y := .slc 3 3 0 (([] : List ApiValue).length) none) (σ' := [.box (.slc 3 3 0 (([] : List ApiValue).length) none), .box (.agg [.slc 2 1 r144 r145 none, .d (eB r146)]), .row 1 (List.map eU8 p1) true, .row 3 (List.map eApiValue ([] : List ApiValue)) true]) rfl (AWs.cons (AW.slcn _ _ _) AWs.nil) rfl) (wc (e' := [(6, .d (eB false))]) [0, 3] [0] (by kernel_rfl) rfl (by kernel_rfl)))) (lresT rfl lresN) rfl))))
  ·refine sk (SC.seqB h0 (fun y => ⟨mk 56 [(7, .ref 1 0 0)], [.box (.slc 2 3 0 y.1.length none), .box (.agg [.slc 3 1 y.2.1 y.2.2.1 none, .d (eB y.2.2.2)]), .row 3 (List.map eApiValue y.1) true, .row 1 (List.map eU8 p1) true]⟩) ?_ ?_)
   ·intro u1_216 h1 h0
    obtain ⟨hg217, h1⟩ := gd h1; obtain ⟨u2_261, h2, h1⟩ := ob h1
    refine sr (sm rfl (sm rfl (s1 (slo rfl rfl rfl rfl (sl_lst_hi un22 ts77 hg217)) (s1 (len rfl rfl rfl (len_lst un22)) (sm rfl (sn (SC.blk (SC.loopB h2 (fun y => ⟨mk 56 [(2, .fn (.func 61) [] [.ref 0 0 0]), (7, .ref 1 0 0), (29, .d ((eL 7 eApiColumn) (List.take (r143.toNat : Int).toNat p0))), (30, .d (eI ((List.take (r143.toNat : Int).toNat p0).length : Int))), (31, .d (eI y.1))], [.box (.slc 2 3 0 y.2.1.length none), .box (.agg [.slc 3 1 y.2.2.1 y.2.2.2.1 none, .d (eB y.2.2.2.2)]), .row 3 (List.map eApiValue y.2.1) true, .row 1 (List.map eU8 p1) true]⟩) (Wk.trans (Wk.pushE (σ' := [.box (.d .nils), .box (.agg [.slc 2 1 r144 r145 none, .d (eB r146)]), .row 1 (List.map eU8 p1) true, .row 3 (List.map eApiValue ([] : List ApiValue)) true]) (.row 3 [] true) (fun _ hh => by cases hh) rfl) (Wk.trans (Wk.boxE (id := 0) (y := .slc 3 3 0 (([] : List ApiValue).length) none) (σ' := [.box (.slc 3 3 0 (([] : List ApiValue).length) none), .box (.agg [.slc 2 1 r144 r145 none, .d (eB r146)]), .row 1 (List.map eU8 p1) true, .row 3 (List.map eApiValue ([] : List ApiValue)) true]) rfl (AWs.cons (AW.slcn _ _ _) AWs.nil) rfl) (wc [0, 1, 3, 2] [0, 0, 1] (by kernel_rfl) rfl (by kernel_rfl)))) ?_))))))))
    intro n278
    rintro ⟨y234, y235, y236, y237, y238⟩ w2_260 h3 hv3
    refine sr (s1 (bi rfl rfl q_i64_lss) (sn (sq (cB h3 rfl (fun h3 => ?_) (fun h3 => ?_)))))
    ·obtain ⟨v262, hv262, h3⟩ := ob h3; obtain ⟨_, hq263, h3⟩ := ob h3; obtain ⟨⟨r264, r265, r266, r267⟩, hq268, h3⟩ := ob h3
     refine sk (sq (SC.blk (sr (s1 (ial rfl rfl un22 ts77 (getI_some hv262).1 (map_get (getI_some hv262).2) rfl) (s1 (lod (v := .d (eApiColumn v262)) rfl (ld_rop ts77 ta77 rfl)) (s1 (alo (k := 4) zo77 rfl) (s0 (sto rfl rfl (sB (d' := .d (eApiColumn v262)) ts77 rfl rfl rfl rfl rfl rfl rfl)) (sn (sr ?_)))))))))
     refine sm rfl (cq [1, 3] [] (pack_In_Left_ok p1 y236 y237 y238 _ hq263) wf rfl rfl rfl cb93 rfl rfl rfl rfl rfl rfl rfl rfl (sa rfl (sn (sr (sm rfl (s1 (far (k := 1) rfl fo77_1 ts3 rfl) (s1 (lod rfl (ld_box ts3 ta3 rfl rfl)) (cq [1, 3] [5] (row_take_ok v262.Kind p1 y236 y237 y238 _ hq268) wf rfl rfl rfl cb94 rfl rfl rfl rfl rfl rfl rfl rfl (s1 (alo (k := 6) zo68 rfl) ?_)))))))))
     refine s0 (sto rfl rfl (sB (d' := .d (eApiValue r267)) ts68 rfl rfl rfl rfl rfl rfl rfl)) (sn (sq (SC.seqP h3 (fun y => ⟨mk 56 [(2, .fn (.func 61) [] [.ref 0 0 0]), (7, .ref 1 0 0), (11, .d (eI (y237 : Int))), (12, .ref 2 0 0), (29, .d ((eL 7 eApiColumn) (List.take (r143.toNat : Int).toNat p0))), (30, .d (eI ((List.take (r143.toNat : Int).toNat p0).length : Int))), (31, .d (eI y234)), (48, .d (eB y))], [.box (.slc 3 3 0 y235.length none), .box (.agg [.slc 4 1 r264 r265 none, .d (eB r266)]), .box (.d (eApiValue r267)), .row 3 (List.map eApiValue y235) true, .row 1 (List.map eU8 p1) true]⟩) ?_ ?_)))
     ·intro u4_273 h4
      obtain ⟨_, hq274, h4⟩ := ob h4
      refine SC.region (sm rfl (cq [1, 3] [] (pack_In_Bad_ok p1 r264 r265 r266 _ hq274) wf rfl rfl rfl cb95 rfl rfl rfl rfl rfl rfl rfl rfl (sm rfl (sp h4 (fun h4 => ?_) (fun h4 => ?_)))))
      ·have q := si h4; subst q
       exact kw rfl (kw rfl (kw rfl (kw rfl (s1 (pkt rfl rfl) (SO.nil ((wc [0, 1, 6, 2, 3] [0, 0, 1, 6] (by kernel_rfl) rfl (by kernel_rfl))))))))
      ·obtain ⟨r275, hq276, h4⟩ := ob h4; have q := si h4; subst q
       exact gw rfl (lod (v := .d (eApiColumn v262)) rfl (ld_box ts77 ta77 rfl rfl)) (gw rfl (lod (v := .d (eApiValue r267)) rfl (ld_box ts68 ta68 rfl rfl)) (c0 (value_Fits_ok v262 r267 _ hq276) (ww rfl) rfl rfl rfl cb96 rfl (fun _ => rfl) (fun _ => rfl) (gw rfl (bi rfl rfl q_i64_neq) (s1 (pkf rfl rfl) (SO.nil ((wc [0, 1, 6, 2, 3] [0, 0, 1, 6] (by kernel_rfl) rfl (by kernel_rfl))))))))
     ·rintro y272 h3
      refine cB h3 rfl (fun h3 => ?_) (fun h3 => ?_)
      ·have q := si h3; subst q; have q : _ = _ := hv3; subst q; have q := si h1; subst q; have q := si h0; subst q
       exact sr (sa rfl (sn (SC.ret (finR (wc (e' := [(6, .d (eB false))]) [0, 3] [0] (by kernel_rfl) rfl (by kernel_rfl)) (lresT rfl lresN) rfl))))
      ·obtain ⟨_, hq277, h3⟩ := ob h3
       refine sk (SC.region (sm rfl (s1 (lod (v := .d (eApiValue r267)) rfl (ld_box ts68 ta68 rfl rfl)) (sm rfl (cq [0, 3] [5] (row_Decode_1_1_ok r267 (y237 : Int) y235 _ hq277) wf rfl rfl rfl cb61 rfl rfl rfl rfl rfl rfl rfl rfl (SO.nil ?_))))))
       change SC _ _ _ _ _
       have q := si h3; subst q
       exact SC.region (s1 (bi rfl rfl q_i64_add) (sm rfl (SO.nil (lf (wc [0, 1, 5, 4] [0, 0, 1] (by kernel_rfl) rfl (by kernel_rfl))))))
    ·have q := si h3; subst q; have q : _ = _ := hv3; subst q; have q := si h1; subst q
     exact SC.exit (lf (wq rfl))
   ·rintro ⟨y212, y213, y214, y215⟩ h0
    obtain ⟨r279, hq280, h0⟩ := ob h0; have q := si h0; subst q
    exact sr (sm rfl (cq [1, 3] [] (pack_In_Done_ok p1 y213 y214 y215 _ hq280) wf rfl rfl rfl cb97 rfl rfl rfl rfl rfl rfl rfl rfl (sa rfl (sn (SC.ret (finR (wc (e' := [(6, .d (eB r279))]) [0, 2] [0] (by kernel_rfl) rfl (by kernel_rfl)) (lresT rfl lresN) rfl))))))
noncomputable def row_Decode (p0 : List ApiColumn) (p1 : List UInt8) : Option ((List ApiValue) × Int) :=
 Option.bind (row_columns p0) fun r44 =>
 bif (!r44) then
 some (([] : List ApiValue), (1 : Int))
 else
 Option.bind (α := Bool × (List ApiValue))
 (bif (decide ((p1.length : Int) > (512 : Int))) then
 some (true, ([] : List ApiValue))
 else
 Option.bind (row_read p0 p1) fun (r52, r53) =>
 some ((!r52), r53))
 fun (y49, y50) =>
 bif y49 then
 some (([] : List ApiValue), (2 : Int))
 else
 Option.bind (α := (List ApiValue))
 (bif decide (0 ≤ (y50.length : Int) ∧ (y50.length : Int) ≤ (p0.length : Int)) then
 Option.bind (α := (List ApiValue))
 (loop (Y := Int × (List ApiValue)) (W := (List ApiValue)) (fun (y74, y75) =>
 bif (decide (y74 < ((List.drop (y50.length : Int).toNat p0).length : Int))) then
 Option.bind (getI (List.drop (y50.length : Int).toNat p0) y74) fun v82 =>
 bif decide ((y75.length + [v82.Default].length) * 32 ≤ room) then
 some (Sum.inl ((w64 (y74 + (1 : Int))), (y75 ++ [v82.Default])))
 else none
 else
 some (Sum.inr y75)) ((0 : Int), y50))
 (fun e => some e)
 else none)
 fun y69 =>
 some (y69, (0 : Int))
theorem row_Decode_ok (p0 : List ApiColumn) (p1 : List UInt8) (r : (List ApiValue) × Int) (h0 : row_Decode p0 p1 = some r) : CallAt Tryz.prog 19 [.d ((eL 7 eApiColumn) p0), .d (eS p1)] [] (.tuple [.d ((eL 3 eApiValue) r.1), .d (eI r.2)]) [] := by
 unfold row_Decode at h0
 refine fn0 [0, 1] Tryz.func19 rfl rfl rfl rfl rfl ?_
 obtain ⟨r44, hq45, h0⟩ := ob h0
 refine sr (s1 (asg (v := .d .nils) rfl) (sa rfl (sn (sq (sr (sm rfl (c0 (row_columns_ok p0 _ hq45) wf rfl rfl rfl cb59 rfl (fun _ => rfl) (fun _ => rfl) (s1 (nt rfl) (sn ?_)))))))))
 refine cB h0 rfl (fun h0 => ?_) (fun h0 => ?_)
 ·have q := si h0; subst q
  exact sr (s1 (asg (v := .d .nils) rfl) (sa rfl (sn (SC.ret (finR (Wk.env (e' := [(4, .d ((eL 3 eApiValue) ([] : List ApiValue))), (5, .d (eI (1 : Int)))]) (EW.cons (AW.nl _) (EW.cons (AW.refl _) EW.nil))) (lresT rfl (lresT rfl lresN)) rfl)))))
 ·refine sk (sr (s1 (alo (k := 0) zo28 rfl) (sn (sq (SC.seqP h0 (fun y => ⟨mk 38 [(0, .d ((eL 7 eApiColumn) p0)), (6, .ref 0 0 0), (21, .d (eB y.1))], [.box (.slc 1 3 0 y.2.length none), .row 3 (List.map eApiValue y.2) true]⟩) ?_ ?_)))))
  ·intro u1_51 h1
   refine SC.region (sm rfl (s1 (len rfl rfl rfl (len_str un9)) (s1 (bi rfl rfl q_i64_gtr) (sm rfl (sp h1 (fun h1 => ?_) (fun h1 => ?_))))))
   ·have q := si h1; subst q
    exact kw rfl (kw rfl (kw rfl (kw rfl (kw rfl (s1 (pkt rfl rfl) (SO.nil ((Wk.trans (Wk.pushE (σ' := [.box (.d .nils), .row 3 (List.map eApiValue ([] : List ApiValue)) true]) (.row 3 [] true) (fun _ hh => by cases hh) rfl) (Wk.trans (Wk.boxE (id := 0) (y := .slc 1 3 0 (([] : List ApiValue).length) none) (σ' := [.box (.slc 1 3 0 (([] : List ApiValue).length) none), .row 3 (List.map eApiValue ([] : List ApiValue)) true]) rfl (AWs.cons (AW.slcn _ _ _) AWs.nil) rfl) (wq rfl))))))))))
   ·obtain ⟨⟨r52, r53⟩, hq54, h1⟩ := ob h1; have q := si h1; subst q
    exact gw rfl (mv rfl) (gw rfl (mv rfl) (gw rfl (mkf rfl rfl) (cq [0] [1] (row_read_ok p0 p1 _ hq54) (ww rfl) rfl rfl rfl cb60 rfl rfl rfl rfl rfl rfl rfl rfl (gw rfl (nt rfl) (s1 (pkf rfl rfl) (SO.nil ((wq rfl))))))))
  ·rintro ⟨y49, y50⟩ h0
   refine cB h0 rfl (fun h0 => ?_) (fun h0 => ?_)
   ·have q := si h0; subst q
    exact sr (s1 (asg (v := .d .nils) rfl) (sa rfl (sn (SC.ret (finR (Wk.trans (Wk.env (e' := [(4, .d ((eL 3 eApiValue) ([] : List ApiValue))), (5, .d (eI (2 : Int)))]) (EW.cons (AW.nl _) (EW.cons (AW.refl _) EW.nil))) (wc (e' := [(4, .d ((eL 3 eApiValue) ([] : List ApiValue))), (5, .d (eI (2 : Int)))]) [] [] (by kernel_rfl) rfl (by kernel_rfl))) (lresT rfl (lresT rfl lresN)) rfl)))))
   ·refine sk (SC.seqP h0 (fun y => ⟨mk 38 [(6, .ref 0 0 0)], [.box (.slc 1 3 0 y.length none), .row 3 (List.map eApiValue y) true]⟩) ?_ ?_)
    ·intro u1_70 h1
     obtain ⟨hg71, h1⟩ := gd h1; obtain ⟨u2_81, h2, h1⟩ := ob h1
     refine sr (sm rfl (s1 (lod rfl (ld_box ts28 ta28 rfl rfl)) (s1 (len rfl rfl rfl (len_slc un28)) (s1 (slo rfl rfl rfl rfl (sl_lst_lo un22 ts77 hg71)) (s1 (len rfl rfl rfl (len_lst un22)) (sm rfl (sn (SC.blk (SC.loopB h2 (fun y => ⟨mk 38 [(6, .ref 0 0 0), (25, .d ((eL 7 eApiColumn) (List.drop (y50.length : Int).toNat p0))), (26, .d (eI ((List.drop (y50.length : Int).toNat p0).length : Int))), (27, .d (eI y.1))], [.box (.slc 1 3 0 y.2.length none), .row 3 (List.map eApiValue y.2) true]⟩) (wq rfl) ?_)))))))))
     intro n84
     rintro ⟨y74, y75⟩ w2_80 h3 hv3
     refine sr (s1 (bi rfl rfl q_i64_lss) (sn (sq (cB h3 rfl (fun h3 => ?_) (fun h3 => ?_)))))
     ·obtain ⟨v82, hv82, h3⟩ := ob h3; obtain ⟨hg83, h3⟩ := gd h3
      refine sk (sq (SC.blk (sr (s1 (ial rfl rfl un22 ts77 (getI_some hv82).1 (map_get (getI_some hv82).2) rfl) (s1 (lod (v := .d (eApiColumn v82)) rfl (ld_rop ts77 ta77 rfl)) (s1 (alo (k := 2) zo77 rfl) (s0 (sto rfl rfl (sB (d' := .d (eApiColumn v82)) ts77 rfl rfl rfl rfl rfl rfl rfl)) (sn (SC.region ?_)))))))))
      refine s1 (lod rfl (ld_box ts28 ta28 rfl rfl)) (s1 (far (k := 4) rfl fo77_4 ts68 rfl) (s1 (lod (v := .d (eApiValue v82.Default)) rfl (ld_box ts68 ta68 rfl rfl)) (s1 (bsn (k := 3) (ds := List.map eApiValue [v82.Default]) (off := 0) (l' := [v82.Default].length) rfl un28 ei68 rfl rfl (by rfl) rfl rfl rfl) (s1 (app rfl rfl rfl rfl bc28 (aF (f := eApiValue) (xs := y75) (k := 4) rfl un28 ei68 rfl (el_full (xs := [v82.Default]) rfl) hg83 rfl)) (s0 (sto rfl rfl (sC ts28 rfl rfl rfl rfl rfl rfl)) (SO.nil ?_))))))
      change SC _ _ _ _ _
      have q := si h3; subst q
      exact SC.region (s1 (bi rfl rfl q_i64_add) (sm rfl (SO.nil (lf (wc [0, 4] [0] (by kernel_rfl) rfl (by kernel_rfl))))))
     ·have q := si h3; subst q; have q : _ = _ := hv3; subst q; have q := si h1; subst q
      exact SC.exit ((wq rfl))
    ·rintro y69 h0
     have q := si h0; subst q
     exact sr (s1 (lod rfl (ld_box ts28 ta28 rfl rfl)) (sa rfl (sa rfl (sn (SC.ret (finR (Wk.trans (Wk.frz (i := 4) (x := .slc 1 3 0 y69.length none) rfl rfl (fF rfl rfl rfl)) (wc (e' := [(4, .d ((eL 3 eApiValue) y69)), (5, .d (eI (0 : Int)))]) [] [] (by kernel_rfl) rfl (by kernel_rfl))) (lresT rfl (lresT rfl lresN)) rfl))))))
noncomputable def row_Place_1 (p0 : ApiValue) (p1 : Int) (p2 : Int) (p3 : Int) (p4 : List UInt8) (p5 : Int) : Option Int :=
 Option.bind (α := Int)
 (Option.bind (α := Bool)
 (bif (p2 == p3) then
 bif (p0.Kind == (1 : Int)) then
 some true
 else
 some (p0.Kind == (2 : Int))
 else
 some false)
 fun y12 =>
 bif y12 then
 some (w64 ((w64 ((p4.length : Int) - p1)) + (1 : Int)))
 else
 some p5)
 fun y10 =>
 some y10
theorem row_Place_1_ok (p0 : ApiValue) (p1 : Int) (p2 : Int) (p3 : Int) (p4 : List UInt8) (p5 : Int) (r : Int) (h0 : row_Place_1 p0 p1 p2 p3 p4 p5 = some r) : CallAt Tryz.prog 82 [.d (eApiValue p0), .d (eI p1), .ref 0 0 0, .ref 1 0 0, .ref 2 0 0, .ref 3 0 0] [.box (.d (eI p2)), .box (.d (eI p3)), .box (.d (eS p4)), .box (.d (eI p5))] (.tuple []) [.box (.d (eI (w64 (p2 + (1 : Int))))), .box (.d (eI p3)), .box (.d (eS p4)), .box (.d (eI r))] := by
 unfold row_Place_1 at h0
 refine fn0 [0, 1, 2, 3, 4, 5] Tryz.func82 rfl rfl rfl rfl rfl ?_
 refine sr (s1 (bxo (k := 4) rfl rfl rfl) (sn (SC.seqP h0 (fun y => ⟨mk 28 [(2, .ref 0 0 0)], [.box (.d (eI p2)), .box (.d (eI p3)), .box (.d (eS p4)), .box (.d (eI y))]⟩) ?_ ?_)))
 ·intro u1_11 h1
  refine SC.seqP h1 (fun y => ⟨mk 28 [(1, .d (eI p1)), (2, .ref 0 0 0), (4, .ref 2 0 0), (5, .ref 3 0 0), (20, .d (eB y))], [.box (.d (eI p2)), .box (.d (eI p3)), .box (.d (eS p4)), .box (.d (eI p5))]⟩) ?_ ?_
  ·intro u2_13 h2
   refine SC.region (s1 (lod rfl (ld_box ts3 ta3 rfl rfl)) (s1 (lod rfl (ld_box ts3 ta3 rfl rfl)) (s1 (bi rfl rfl q_i64_eql) (sm rfl (sp h2 (fun h2 => ?_) (fun h2 => ?_))))))
   ·refine gw rfl (far (k := 0) rfl fo68_0 ts3 rfl) (gw rfl (lod rfl (ld_box ts3 ta3 rfl rfl)) (gw rfl (bi rfl rfl q_i64_eql) (gw rfl (mv rfl) (sp h2 (fun h2 => ?_) (fun h2 => ?_)))))
    ·have q := si h2; subst q
     exact kw rfl (kw rfl (kw rfl (gw rfl (pkt rfl rfl) (s1 (pkt rfl rfl) (SO.nil ((wc [0, 1, 2, 3] [0, 1, 2, 3, 0, 2, 3] (by kernel_rfl) rfl (by kernel_rfl))))))))
    ·have q := si h2; subst q
     exact gw rfl (far (k := 0) rfl fo68_0 ts3 rfl) (gw rfl (lod rfl (ld_box ts3 ta3 rfl rfl)) (gw rfl (bi rfl rfl q_i64_eql) (gw rfl (pkf rfl rfl) (s1 (pkt rfl rfl) (SO.nil ((wc [0, 1, 2, 3] [0, 1, 2, 3, 0, 2, 3] (by kernel_rfl) rfl (by kernel_rfl))))))))
   ·have q := si h2; subst q
    refine kw rfl (kw rfl (kw rfl (kw rfl (kw rfl (kw rfl (kw rfl (kw rfl (s1 (pkf rfl rfl) (SO.nil ?_)))))))))
    exact (wc [0, 1, 2, 3] [0, 1, 2, 3, 0, 2, 3] (by kernel_rfl) rfl (by kernel_rfl))
  ·rintro y12 h1
   refine cB h1 rfl (fun h1 => ?_) (fun h1 => ?_)
   ·have q := si h1; subst q
    exact SC.region (s1 (lod rfl (ld_box ts9 ta9 rfl rfl)) (s1 (len rfl rfl rfl (len_str un9)) (sm rfl (s1 (bi rfl rfl q_i64_sub) (s1 (bi rfl rfl q_i64_add) (s0 (sto rfl rfl (sC ts3 rfl rfl rfl rfl rfl rfl)) (SO.nil ((wq rfl)))))))))
   ·have q := si h1; subst q
    exact SC.skip ((wq rfl))
 ·rintro y10 h0
  have q := si h0; subst q
  exact SC.region (s1 (lod rfl (ld_box ts3 ta3 rfl rfl)) (s1 (bi rfl rfl q_i64_add) (s0 (sto rfl rfl (sC ts3 rfl rfl rfl rfl rfl rfl)) (SO.nil (finN (Wk.refl _) lresN rfl)))))
noncomputable def row_read_1 (p0 : List ApiColumn) (p1 : List UInt8) (p2 : Int) (p3 : Int) (p4 : List UInt8) (p5 : Int) : Option (Bool × Int × Int) :=
 Option.bind (pack_To p1) fun _ =>
 Option.bind (pack_In_U8_1 p1 false) fun (r155, r156, r157, r158) =>
 Option.bind (α := Bool)
 (bif (decide ((r155.toNat : Int) < (1 : Int))) then
 some true
 else
 some (decide ((r155.toNat : Int) > (p0.length : Int))))
 fun y160 =>
 bif y160 then
 some (false, p2, p5)
 else
 bindE (Y := Int × Int × Nat × Nat × Bool) (E := Bool × Int × Int)
 (bif decide (0 ≤ (r155.toNat : Int) ∧ (r155.toNat : Int) ≤ (p0.length : Int)) then
 Option.bind (α := (Int × Int × Nat × Nat × Bool) ⊕ (Bool × Int × Int))
 (loop (Y := Int × Int × Int × Nat × Nat × Bool) (W := (Int × Int × Nat × Nat × Bool) ⊕ (Bool × Int × Int)) (fun (y253, y254, y255, y256, y257, y258) =>
 bif (decide (y253 < ((List.take (r155.toNat : Int).toNat p0).length : Int))) then
 Option.bind (getI (List.take (r155.toNat : Int).toNat p0) y253) fun v284 =>
 Option.bind (pack_In_Left p1 y256 y257 y258) fun _ =>
 Option.bind (row_take v284.Kind p1 y256 y257 y258) fun (r286, r287, r288, r289) =>
 Option.bind (α := Bool)
 (Option.bind (pack_In_Bad p1 r286 r287 r288) fun _ =>
 bif r288 then
 some true
 else
 Option.bind (value_Fits v284 r289) fun r297 =>
 some (r297 != (0 : Int)))
 fun y294 =>
 bif y294 then
 some (Sum.inr (Sum.inr (false, y254, y255)))
 else
 Option.bind (row_Place_1 r289 (y257 : Int) y254 p3 p4 y255) fun r299 =>
 some (Sum.inl ((w64 (y253 + (1 : Int))), (w64 (y254 + (1 : Int))), r299, r286, r287, r288))
 else
 some (Sum.inr (Sum.inl (y254, y255, y256, y257, y258)))) ((0 : Int), p2, p5, r156, r157, r158))
 (Sum.elim (fun e => some (Sum.inl e)) (fun e => some (Sum.inr e)))
 else none)
 (fun (y229, y230, y231, y232, y233) =>
 Option.bind (pack_In_Done p1 y231 y232 y233) fun r302 =>
 some (r302, y229, y230))
 (fun e => some e)
theorem row_read_1_ok (p0 : List ApiColumn) (p1 : List UInt8) (p2 : Int) (p3 : Int) (p4 : List UInt8) (p5 : Int) (r : Bool × Int × Int) (h0 : row_read_1 p0 p1 p2 p3 p4 p5 = some r) : CallAt Tryz.prog 60 [.d ((eL 7 eApiColumn) p0), .d (eS p1), .fn (.func 82) [] [.ref 0 0 0, .ref 1 0 0, .ref 2 0 0, .ref 3 0 0]] [.box (.d (eI p2)), .box (.d (eI p3)), .box (.d (eS p4)), .box (.d (eI p5))] (.d (eB r.1)) [.box (.d (eI r.2.1)), .box (.d (eI p3)), .box (.d (eS p4)), .box (.d (eI r.2.2))] := by
 unfold row_read_1 at h0
 refine fn0 [0, 1, 2] Tryz.func60 rfl rfl rfl rfl rfl ?_
 obtain ⟨_, hq154, h0⟩ := ob h0; obtain ⟨⟨r155, r156, r157, r158⟩, hq159, h0⟩ := ob h0
 refine sr (sa rfl (sn (sr (sm rfl (s1 (cvs (s := p1) (k := 4) rfl un9 un125 un5 ts5 rfl) (cq (args' := [.slc 0 1 0 p1.length none]) (σc := [.row 1 (List.map eU8 p1) true]) [4] [5, 6] (CallAt.frz (ArgF.frz (fF rfl rfl rfl) (ArgF.nil _)) (fq [] [1, 2] (pack_To_ok p1 _ hq154) rfl rfl rfl rfl rfl rfl rfl rfl)) wf rfl rfl rfl cb91 rfl rfl rfl rfl rfl rfl rfl rfl (sa rfl (sn (sr ?_)))))))))
 refine sm rfl (cq [5, 6] [] (pack_In_U8_1_ok p1 false _ hq159) wf rfl rfl rfl cb92 rfl rfl rfl rfl rfl rfl rfl rfl (s1 (cvo rfl (cv_u8_i64 un5 un3 r155)) (sa rfl (sn (sq (SC.seqP h0 (fun y => ⟨mk 56 [(0, .d ((eL 7 eApiColumn) p0)), (2, .fn (.func 82) [] [.ref 0 0 0, .ref 1 0 0, .ref 2 0 0, .ref 3 0 0]), (7, .ref 4 0 0), (8, .d (eI (r155.toNat : Int))), (26, .d (eB y))], [.box (.d (eI p2)), .box (.d (eI p3)), .box (.d (eS p4)), .box (.d (eI p5)), .box (.agg [.slc 5 1 r156 r157 none, .d (eB r158)]), .row 1 (List.map eU8 p1) true]⟩) ?_ ?_))))))
 ·intro u1_161 h1
  refine SC.region (sm rfl (s1 (bi rfl rfl q_i64_lss) (sm rfl (sp h1 (fun h1 => ?_) (fun h1 => ?_)))))
  ·have q := si h1; subst q
   exact kw rfl (kw rfl (kw rfl (kw rfl (s1 (pkt rfl rfl) (SO.nil ((wc [0, 1, 2, 3, 5, 6] [0, 1, 2, 3, 0, 1, 2, 3, 5] (by kernel_rfl) rfl (by kernel_rfl))))))))
  ·have q := si h1; subst q
   exact gw rfl (mv rfl) (gw rfl (mv rfl) (gw rfl (len rfl rfl rfl (len_lst un22)) (gw rfl (bi rfl rfl q_i64_gtr) (s1 (pkf rfl rfl) (SO.nil ((wc [0, 1, 2, 3, 5, 6] [0, 1, 2, 3, 0, 1, 2, 3, 5] (by kernel_rfl) rfl (by kernel_rfl))))))))
 ·rintro y160 h0
  refine cB h0 rfl (fun h0 => ?_) (fun h0 => ?_)
  ·have q := si h0; subst q
   exact sr (sa rfl (sn (SC.ret (finR (wc (e' := [(6, .d (eB false))]) [0, 1, 2, 3] [0, 1, 2, 3] (by kernel_rfl) rfl (by kernel_rfl)) (lresT rfl lresN) rfl))))
  ·refine sk (SC.seqB h0 (fun y => ⟨mk 56 [(7, .ref 4 0 0)], [.box (.d (eI y.1)), .box (.d (eI p3)), .box (.d (eS p4)), .box (.d (eI y.2.1)), .box (.agg [.slc 5 1 y.2.2.1 y.2.2.2.1 none, .d (eB y.2.2.2.2)]), .row 1 (List.map eU8 p1) true]⟩) ?_ ?_)
   ·intro u1_234 h1 h0
    obtain ⟨hg235, h1⟩ := gd h1; obtain ⟨u2_283, h2, h1⟩ := ob h1
    refine sr (sm rfl (sm rfl (s1 (slo rfl rfl rfl rfl (sl_lst_hi un22 ts77 hg235)) (s1 (len rfl rfl rfl (len_lst un22)) (sm rfl (sn (SC.blk (SC.loopB h2 (fun y => ⟨mk 56 [(2, .fn (.func 82) [] [.ref 0 0 0, .ref 1 0 0, .ref 2 0 0, .ref 3 0 0]), (7, .ref 4 0 0), (29, .d ((eL 7 eApiColumn) (List.take (r155.toNat : Int).toNat p0))), (30, .d (eI ((List.take (r155.toNat : Int).toNat p0).length : Int))), (31, .d (eI y.1))], [.box (.d (eI y.2.1)), .box (.d (eI p3)), .box (.d (eS p4)), .box (.d (eI y.2.2.1)), .box (.agg [.slc 5 1 y.2.2.2.1 y.2.2.2.2.1 none, .d (eB y.2.2.2.2.2)]), .row 1 (List.map eU8 p1) true]⟩) (wq rfl) ?_))))))))
    intro n301
    rintro ⟨y253, y254, y255, y256, y257, y258⟩ w2_282 h3 hv3
    refine sr (s1 (bi rfl rfl q_i64_lss) (sn (sq (cB h3 rfl (fun h3 => ?_) (fun h3 => ?_)))))
    ·obtain ⟨v284, hv284, h3⟩ := ob h3; obtain ⟨_, hq285, h3⟩ := ob h3; obtain ⟨⟨r286, r287, r288, r289⟩, hq290, h3⟩ := ob h3
     refine sk (sq (SC.blk (sr (s1 (ial rfl rfl un22 ts77 (getI_some hv284).1 (map_get (getI_some hv284).2) rfl) (s1 (lod (v := .d (eApiColumn v284)) rfl (ld_rop ts77 ta77 rfl)) (s1 (alo (k := 6) zo77 rfl) (s0 (sto rfl rfl (sB (d' := .d (eApiColumn v284)) ts77 rfl rfl rfl rfl rfl rfl rfl)) (sn (sr ?_)))))))))
     refine sm rfl (cq [4, 5] [] (pack_In_Left_ok p1 y256 y257 y258 _ hq285) wf rfl rfl rfl cb93 rfl rfl rfl rfl rfl rfl rfl rfl (sa rfl (sn (sr (sm rfl (s1 (far (k := 1) rfl fo77_1 ts3 rfl) (s1 (lod rfl (ld_box ts3 ta3 rfl rfl)) (cq [4, 5] [7] (row_take_ok v284.Kind p1 y256 y257 y258 _ hq290) wf rfl rfl rfl cb94 rfl rfl rfl rfl rfl rfl rfl rfl (s1 (alo (k := 8) zo68 rfl) ?_)))))))))
     refine s0 (sto rfl rfl (sB (d' := .d (eApiValue r289)) ts68 rfl rfl rfl rfl rfl rfl rfl)) (sn (sq (SC.seqP h3 (fun y => ⟨mk 56 [(2, .fn (.func 82) [] [.ref 0 0 0, .ref 1 0 0, .ref 2 0 0, .ref 3 0 0]), (7, .ref 4 0 0), (11, .d (eI (y257 : Int))), (12, .ref 5 0 0), (29, .d ((eL 7 eApiColumn) (List.take (r155.toNat : Int).toNat p0))), (30, .d (eI ((List.take (r155.toNat : Int).toNat p0).length : Int))), (31, .d (eI y253)), (48, .d (eB y))], [.box (.d (eI y254)), .box (.d (eI p3)), .box (.d (eS p4)), .box (.d (eI y255)), .box (.agg [.slc 6 1 r286 r287 none, .d (eB r288)]), .box (.d (eApiValue r289)), .row 1 (List.map eU8 p1) true]⟩) ?_ ?_)))
     ·intro u4_295 h4
      obtain ⟨_, hq296, h4⟩ := ob h4
      refine SC.region (sm rfl (cq [4, 5] [] (pack_In_Bad_ok p1 r286 r287 r288 _ hq296) wf rfl rfl rfl cb95 rfl rfl rfl rfl rfl rfl rfl rfl (sm rfl (sp h4 (fun h4 => ?_) (fun h4 => ?_)))))
      ·have q := si h4; subst q
       exact kw rfl (kw rfl (kw rfl (kw rfl (s1 (pkt rfl rfl) (SO.nil ((wc [0, 1, 2, 3, 4, 8, 5] [0, 1, 2, 3, 0, 1, 2, 3, 4, 8] (by kernel_rfl) rfl (by kernel_rfl))))))))
      ·obtain ⟨r297, hq298, h4⟩ := ob h4; have q := si h4; subst q
       exact gw rfl (lod (v := .d (eApiColumn v284)) rfl (ld_box ts77 ta77 rfl rfl)) (gw rfl (lod (v := .d (eApiValue r289)) rfl (ld_box ts68 ta68 rfl rfl)) (c0 (value_Fits_ok v284 r289 _ hq298) (ww rfl) rfl rfl rfl cb96 rfl (fun _ => rfl) (fun _ => rfl) (gw rfl (bi rfl rfl q_i64_neq) (s1 (pkf rfl rfl) (SO.nil ((wc [0, 1, 2, 3, 4, 8, 5] [0, 1, 2, 3, 0, 1, 2, 3, 4, 8] (by kernel_rfl) rfl (by kernel_rfl))))))))
     ·rintro y294 h3
      refine cB h3 rfl (fun h3 => ?_) (fun h3 => ?_)
      ·have q := si h3; subst q; have q : _ = _ := hv3; subst q; have q := si h1; subst q; have q := si h0; subst q
       exact sr (sa rfl (sn (SC.ret (finR (wc (e' := [(6, .d (eB false))]) [0, 1, 2, 3] [0, 1, 2, 3] (by kernel_rfl) rfl (by kernel_rfl)) (lresT rfl lresN) rfl))))
      ·obtain ⟨r299, hq300, h3⟩ := ob h3
       refine sk (SC.region (sm rfl (s1 (lod (v := .d (eApiValue r289)) rfl (ld_box ts68 ta68 rfl rfl)) (sm rfl (cq [0, 1, 2, 3] [] (row_Place_1_ok r289 (y257 : Int) y254 p3 p4 y255 _ hq300) wf rfl rfl rfl cb82 rfl rfl rfl rfl rfl rfl rfl rfl (SO.nil ?_))))))
       change SC _ _ _ _ _
       have q := si h3; subst q
       exact SC.region (s1 (bi rfl rfl q_i64_add) (sm rfl (SO.nil (lf (wc [0, 1, 2, 3, 4, 6] [0, 1, 2, 3, 0, 1, 2, 3, 4] (by kernel_rfl) rfl (by kernel_rfl))))))
    ·have q := si h3; subst q; have q : _ = _ := hv3; subst q; have q := si h1; subst q
     exact SC.exit (lf (wq rfl))
   ·rintro ⟨y229, y230, y231, y232, y233⟩ h0
    obtain ⟨r302, hq303, h0⟩ := ob h0; have q := si h0; subst q
    exact sr (sm rfl (cq [4, 5] [] (pack_In_Done_ok p1 y231 y232 y233 _ hq303) wf rfl rfl rfl cb97 rfl rfl rfl rfl rfl rfl rfl rfl (sa rfl (sn (SC.ret (finR (wc (e' := [(6, .d (eB r302))]) [0, 1, 2, 3] [0, 1, 2, 3] (by kernel_rfl) rfl (by kernel_rfl)) (lresT rfl lresN) rfl))))))
noncomputable def row_Place (p0 : List ApiColumn) (p1 : List UInt8) (p2 : Int) : Option (Int × Int) :=
 Option.bind (row_Decode p0 p1) fun (r12, r13) =>
 bif (r13 != (0 : Int)) then
 some ((0 : Int), r13)
 else
 Option.bind (α := Bool)
 (bif (decide (p2 < (0 : Int))) then
 some true
 else
 some (decide (p2 ≥ (p0.length : Int))))
 fun y15 =>
 bif y15 then
 some ((0 : Int), (1 : Int))
 else
 Option.bind (row_read_1 p0 p1 (0 : Int) p2 p1 (0 : Int)) fun (r17, r18, r19) =>
 bif (r19 == (0 : Int)) then
 some ((0 : Int), (8 : Int))
 else
 some (r19, (0 : Int))
theorem row_Place_ok (p0 : List ApiColumn) (p1 : List UInt8) (p2 : Int) (r : Int × Int) (h0 : row_Place p0 p1 p2 = some r) : CallAt Tryz.prog 51 [.d ((eL 7 eApiColumn) p0), .d (eS p1), .d (eI p2)] [] (.tuple [.d (eI r.1), .d (eI r.2)]) [] := by
 unfold row_Place at h0
 refine fn0 [0, 1, 2] Tryz.func51 rfl rfl rfl rfl rfl ?_
 obtain ⟨⟨r12, r13⟩, hq14, h0⟩ := ob h0
 refine sr (s1 (bxo (k := 0) rfl rfl rfl) (s1 (bxo (k := 1) rfl rfl rfl) (sa rfl (sa rfl (sn (sq (sr (sm rfl (s1 (lod rfl (ld_box ts9 ta9 rfl rfl)) ?_)))))))))
 refine c0 (row_Decode_ok p0 p1 _ hq14) wf rfl rfl rfl cb19 rfl (fun _ => rfl) (fun _ => rfl) (sm rfl (s1 (ext rfl rfl) (s1 (ext rfl rfl) (sa rfl (sa rfl (sn (sr (sm rfl (s1 (bi rfl rfl q_i64_neq) ?_)))))))))
 refine sn (cB h0 rfl (fun h0 => ?_) (fun h0 => ?_))
 ·have q := si h0; subst q
  exact sr (sm rfl (sa rfl (sa rfl (sn (SC.ret (finR (wc (e' := [(6, .d (eI (0 : Int))), (7, .d (eI r13))]) [] [] (by kernel_rfl) rfl (by kernel_rfl)) (lresT rfl (lresT rfl lresN)) rfl))))))
 ·refine sk (sq (SC.seqP h0 (fun y => ⟨mk 36 [(0, .d ((eL 7 eApiColumn) p0)), (4, .ref 0 0 0), (5, .ref 1 0 0), (28, .d (eB y))], [.box (.d (eS p1)), .box (.d (eI p2))]⟩) ?_ ?_))
  ·intro u1_16 h1
   refine SC.region (s1 (lod rfl (ld_box ts3 ta3 rfl rfl)) (s1 (bi rfl rfl q_i64_lss) (sm rfl (sp h1 (fun h1 => ?_) (fun h1 => ?_)))))
   ·have q := si h1; subst q
    exact kw rfl (kw rfl (kw rfl (kw rfl (s1 (pkt rfl rfl) (SO.nil ((wq rfl)))))))
   ·have q := si h1; subst q
    exact gw rfl (lod rfl (ld_box ts3 ta3 rfl rfl)) (gw rfl (mv rfl) (gw rfl (len rfl rfl rfl (len_lst un22)) (gw rfl (bi rfl rfl q_i64_geq) (s1 (pkf rfl rfl) (SO.nil ((wq rfl)))))))
  ·rintro y15 h0
   refine cB h0 rfl (fun h0 => ?_) (fun h0 => ?_)
   ·have q := si h0; subst q
    exact sr (sa rfl (sa rfl (sn (SC.ret (finR (wc (e' := [(6, .d (eI (0 : Int))), (7, .d (eI (1 : Int)))]) [] [] (by kernel_rfl) rfl (by kernel_rfl)) (lresT rfl (lresT rfl lresN)) rfl)))))
   ·obtain ⟨⟨r17, r18, r19⟩, hq20, h0⟩ := ob h0
    refine sk (sr (s1 (alo (k := 2) zo3 rfl) (s1 (alo (k := 3) zo3 rfl) (s0 (sto (b := .d (eI (0 : Int))) rfl rfl (sC ts3 rfl rfl rfl rfl rfl rfl)) (s0 (sto (b := .d (eI (0 : Int))) rfl rfl (sC ts3 rfl rfl rfl rfl rfl rfl)) (sn (sr (sm rfl (s1 (lod rfl (ld_box ts9 ta9 rfl rfl)) ?_)))))))))
    refine s1 (mkf rfl rfl) (cq [3, 1, 0, 2] [] (row_read_1_ok p0 p1 (0 : Int) p2 p1 (0 : Int) _ hq20) wf rfl rfl rfl cb60 rfl rfl rfl rfl rfl rfl rfl rfl (sn (sq (sr (s1 (lod rfl (ld_box ts3 ta3 rfl rfl)) (s1 (bi rfl rfl q_i64_eql) (sn (cB h0 rfl (fun h0 => ?_) (fun h0 => ?_)))))))))
    ·have q := si h0; subst q
     exact sr (sa rfl (sa rfl (sn (SC.ret (finR (wc (e' := [(6, .d (eI (0 : Int))), (7, .d (eI (8 : Int)))]) [] [] (by kernel_rfl) rfl (by kernel_rfl)) (lresT rfl (lresT rfl lresN)) rfl)))))
    ·have q := si h0; subst q
     exact sk (sr (s1 (lod rfl (ld_box ts3 ta3 rfl rfl)) (sa rfl (sa rfl (sn (SC.ret (finR (wc (e' := [(6, .d (eI r19)), (7, .d (eI (0 : Int)))]) [] [] (by kernel_rfl) rfl (by kernel_rfl)) (lresT rfl (lresT rfl lresN)) rfl)))))))
end Lv
