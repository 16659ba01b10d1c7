/- Part of the proof of a law: functions and their walks. -/
import Derived.Test.YtjegjjlojnpnoaaGreatDoorXFn0
namespace Lv
open Go Go.Proofs
set_option linter.unusedVariables false
set_option linter.unusedSimpArgs false
set_option linter.unusedSectionVars false
set_option maxRecDepth 100000
variable [BaseTab] [TabOk]
noncomputable def schema_cols (p0 : List ApiPart) : Option ((List Int)) :=
 Option.bind (α := (List Int))
 (Option.bind (α := (List Int))
 (loop (Y := (List Int) × Int) (W := (List Int)) (fun (y47, y48) =>
 bif (decide (y48 < (p0.length : Int))) then
 Option.bind (getI p0 y48) fun v55 =>
 bif decide ((y47.length + [v55.Col].length) * 8 ≤ room) then
 some (Sum.inl ((y47 ++ [v55.Col]), (w64 (y48 + (1 : Int)))))
 else none
 else
 some (Sum.inr y47)) (([] : List Int), (0 : Int)))
 (fun e => some e))
 fun y43 =>
 some y43
theorem schema_cols_ok (p0 : List ApiPart) (r : (List Int)) (h0 : schema_cols p0 = some r) : CallAt Tryz.prog 55 [.d ((eL 2 eApiPart) p0)] [] (.d ((eL 1 eI) r)) [] := by
 unfold schema_cols at h0
 refine fn0 [0] Tryz.func55 rfl rfl rfl rfl rfl ?_
 refine sr (s1 (asg (v := .d .nils) rfl) (sn (sr (s1 (asg (v := .d .nils) rfl) (sn (SC.seqP h0 (fun y => ⟨mk 19 [(3, .slc 0 1 0 y.length none)], [.row 1 (List.map eI y) true]⟩) ?_ ?_))))))
 ·intro u1_44 h1
  obtain ⟨u2_54, h2, h1⟩ := ob h1
  refine sr (sm rfl (s1 (len rfl rfl rfl (len_lst un27)) (sm rfl (sn (SC.blk (SC.loopB h2 (fun y => ⟨mk 19 [(3, .slc 0 1 0 y.1.length none), (6, .d ((eL 2 eApiPart) p0)), (7, .d (eI (p0.length : Int))), (8, .d (eI y.2))], [.row 1 (List.map eI y.1) true]⟩) (Wk.trans (Wk.pushE (σ' := [.row 1 (List.map eI ([] : List Int)) true]) (.row 1 [] true) (fun _ hh => by cases hh) rfl) (Wk.trans (Wk.env (e' := [(3, .slc 0 1 0 (([] : List Int).length) none), (6, .d ((eL 2 eApiPart) p0)), (7, .d (eI (p0.length : Int))), (8, .d (eI (0 : Int)))]) (EW.cons (AW.slcn _ _ _) (EW.cons (AW.refl _) (EW.cons (AW.refl _) (EW.cons (AW.refl _) EW.nil))))) (wq rfl))) ?_))))))
  intro n57
  rintro ⟨y47, y48⟩ w2_53 h3 hv3
  refine sr (s1 (bi rfl rfl q_i64_lss) (sn (sq (cB h3 rfl (fun h3 => ?_) (fun h3 => ?_)))))
  ·obtain ⟨v55, hv55, h3⟩ := ob h3; obtain ⟨hg56, h3⟩ := gd h3
   refine sk (sq (SC.blk (sr (s1 (ial rfl rfl un27 ts48 (getI_some hv55).1 (map_get (getI_some hv55).2) rfl) (s1 (lod (v := .d (eApiPart v55)) rfl (ld_rop ts48 ta48 rfl)) (s1 (alo (k := 1) zo48 rfl) (s0 (sto rfl rfl (sB (d' := .d (eApiPart v55)) ts48 rfl rfl rfl rfl rfl rfl rfl)) (sn (SC.region ?_)))))))))
   refine sm rfl (s1 (far (k := 0) rfl fo48_0 ts3 rfl) (s1 (lod rfl (ld_box ts3 ta3 rfl rfl)) (s1 (bsn (k := 2) (ds := List.map eI [v55.Col]) (off := 0) (l' := [v55.Col].length) rfl un23 ei3 rfl rfl (by rfl) rfl rfl rfl) (s1 (app rfl rfl rfl rfl bc23 (aF (f := eI) (xs := y47) (k := 3) rfl un23 ei3 rfl (el_full (xs := [v55.Col]) rfl) hg56 rfl)) (sa rfl (SO.nil ?_))))))
   change SC _ _ _ _ _
   have q := si h3; subst q
   exact SC.region (s1 (bi rfl rfl q_i64_add) (sm rfl (SO.nil (lf (wc [3] [3] (by kernel_rfl) rfl (by kernel_rfl))))))
  ·have q := si h3; subst q; have q : _ = _ := hv3; subst q; have q := si h1; subst q
   exact SC.exit ((wq rfl))
 ·rintro y43 h0
  have q := si h0; subst q
  exact sr (sm rfl (sa rfl (sn (SC.ret (finR (Wk.trans (Wk.frz (i := 2) (x := .slc 0 1 0 y43.length none) rfl rfl (fF rfl rfl rfl)) (wc (e' := [(2, .d ((eL 1 eI) y43))]) [] [] (by kernel_rfl) rfl (by kernel_rfl))) (lresT rfl lresN) rfl)))))
noncomputable def slices_Index_int_int (p0 : List Int) (p1 : Int) : Option Int :=
 bindE (Y := Unit) (E := Int)
 (Option.bind (α := Unit ⊕ Int)
 (loop (Y := Int) (W := Unit ⊕ Int) (fun y29 =>
 bif (decide (y29 < (p0.length : Int))) then
 Option.bind (getI p0 y29) fun v34 =>
 bif (p1 == v34) then
 some (Sum.inr (Sum.inr y29))
 else
 some (Sum.inl (w64 (y29 + (1 : Int))))
 else
 some (Sum.inr (Sum.inl ()))) (0 : Int))
 (Sum.elim (fun e => some (Sum.inl e)) (fun e => some (Sum.inr e))))
 (fun _ =>
 some (-1 : Int))
 (fun e => some e)
theorem slices_Index_int_int_ok (p0 : List Int) (p1 : Int) (r : Int) (h0 : slices_Index_int_int p0 p1 = some r) : CallAt Tryz.prog 66 [.d ((eL 1 eI) p0), .d (eI p1)] [] (.d (eI r)) [] := by
 unfold slices_Index_int_int at h0
 refine fn0 [0, 1] Tryz.func66 rfl rfl rfl rfl rfl ?_
 refine sr (sa rfl (sn (SC.seqB h0 (fun y => ⟨mk 19 [], []⟩) ?_ ?_)))
 ·intro u1_27 h1 h0
  obtain ⟨u2_33, h2, h1⟩ := ob h1
  refine sr (sm rfl (s1 (len rfl rfl rfl (len_lst un23)) (sm rfl (sn (SC.blk (SC.loopB h2 (fun y => ⟨mk 19 [(0, .d ((eL 1 eI) p0)), (1, .d (eI p1)), (7, .d (eI (p0.length : Int))), (8, .d (eI y))], []⟩) (wq rfl) ?_))))))
  intro n35
  rintro y29 w2_32 h3 hv3
  refine sr (s1 (bi rfl rfl q_i64_lss) (sn (sq (cB h3 rfl (fun h3 => ?_) (fun h3 => ?_)))))
  ·obtain ⟨v34, hv34, h3⟩ := ob h3
   refine sk (sq (SC.blk (sr (sm rfl (sa rfl (sn (sr (sm rfl (sm rfl ?_)))))))))
   refine sm rfl (s1 (ial rfl rfl un23 ts3 (getI_some hv34).1 (map_get (getI_some hv34).2) rfl) (s1 (lod rfl (ld_rop ts3 ta3 rfl)) (s1 (bi rfl rfl q_i64_eql) (sn (cB h3 rfl (fun h3 => ?_) (fun h3 => ?_))))))
   ·have q := si h3; subst q; have q : _ = _ := hv3; subst q; have q := si h1; subst q; have q := si h0; subst q
    exact sr (sm rfl (sa rfl (sn (SC.ret (finR (Wk.refl _) (lresT rfl lresN) rfl)))))
   ·refine SC.skip ?_
    change SC _ _ _ _ _
    have q := si h3; subst q
    exact SC.region (s1 (bi rfl rfl q_i64_add) (sm rfl (SO.nil (lf (wq rfl)))))
  ·have q := si h3; subst q; have q : _ = _ := hv3; subst q; have q := si h1; subst q
   exact SC.exit (lf (wq rfl))
 ·intro _ h0
  have q := si h0; subst q
  exact sr (sa rfl (sn (SC.ret (finR (Wk.refl _) (lresT rfl lresN) rfl))))
noncomputable def slices_Contains_int_int (p0 : List Int) (p1 : Int) : Option Bool :=
 Option.bind (slices_Index_int_int p0 p1) fun r4 =>
 some (decide (r4 ≥ (0 : Int)))
theorem slices_Contains_int_int_ok (p0 : List Int) (p1 : Int) (r : Bool) (h0 : slices_Contains_int_int p0 p1 = some r) : CallAt Tryz.prog 57 [.d ((eL 1 eI) p0), .d (eI p1)] [] (.d (eB r)) [] := by
 unfold slices_Contains_int_int at h0
 refine fn0 [0, 1] Tryz.func57 rfl rfl rfl rfl rfl ?_
 obtain ⟨r4, hq5, h0⟩ := ob h0; have q := si h0; subst q
 refine sr (sa rfl (sn (sr (sm rfl (sm rfl (c0 (slices_Index_int_int_ok p0 p1 _ hq5) wf rfl rfl rfl cb66 rfl (fun _ => rfl) (fun _ => rfl) (s1 (bi rfl rfl q_i64_geq) (sa rfl (sn ?_)))))))))
 exact SC.ret (finR (Wk.refl _) (lresT rfl lresN) rfl)
noncomputable def schema_index_1 (p0 : Int) (p1 : List Int) (p2 : ApiTable) : Option Bool :=
 Option.bind (α := Bool)
 (Option.bind (slices_Contains_int_int p1 p0) fun r18 =>
 bif r18 then
 some true
 else
 Option.bind (slices_Contains_int_int p2.Primary p0) fun r20 =>
 some r20)
 fun y16 =>
 some y16
theorem schema_index_1_ok (p0 : Int) (p1 : List Int) (p2 : ApiTable) (r : Bool) (h0 : schema_index_1 p0 p1 p2 = some r) : CallAt Tryz.prog 56 [.d (eI p0), .ref 0 0 0, .ref 1 0 0] [.box (.d ((eL 1 eI) p1)), .box (.d (eApiTable p2))] (.d (eB r)) [.box (.d ((eL 1 eI) p1)), .box (.d (eApiTable p2))] := by
 unfold schema_index_1 at h0
 refine fn0 [0, 1, 2] Tryz.func56 rfl rfl rfl rfl rfl ?_
 refine sr (sa rfl (sn (SC.seqP h0 (fun y => ⟨mk 14 [(4, .d (eB y))], [.box (.d ((eL 1 eI) p1)), .box (.d (eApiTable p2))]⟩) ?_ ?_)))
 ·intro u1_17 h1
  obtain ⟨r18, hq19, h1⟩ := ob h1
  refine SC.region (s1 (lod rfl (ld_box ts23 ta23 rfl rfl)) (sm rfl (c0 (slices_Contains_int_int_ok p1 p0 _ hq19) wf rfl rfl rfl cb57 rfl (fun _ => rfl) (fun _ => rfl) (sm rfl (sp h1 (fun h1 => ?_) (fun h1 => ?_))))))
  ·have q := si h1; subst q
   exact kw rfl (kw rfl (kw rfl (kw rfl (s1 (pkt rfl rfl) (sa rfl (SO.nil ((wq rfl))))))))
  ·obtain ⟨r20, hq21, h1⟩ := ob h1; have q := si h1; subst q
   exact gw rfl (far (k := 2) rfl fo26_2 ts23 rfl) (gw rfl (lod rfl (ld_box ts23 ta23 rfl rfl)) (gw rfl (mv rfl) (c0 (slices_Contains_int_int_ok p2.Primary p0 _ hq21) (ww rfl) rfl rfl rfl cb57 rfl (fun _ => rfl) (fun _ => rfl) (s1 (pkf rfl rfl) (sa rfl (SO.nil ((wq rfl))))))))
 ·rintro y16 h0
  have q := si h0; subst q
  exact SC.ret (finR (Wk.refl _) (lresT rfl lresN) rfl)
noncomputable def slices_IndexFunc_int_int_2 (p0 : List Int) (p1 : List Int) (p2 : ApiTable) : Option Int :=
 bindE (Y := Unit) (E := Int)
 (Option.bind (α := Unit ⊕ Int)
 (loop (Y := Int) (W := Unit ⊕ Int) (fun y49 =>
 bif (decide (y49 < (p0.length : Int))) then
 Option.bind (getI p0 y49) fun v56 =>
 Option.bind (schema_index_1 v56 p1 p2) fun r57 =>
 bif r57 then
 some (Sum.inr (Sum.inr y49))
 else
 some (Sum.inl (w64 (y49 + (1 : Int))))
 else
 some (Sum.inr (Sum.inl ()))) (0 : Int))
 (Sum.elim (fun e => some (Sum.inl e)) (fun e => some (Sum.inr e))))
 (fun _ =>
 some (-1 : Int))
 (fun e => some e)
theorem slices_IndexFunc_int_int_2_ok (p0 : List Int) (p1 : List Int) (p2 : ApiTable) (r : Int) (h0 : slices_IndexFunc_int_int_2 p0 p1 p2 = some r) : CallAt Tryz.prog 54 [.d ((eL 1 eI) p0), .fn (.func 56) [] [.ref 0 0 0, .ref 1 0 0]] [.box (.d ((eL 1 eI) p1)), .box (.d (eApiTable p2))] (.d (eI r)) [.box (.d ((eL 1 eI) p1)), .box (.d (eApiTable p2))] := by
 unfold slices_IndexFunc_int_int_2 at h0
 refine fn0 [0, 1] Tryz.func54 rfl rfl rfl rfl rfl ?_
 refine sr (sa rfl (sn (SC.seqB h0 (fun y => ⟨mk 19 [], [.box (.d ((eL 1 eI) p1)), .box (.d (eApiTable p2))]⟩) ?_ ?_)))
 ·intro u1_45 h1 h0
  obtain ⟨u2_55, h2, h1⟩ := ob h1
  refine sr (sm rfl (s1 (len rfl rfl rfl (len_lst un23)) (sm rfl (sn (SC.blk (SC.loopB h2 (fun y => ⟨mk 19 [(0, .d ((eL 1 eI) p0)), (1, .fn (.func 56) [] [.ref 0 0 0, .ref 1 0 0]), (7, .d (eI (p0.length : Int))), (8, .d (eI y))], [.box (.d ((eL 1 eI) p1)), .box (.d (eApiTable p2))]⟩) (wq rfl) ?_))))))
  intro n59
  rintro y49 w2_54 h3 hv3
  refine sr (s1 (bi rfl rfl q_i64_lss) (sn (sq (cB h3 rfl (fun h3 => ?_) (fun h3 => ?_)))))
  ·obtain ⟨v56, hv56, h3⟩ := ob h3; obtain ⟨r57, hq58, h3⟩ := ob h3
   refine sk (sq (SC.blk (sr (sm rfl (sa rfl (sn (sr (sm rfl (sm rfl ?_)))))))))
   refine sm rfl (s1 (ial rfl rfl un23 ts3 (getI_some hv56).1 (map_get (getI_some hv56).2) rfl) (s1 (lod rfl (ld_rop ts3 ta3 rfl)) (cq [0, 1] [] (schema_index_1_ok v56 p1 p2 _ hq58) wf rfl rfl rfl cb56 rfl rfl rfl rfl rfl rfl rfl rfl (sn (cB h3 rfl (fun h3 => ?_) (fun h3 => ?_))))))
   ·have q := si h3; subst q; have q : _ = _ := hv3; subst q; have q := si h1; subst q; have q := si h0; subst q
    exact sr (sm rfl (sa rfl (sn (SC.ret (finR (Wk.refl _) (lresT rfl lresN) rfl)))))
   ·refine SC.skip ?_
    change SC _ _ _ _ _
    have q := si h3; subst q
    exact SC.region (s1 (bi rfl rfl q_i64_add) (sm rfl (SO.nil (lf (wq rfl)))))
  ·have q := si h3; subst q; have q : _ = _ := hv3; subst q; have q := si h1; subst q
   exact SC.exit (lf (wq rfl))
 ·intro _ h0
  have q := si h0; subst q
  exact sr (sa rfl (sn (SC.ret (finR (Wk.refl _) (lresT rfl lresN) rfl))))
noncomputable def slices_ContainsFunc_int_int_2 (p0 : List Int) (p1 : List Int) (p2 : ApiTable) : Option Bool :=
 Option.bind (slices_IndexFunc_int_int_2 p0 p1 p2) fun r4 =>
 some (decide (r4 ≥ (0 : Int)))
theorem slices_ContainsFunc_int_int_2_ok (p0 : List Int) (p1 : List Int) (p2 : ApiTable) (r : Bool) (h0 : slices_ContainsFunc_int_int_2 p0 p1 p2 = some r) : CallAt Tryz.prog 36 [.d ((eL 1 eI) p0), .fn (.func 56) [] [.ref 0 0 0, .ref 1 0 0]] [.box (.d ((eL 1 eI) p1)), .box (.d (eApiTable p2))] (.d (eB r)) [.box (.d ((eL 1 eI) p1)), .box (.d (eApiTable p2))] := by
 unfold slices_ContainsFunc_int_int_2 at h0
 refine fn0 [0, 1] Tryz.func36 rfl rfl rfl rfl rfl ?_
 obtain ⟨r4, hq5, h0⟩ := ob h0; have q := si h0; subst q
 refine sr (sa rfl (sn (sr (sm rfl (sm rfl (cq [0, 1] [] (slices_IndexFunc_int_int_2_ok p0 p1 p2 _ hq5) wf rfl rfl rfl cb54 rfl rfl rfl rfl rfl rfl rfl rfl (s1 (bi rfl rfl q_i64_geq) (sa rfl (sn ?_)))))))))
 exact SC.ret (finR (Wk.refl _) (lresT rfl lresN) rfl)
noncomputable def schema_index (p0 : ApiTable) (p1 : ApiIndex) : Option Int :=
 Option.bind (schema_cols p1.Parts) fun r18 =>
 Option.bind (slices_ContainsFunc_int_int_2 p1.Extra r18 p0) fun r20 =>
 Option.bind (α := Bool)
 (bif (decide ((r18.length : Int) < (1 : Int))) then
 some true
 else
 bif (decide ((r18.length : Int) > (4 : Int))) then
 some true
 else
 Option.bind (schema_places (p0.Cols.length : Int) r18) fun r28 =>
 bif (!r28) then
 some true
 else
 Option.bind (schema_places (p0.Cols.length : Int) p1.Extra) fun r30 =>
 bif (!r30) then
 some true
 else
 some r20)
 fun y26 =>
 bif y26 then
 some (1 : Int)
 else
 Option.bind (schema_KeyMax p0.Cols p1.Parts) fun r32 =>
 bif (decide (r32 > (128 : Int))) then
 some (7 : Int)
 else
 some (0 : Int)
theorem schema_index_ok (p0 : ApiTable) (p1 : ApiIndex) (r : Int) (h0 : schema_index p0 p1 = some r) : CallAt Tryz.prog 39 [.d (eApiTable p0), .d (eApiIndex p1)] [] (.d (eI r)) [] := by
 unfold schema_index at h0
 refine fn0 [0, 1] Tryz.func39 rfl rfl rfl rfl rfl ?_
 obtain ⟨r18, hq19, h0⟩ := ob h0; obtain ⟨r20, hq21, h0⟩ := ob h0
 refine sr (s1 (bxo (k := 0) rfl rfl rfl) (s1 (bxo (k := 1) rfl rfl rfl) (sa rfl (sn (sr (s1 (far (k := 1) rfl fo26_1 ts22 rfl) (s1 (lod rfl (ld_box ts22 ta22 rfl rfl)) (s1 (len rfl rfl rfl (len_lst un22)) (sa rfl ?_)))))))))
 refine sn (sr (s1 (far (k := 1) rfl fo29_1 ts27 rfl) (s1 (lod rfl (ld_box ts27 ta27 rfl rfl)) (c0 (schema_cols_ok p1.Parts _ hq19) wf rfl rfl rfl cb55 rfl (fun _ => rfl) (fun _ => rfl) (s1 (alo (k := 2) zo23 rfl) (s0 (sto rfl rfl (sC ts23 rfl rfl rfl rfl rfl rfl)) (sn (sr (s1 (far (k := 2) rfl fo29_2 ts23 rfl) ?_)))))))))
 refine s1 (lod rfl (ld_box ts23 ta23 rfl rfl)) (s1 (mkf rfl rfl) (cq [2, 0] [] (slices_ContainsFunc_int_int_2_ok p1.Extra r18 p0 _ hq21) wf rfl rfl rfl cb36 rfl rfl rfl rfl rfl rfl rfl rfl (sa rfl (sn (sq (SC.blk (SC.seqP h0 (fun y => ⟨mk 50 [(2, .ref 0 0 0), (3, .ref 1 0 0), (18, .d (eB y))], [.box (.d (eApiTable p0)), .box (.d (eApiIndex p1))]⟩) ?_ ?_)))))))
 ·intro u1_27 h1
  refine SC.region (s1 (lod rfl (ld_box ts23 ta23 rfl rfl)) (s1 (len rfl rfl rfl (len_lst un23)) (s1 (bi rfl rfl q_i64_lss) (sm rfl (sp h1 (fun h1 => ?_) (fun h1 => ?_))))))
  ·have q := si h1; subst q
   refine kw rfl (kw rfl (kw rfl (s1 (pkt rfl rfl) (sm rfl (kw rfl (kw rfl (kw rfl (kw rfl (s1 (pkt rfl rfl) ?_)))))))))
   refine sm rfl (kw rfl (kw rfl (kw rfl (kw rfl (kw rfl (s1 (pkt rfl rfl) (sm rfl (kw rfl (s1 (pkt rfl rfl) ?_)))))))))
   exact sa rfl (SO.nil ((wc [0, 1] [0, 1] (by kernel_rfl) rfl (by kernel_rfl))))
  ·refine gw rfl (lod rfl (ld_box ts23 ta23 rfl rfl)) (gw rfl (len rfl rfl rfl (len_lst un23)) (gw rfl (bi rfl rfl q_i64_gtr) (s1 (pkf rfl rfl) (sm rfl (sp h1 (fun h1 => ?_) (fun h1 => ?_))))))
   ·have q := si h1; subst q
    refine kw rfl (kw rfl (kw rfl (kw rfl (s1 (pkt rfl rfl) (sm rfl (kw rfl (kw rfl (kw rfl (kw rfl ?_)))))))))
    exact kw rfl (s1 (pkt rfl rfl) (sm rfl (kw rfl (s1 (pkt rfl rfl) (sa rfl (SO.nil ((wc [0, 1] [0, 1] (by kernel_rfl) rfl (by kernel_rfl)))))))))
   ·obtain ⟨r28, hq29, h1⟩ := ob h1
    refine gw rfl (mv rfl) (gw rfl (lod rfl (ld_box ts23 ta23 rfl rfl)) (c0 (schema_places_ok (p0.Cols.length : Int) r18 _ hq29) (ww rfl) rfl rfl rfl cb35 rfl (fun _ => rfl) (fun _ => rfl) (gw rfl (nt rfl) (s1 (pkf rfl rfl) (sm rfl (sp h1 (fun h1 => ?_) (fun h1 => ?_)))))))
    ·have q := si h1; subst q
     refine kw rfl (kw rfl (kw rfl (kw rfl (kw rfl (s1 (pkt rfl rfl) (sm rfl (kw rfl (s1 (pkt rfl rfl) (sa rfl ?_)))))))))
     exact SO.nil ((wc [0, 1] [0, 1] (by kernel_rfl) rfl (by kernel_rfl)))
    ·obtain ⟨r30, hq31, h1⟩ := ob h1
     refine gw rfl (mv rfl) (gw rfl (far (k := 2) rfl fo29_2 ts23 rfl) (gw rfl (lod rfl (ld_box ts23 ta23 rfl rfl)) (c0 (schema_places_ok (p0.Cols.length : Int) p1.Extra _ hq31) (ww rfl) rfl rfl rfl cb35 rfl (fun _ => rfl) (fun _ => rfl) (gw rfl (nt rfl) (s1 (pkf rfl rfl) (sm rfl (sp h1 (fun h1 => ?_) (fun h1 => ?_))))))))
     ·have q := si h1; subst q
      exact kw rfl (s1 (pkt rfl rfl) (sa rfl (SO.nil ((wc [0, 1] [0, 1] (by kernel_rfl) rfl (by kernel_rfl))))))
     ·have q := si h1; subst q
      exact gw rfl (mv rfl) (s1 (pkf rfl rfl) (sa rfl (SO.nil ((wc [0, 1] [0, 1] (by kernel_rfl) rfl (by kernel_rfl))))))
 ·rintro y26 h0
  refine cB h0 rfl (fun h0 => ?_) (fun h0 => ?_)
  ·have q := si h0; subst q
   exact sr (sa rfl (sn (SC.ret (finR (wc (e' := [(4, .d (eI (1 : Int)))]) [] [] (by kernel_rfl) rfl (by kernel_rfl)) (lresT rfl lresN) rfl))))
  ·obtain ⟨r32, hq33, h0⟩ := ob h0
   refine sr (s1 (far (k := 1) rfl fo26_1 ts22 rfl) (s1 (lod rfl (ld_box ts22 ta22 rfl rfl)) (s1 (far (k := 1) rfl fo29_1 ts27 rfl) (s1 (lod rfl (ld_box ts27 ta27 rfl rfl)) (c0 (schema_KeyMax_ok p0.Cols p1.Parts _ hq33) wf rfl rfl rfl cb17 rfl (fun _ => rfl) (fun _ => rfl) (s1 (bi rfl rfl q_i64_gtr) (sa rfl (sn (cB h0 rfl (fun h0 => ?_) (fun h0 => ?_))))))))))
   ·have q := si h0; subst q
    exact sr (sa rfl (sn (SC.ret (finR (wc (e' := [(4, .d (eI (7 : Int)))]) [] [] (by kernel_rfl) rfl (by kernel_rfl)) (lresT rfl lresN) rfl))))
   ·refine SC.skip ?_
    change SC _ _ _ _ _
    have q := si h0; subst q
    exact sr (sa rfl (sn (SC.ret (finR (wc (e' := [(4, .d (eI (0 : Int)))]) [] [] (by kernel_rfl) rfl (by kernel_rfl)) (lresT rfl lresN) rfl))))
noncomputable def schema_Check (p0 : ApiTable) : Option Int :=
 Option.bind (value_Name p0.Name) fun r73 =>
 bif (!r73) then
 some (1 : Int)
 else
 Option.bind (schema_columns p0.Cols) fun r75 =>
 bif (r75 != (0 : Int)) then
 some r75
 else
 Option.bind (α := Bool)
 (bif (decide ((p0.Primary.length : Int) < (1 : Int))) then
 some true
 else
 bif (decide ((p0.Primary.length : Int) > (4 : Int))) then
 some true
 else
 Option.bind (schema_places (p0.Cols.length : Int) p0.Primary) fun r81 =>
 some (!r81))
 fun y79 =>
 bif y79 then
 some (1 : Int)
 else
 Option.bind (slices_ContainsFunc_int_int_1 p0.Primary p0) fun r83 =>
 bif r83 then
 some (1 : Int)
 else
 Option.bind (α := Bool)
 (Option.bind (schema_RowMax p0.Cols) fun r93 =>
 bif (decide (r93 > (512 : Int))) then
 some true
 else
 Option.bind (schema_up p0.Primary) fun r95 =>
 Option.bind (schema_KeyMax p0.Cols r95) fun r97 =>
 bif (decide (r97 > (128 : Int))) then
 some true
 else
 some (decide ((p0.Indexes.length : Int) > (6 : Int))))
 fun y91 =>
 bif y91 then
 some (7 : Int)
 else
 bindE (Y := Unit) (E := Int)
 (Option.bind (α := Unit ⊕ Int)
 (loop (Y := Int × (List ((List UInt8) × Bool))) (W := Unit ⊕ Int) (fun (y127, y128) =>
 bif (decide (y127 < (p0.Indexes.length : Int))) then
 Option.bind (getI p0.Indexes y127) fun v138 =>
 Option.bind (value_Name v138.Name) fun r139 =>
 bif (!r139) then
 some (Sum.inr (Sum.inr (1 : Int)))
 else
 bif (Option.getD (mget y128 v138.Name) false) then
 some (Sum.inr (Sum.inr (6 : Int)))
 else
 Option.bind (schema_index p0 v138) fun r141 =>
 bif (r141 != (0 : Int)) then
 some (Sum.inr (Sum.inr r141))
 else
 some (Sum.inl ((w64 (y127 + (1 : Int))), (mset y128 v138.Name true)))
 else
 some (Sum.inr (Sum.inl ()))) ((0 : Int), ([] : List ((List UInt8) × Bool))))
 (Sum.elim (fun e => some (Sum.inl e)) (fun e => some (Sum.inr e))))
 (fun _ =>
 some (0 : Int))
 (fun e => some e)
theorem schema_Check_ok (p0 : ApiTable) (r : Int) (h0 : schema_Check p0 = some r) : CallAt Tryz.prog 10 [.d (eApiTable p0)] [] (.d (eI r)) [] := by
 unfold schema_Check at h0
 refine fn0 [0] Tryz.func10 rfl rfl rfl rfl rfl ?_
 obtain ⟨r73, hq74, h0⟩ := ob h0
 refine sr (s1 (bxo (k := 0) rfl rfl rfl) (sa rfl (sn (sq (sr (s1 (far (k := 0) rfl fo26_0 ts9 rfl) (s1 (lod rfl (ld_box ts9 ta9 rfl rfl)) (c0 (value_Name_ok p0.Name _ hq74) wf rfl rfl rfl cb33 rfl (fun _ => rfl) (fun _ => rfl) (s1 (nt rfl) ?_)))))))))
 refine sn (cB h0 rfl (fun h0 => ?_) (fun h0 => ?_))
 ·have q := si h0; subst q
  exact sr (sa rfl (sn (SC.ret (finR (wc (e' := [(2, .d (eI (1 : Int)))]) [] [] (by kernel_rfl) rfl (by kernel_rfl)) (lresT rfl lresN) rfl))))
 ·obtain ⟨r75, hq76, h0⟩ := ob h0
  refine sk (sq (sr (s1 (far (k := 1) rfl fo26_1 ts22 rfl) (s1 (lod rfl (ld_box ts22 ta22 rfl rfl)) (c0 (schema_columns_ok p0.Cols _ hq76) wf rfl rfl rfl cb34 rfl (fun _ => rfl) (fun _ => rfl) (sa rfl (sn (sr (sm rfl ?_)))))))))
  refine s1 (bi rfl rfl q_i64_neq) (sn (cB h0 rfl (fun h0 => ?_) (fun h0 => ?_)))
  ·have q := si h0; subst q
   exact sr (sm rfl (sa rfl (sn (SC.ret (finR (wc (e' := [(2, .d (eI r75))]) [] [] (by kernel_rfl) rfl (by kernel_rfl)) (lresT rfl lresN) rfl)))))
  ·refine sk (sq (SC.seqP h0 (fun y => ⟨mk 88 [(1, .ref 0 0 0), (36, .d (eB y))], [.box (.d (eApiTable p0))]⟩) ?_ ?_))
   ·intro u1_80 h1
    refine SC.region (s1 (far (k := 2) rfl fo26_2 ts23 rfl) (s1 (lod rfl (ld_box ts23 ta23 rfl rfl)) (s1 (len rfl rfl rfl (len_lst un23)) (s1 (bi rfl rfl q_i64_lss) (sm rfl (sp h1 (fun h1 => ?_) (fun h1 => ?_)))))))
    ·have q := si h1; subst q
     refine kw rfl (kw rfl (kw rfl (kw rfl (s1 (pkt rfl rfl) (sm rfl (kw rfl (kw rfl (kw rfl (kw rfl ?_)))))))))
     exact kw rfl (kw rfl (kw rfl (s1 (pkt rfl rfl) (SO.nil ((wq rfl))))))
    ·refine gw rfl (far (k := 2) rfl fo26_2 ts23 rfl) (gw rfl (lod rfl (ld_box ts23 ta23 rfl rfl)) (gw rfl (len rfl rfl rfl (len_lst un23)) (gw rfl (bi rfl rfl q_i64_gtr) (s1 (pkf rfl rfl) (sm rfl (sp h1 (fun h1 => ?_) (fun h1 => ?_)))))))
     ·have q := si h1; subst q
      exact kw rfl (kw rfl (kw rfl (kw rfl (kw rfl (kw rfl (kw rfl (s1 (pkt rfl rfl) (SO.nil ((wq rfl))))))))))
     ·obtain ⟨r81, hq82, h1⟩ := ob h1; have q := si h1; subst q
      exact gw rfl (far (k := 1) rfl fo26_1 ts22 rfl) (gw rfl (lod rfl (ld_box ts22 ta22 rfl rfl)) (gw rfl (len rfl rfl rfl (len_lst un22)) (gw rfl (far (k := 2) rfl fo26_2 ts23 rfl) (gw rfl (lod rfl (ld_box ts23 ta23 rfl rfl)) (c0 (schema_places_ok (p0.Cols.length : Int) p0.Primary _ hq82) (ww rfl) rfl rfl rfl cb35 rfl (fun _ => rfl) (fun _ => rfl) (gw rfl (nt rfl) (s1 (pkf rfl rfl) (SO.nil ((wq rfl))))))))))
   ·rintro y79 h0
    refine cB h0 rfl (fun h0 => ?_) (fun h0 => ?_)
    ·have q := si h0; subst q
     exact sr (sa rfl (sn (SC.ret (finR (wc (e' := [(2, .d (eI (1 : Int)))]) [] [] (by kernel_rfl) rfl (by kernel_rfl)) (lresT rfl lresN) rfl))))
    ·obtain ⟨r83, hq84, h0⟩ := ob h0
     refine sk (sq (sr (s1 (far (k := 2) rfl fo26_2 ts23 rfl) (s1 (lod rfl (ld_box ts23 ta23 rfl rfl)) (s1 (mkf rfl rfl) (cq [0] [] (slices_ContainsFunc_int_int_1_ok p0.Primary p0 _ hq84) wf rfl rfl rfl cb36 rfl rfl rfl rfl rfl rfl rfl rfl (sn (cB h0 rfl (fun h0 => ?_) (fun h0 => ?_)))))))))
     ·have q := si h0; subst q
      exact sr (sa rfl (sn (SC.ret (finR (wc (e' := [(2, .d (eI (1 : Int)))]) [] [] (by kernel_rfl) rfl (by kernel_rfl)) (lresT rfl lresN) rfl))))
     ·refine sk (sq (SC.seqP h0 (fun y => ⟨mk 88 [(1, .ref 0 0 0), (59, .d (eB y))], [.box (.d (eApiTable p0))]⟩) ?_ ?_))
      ·intro u1_92 h1
       obtain ⟨r93, hq94, h1⟩ := ob h1
       refine SC.draws (by kernel_rfl) (t1 ([], false) (far (k := 1) rfl fo26_1 ts22 rfl) rfl (t1 ([0], false) (lod rfl (ld_box ts22 ta22 rfl rfl)) rfl (tc0 (schema_RowMax_ok p0.Cols _ hq94) wf rfl rfl rfl cb12 rfl (fun _ => rfl) (fun _ => rfl) (t1 ([], false) (bi rfl rfl q_i64_gtr) rfl (t1 ([], false) (mv rfl) rfl (tp h1 (fun h1 => ?_) (fun h1 => ?_)))))))
       ·have q := si h1; subst q
        refine jw rfl (jw rfl (jw rfl (jw rfl (jw rfl (jw rfl (jw rfl (t1 ([], false) (pkt rfl rfl) rfl (t1 ([], false) (mv rfl) rfl (jw rfl ?_)))))))))
        refine jw rfl (jw rfl (jw rfl (t1 ([], false) (pkt rfl rfl) rfl (ST.nil (And.intro (by decide +kernel) ?_)))))
        exact (wq rfl)
       ·obtain ⟨r95, hq96, h1⟩ := ob h1; obtain ⟨r97, hq98, h1⟩ := ob h1
        refine u1 ([], false) (ww rfl) (far (k := 1) rfl fo26_1 ts22 rfl) rfl (u1 ([0], false) (ww rfl) (lod rfl (ld_box ts22 ta22 rfl rfl)) rfl (u1 ([], false) (ww rfl) (far (k := 2) rfl fo26_2 ts23 rfl) rfl (u1 ([0], false) (ww rfl) (lod rfl (ld_box ts23 ta23 rfl rfl)) rfl (tc0 (schema_up_ok p0.Primary _ hq96) (ww rfl) rfl rfl rfl cb38 rfl (fun _ => rfl) (fun _ => rfl) (tc0 (schema_KeyMax_ok p0.Cols r95 _ hq98) (ww rfl) rfl rfl rfl cb17 rfl (fun _ => rfl) (fun _ => rfl) (u1 ([], false) (ww rfl) (bi rfl rfl q_i64_gtr) rfl (t1 ([], false) (pkf rfl rfl) rfl (t1 ([], false) (mv rfl) rfl (tp h1 (fun h1 => ?_) (fun h1 => ?_))))))))))
        ·have q := si h1; subst q
         refine jw rfl (jw rfl (jw rfl (jw rfl (t1 ([], false) (pkt rfl rfl) rfl (ST.nil (And.intro (by decide +kernel) ?_))))))
         exact (wq rfl)
        ·have q := si h1; subst q
         refine u1 ([], false) (ww rfl) (far (k := 3) rfl fo26_3 ts24 rfl) rfl (u1 ([0], false) (ww rfl) (lod rfl (ld_box ts24 ta24 rfl rfl)) rfl (u1 ([], false) (ww rfl) (len rfl rfl rfl (len_lst un24)) rfl (u1 ([], false) (ww rfl) (bi rfl rfl q_i64_gtr) rfl (t1 ([], false) (pkf rfl rfl) rfl (ST.nil (And.intro (by decide +kernel) ?_))))))
         exact (wq rfl)
      ·rintro y91 h0
       refine cB h0 rfl (fun h0 => ?_) (fun h0 => ?_)
       ·have q := si h0; subst q
        exact sr (sa rfl (sn (SC.ret (finR (wc (e' := [(2, .d (eI (7 : Int)))]) [] [] (by kernel_rfl) rfl (by kernel_rfl)) (lresT rfl lresN) rfl))))
       ·refine sk (sr (s1 (mkm (f := eS) (g := eB) (i := 1) un69 rfl) (sa rfl (sn (SC.seqB h0 (fun y => ⟨mk 88 [], []⟩) ?_ ?_)))))
        ·intro u1_121 h1 h0
         obtain ⟨u2_137, h2, h1⟩ := ob h1
         refine sr (s1 (far (k := 3) rfl fo26_3 ts24 rfl) (s1 (lod rfl (ld_box ts24 ta24 rfl rfl)) (s1 (len rfl rfl rfl (len_lst un24)) (sm rfl (sn (SC.blk (SC.loopB h2 (fun y => ⟨mk 88 [(1, .ref 0 0 0), (4, .mapr 1), (62, .d ((eL 6 eApiIndex) p0.Indexes)), (63, .d (eI (p0.Indexes.length : Int))), (64, .d (eI y.1))], [.box (.d (eApiTable p0)), .map (List.map (eM eS eB) y.2)]⟩) (wq rfl) ?_)))))))
         intro n143
         rintro ⟨y127, y128⟩ w2_136 h3 hv3
         refine sr (s1 (bi rfl rfl q_i64_lss) (sn (sq (cB h3 rfl (fun h3 => ?_) (fun h3 => ?_)))))
         ·obtain ⟨v138, hv138, h3⟩ := ob h3; obtain ⟨r139, hq140, h3⟩ := ob h3
          refine sk (sq (SC.blk (sr (s1 (ial rfl rfl un24 ts29 (getI_some hv138).1 (map_get (getI_some hv138).2) rfl) (s1 (lod (v := .d (eApiIndex v138)) rfl (ld_rop ts29 ta29 rfl)) (s1 (alo (k := 2) zo29 rfl) (s0 (sto rfl rfl (sB (d' := .d (eApiIndex v138)) ts29 rfl rfl rfl rfl rfl rfl rfl)) (sn (sq ?_)))))))))
          refine SC.blk (sr (s1 (far (k := 0) rfl fo29_0 ts9 rfl) (s1 (lod rfl (ld_box ts9 ta9 rfl rfl)) (c0 (value_Name_ok v138.Name _ hq140) wf rfl rfl rfl cb33 rfl (fun _ => rfl) (fun _ => rfl) (s1 (nt rfl) (sa rfl (sn (cB h3 rfl (fun h3 => ?_) (fun h3 => ?_)))))))))
          ·have q := si h3; subst q; have q : _ = _ := hv3; subst q; have q := si h1; subst q; have q := si h0; subst q
           exact sr (sa rfl (sn (SC.ret (finR (wc (e' := [(2, .d (eI (1 : Int)))]) [] [] (by kernel_rfl) rfl (by kernel_rfl)) (lresT rfl lresN) rfl))))
          ·refine sr (sm rfl (s1 (far (k := 0) rfl fo29_0 ts9 rfl) (s1 (lod rfl (ld_box ts9 ta9 rfl rfl)) (s1 (mlk (f := eS) (g := eB) (k := v138.Name) (v := false) kq_str rfl rfl un69 un9 rfl zo4 rfl) (sa rfl (sn (cB h3 rfl (fun h3 => ?_) (fun h3 => ?_))))))))
           ·have q := si h3; subst q; have q : _ = _ := hv3; subst q; have q := si h1; subst q; have q := si h0; subst q
            exact sr (sa rfl (sn (SC.ret (finR (wc (e' := [(2, .d (eI (6 : Int)))]) [] [] (by kernel_rfl) rfl (by kernel_rfl)) (lresT rfl lresN) rfl))))
           ·refine SC.skip ?_
            change SC _ _ _ _ _
            obtain ⟨r141, hq142, h3⟩ := ob h3
            refine sr (sm rfl (s1 (far (k := 0) rfl fo29_0 ts9 rfl) (s1 (lod rfl (ld_box ts9 ta9 rfl rfl)) (s0 (mpu (f := eS) (g := eB) (k := v138.Name) (v := true) kq_str rfl rfl rfl rfl un69 un9 rfl rfl rfl) (sn (sr (s1 (lod (v := .d (eApiTable p0)) rfl (ld_box ts26 ta26 rfl rfl)) (s1 (lod (v := .d (eApiIndex v138)) rfl (ld_box ts29 ta29 rfl rfl)) (c0 (schema_index_ok p0 v138 _ hq142) wf rfl rfl rfl cb39 rfl (fun _ => rfl) (fun _ => rfl) ?_)))))))))
            refine sa rfl (sn (sr (sm rfl (s1 (bi rfl rfl q_i64_neq) (sn (cB h3 rfl (fun h3 => ?_) (fun h3 => ?_)))))))
            ·have q := si h3; subst q; have q : _ = _ := hv3; subst q; have q := si h1; subst q; have q := si h0; subst q
             exact sr (sm rfl (sa rfl (sn (SC.ret (finR (wc (e' := [(2, .d (eI r141))]) [] [] (by kernel_rfl) rfl (by kernel_rfl)) (lresT rfl lresN) rfl)))))
            ·refine SC.skip ?_
             change SC _ _ _ _ _
             have q := si h3; subst q
             exact SC.region (s1 (bi rfl rfl q_i64_add) (sm rfl (SO.nil (lf (wc [0, 1] [0, 1] (by kernel_rfl) rfl (by kernel_rfl))))))
         ·have q := si h3; subst q; have q : _ = _ := hv3; subst q; have q := si h1; subst q
          exact SC.exit (lf (wc [] [] (by kernel_rfl) rfl (by kernel_rfl)))
        ·intro _ h0
         have q := si h0; subst q
         exact sr (sa rfl (sn (SC.ret (finR (Wk.refl _) (lresT rfl lresN) rfl))))
noncomputable def law17_awake : Option Bool :=
 Option.bind law17_people fun _ =>
 Option.bind (schema_Entry (ApiTable.mk ([112, 101, 111, 112, 108, 101] : List UInt8) [(ApiColumn.mk ([105, 100] : List UInt8) (1 : Int) (0 : Int) false (ApiValue.mk (1 : Int) (0 : UInt64) ([] : List UInt8))), (ApiColumn.mk ([110, 97, 109, 101] : List UInt8) (5 : Int) (4 : Int) true (ApiValue.mk (0 : Int) (0 : UInt64) ([] : List UInt8))), (ApiColumn.mk ([97, 103, 101] : List UInt8) (2 : Int) (0 : Int) false (ApiValue.mk (2 : Int) (0 : UInt64) ([] : List UInt8)))] [(0 : Int)] ([] : List ApiIndex) (0 : Int)) (ApiIndex.mk ([98, 121, 95, 110, 97, 109, 101] : List UInt8) [(ApiPart.mk (1 : Int) true)] [(2 : Int)] false false (0 : Int)) [(ApiValue.mk (1 : Int) (1 : UInt64) ([] : List UInt8)), (ApiValue.mk (5 : Int) (0 : UInt64) ([97] : List UInt8)), (ApiValue.mk (2 : Int) (7 : UInt64) ([] : List UInt8))]) fun (r21, r22) =>
 Option.bind (α := Bool)
 (Option.bind (schema_Check (ApiTable.mk ([112, 101, 111, 112, 108, 101] : List UInt8) [(ApiColumn.mk ([105, 100] : List UInt8) (1 : Int) (0 : Int) false (ApiValue.mk (1 : Int) (0 : UInt64) ([] : List UInt8))), (ApiColumn.mk ([110, 97, 109, 101] : List UInt8) (5 : Int) (4 : Int) true (ApiValue.mk (0 : Int) (0 : UInt64) ([] : List UInt8))), (ApiColumn.mk ([97, 103, 101] : List UInt8) (2 : Int) (0 : Int) false (ApiValue.mk (2 : Int) (0 : UInt64) ([] : List UInt8)))] [(0 : Int)] ([] : List ApiIndex) (0 : Int))) fun r32 =>
 bif (r32 == (0 : Int)) then
 Option.bind (schema_Check (ApiTable.mk ([112, 101, 111, 112, 108, 101] : List UInt8) [(ApiColumn.mk ([105, 100] : List UInt8) (1 : Int) (0 : Int) false (ApiValue.mk (1 : Int) (0 : UInt64) ([] : List UInt8))), (ApiColumn.mk ([110, 97, 109, 101] : List UInt8) (5 : Int) (4 : Int) true (ApiValue.mk (0 : Int) (0 : UInt64) ([] : List UInt8))), (ApiColumn.mk ([97, 103, 101] : List UInt8) (2 : Int) (0 : Int) false (ApiValue.mk (2 : Int) (0 : UInt64) ([] : List UInt8)))] [(1 : Int)] ([] : List ApiIndex) (0 : Int))) fun r34 =>
 bif (r34 == (1 : Int)) then
 Option.bind (schema_RowMax [(ApiColumn.mk ([105, 100] : List UInt8) (1 : Int) (0 : Int) false (ApiValue.mk (1 : Int) (0 : UInt64) ([] : List UInt8))), (ApiColumn.mk ([110, 97, 109, 101] : List UInt8) (5 : Int) (4 : Int) true (ApiValue.mk (0 : Int) (0 : UInt64) ([] : List UInt8))), (ApiColumn.mk ([97, 103, 101] : List UInt8) (2 : Int) (0 : Int) false (ApiValue.mk (2 : Int) (0 : UInt64) ([] : List UInt8)))]) fun r36 =>
 bif (r36 == (26 : Int)) then
 bif (r21 == (0 : Int)) then
 bif (r22.Key == ([254, 158, 255, 255, 1, 128, 0, 0, 0, 0, 0, 0, 1] : List UInt8)) then
 some (r22.Val == ([1, 0, 0, 0, 0, 0, 0, 0, 0, 7] : List UInt8))
 else
 some false
 else
 some false
 else
 some false
 else
 some false
 else
 some false)
 fun y30 =>
 some y30
theorem law17_awake_ok (r : Bool) (h0 : law17_awake = some r) : CallAt Tryz.prog 5 [] [] (.d (eB r)) [] := by
 unfold law17_awake at h0
 refine fn0 [] Tryz.func5 rfl rfl rfl rfl rfl ?_
 obtain ⟨_, hq20, h0⟩ := ob h0; obtain ⟨⟨r21, r22⟩, hq23, h0⟩ := ob h0
 refine sr (sa rfl (sn (sr (cq [] [0, 1, 2] (law17_people_ok _ hq20) wf rfl rfl rfl cb20 rfl rfl rfl rfl rfl rfl rfl rfl (s1 (alo (k := 3) zo26 rfl) (s0 (sto rfl rfl (sB (d' := .agg [.d (eS ([112, 101, 111, 112, 108, 101] : List UInt8)), .slc 1 7 0 ([(ApiColumn.mk ([105, 100] : List UInt8) (1 : Int) (0 : Int) false (ApiValue.mk (1 : Int) (0 : UInt64) ([] : List UInt8))), (ApiColumn.mk ([110, 97, 109, 101] : List UInt8) (5 : Int) (4 : Int) true (ApiValue.mk (0 : Int) (0 : UInt64) ([] : List UInt8))), (ApiColumn.mk ([97, 103, 101] : List UInt8) (2 : Int) (0 : Int) false (ApiValue.mk (2 : Int) (0 : UInt64) ([] : List UInt8)))].length) none, .slc 2 1 0 ([(0 : Int)].length) none, .d .nils, .d (eI (0 : Int))]) ts26 rfl rfl rfl rfl rfl rfl rfl)) (sn (sr (s1 (bld rfl (bd48_0_1 (1 : Int) true)) ?_)))))))))
 refine s1 (bsn (k := 4) (ds := List.map eApiPart [(ApiPart.mk (1 : Int) true)]) (off := 0) (l' := [(ApiPart.mk (1 : Int) true)].length) rfl un27 ei48 rfl rfl (by rfl) rfl rfl rfl) (s1 (bsn (k := 5) (ds := List.map eI [(2 : Int)]) (off := 0) (l' := [(2 : Int)].length) rfl un23 ei3 rfl rfl (by rfl) rfl rfl rfl) (s1 (bld rfl (bd29_0_1_2 ([98, 121, 95, 110, 97, 109, 101] : List UInt8))) (s1 (alo (k := 6) zo29 rfl) (s0 (sto rfl rfl (sB (d' := .agg [.d (eS ([98, 121, 95, 110, 97, 109, 101] : List UInt8)), .slc 4 2 0 ([(ApiPart.mk (1 : Int) true)].length) none, .slc 5 1 0 ([(2 : Int)].length) none, .d (eB false), .d (eB false), .d (eI (0 : Int))]) ts29 rfl rfl rfl rfl rfl rfl rfl)) (sn (sr (s1 (lod (v := .agg [.d (eS ([112, 101, 111, 112, 108, 101] : List UInt8)), .slc 1 7 0 ([(ApiColumn.mk ([105, 100] : List UInt8) (1 : Int) (0 : Int) false (ApiValue.mk (1 : Int) (0 : UInt64) ([] : List UInt8))), (ApiColumn.mk ([110, 97, 109, 101] : List UInt8) (5 : Int) (4 : Int) true (ApiValue.mk (0 : Int) (0 : UInt64) ([] : List UInt8))), (ApiColumn.mk ([97, 103, 101] : List UInt8) (2 : Int) (0 : Int) false (ApiValue.mk (2 : Int) (0 : UInt64) ([] : List UInt8)))].length) none, .slc 2 1 0 ([(0 : Int)].length) none, .d .nils, .d (eI (0 : Int))]) rfl (ld_box ts26 ta26 rfl rfl)) (s1 (lod (v := .agg [.d (eS ([98, 121, 95, 110, 97, 109, 101] : List UInt8)), .slc 4 2 0 ([(ApiPart.mk (1 : Int) true)].length) none, .slc 5 1 0 ([(2 : Int)].length) none, .d (eB false), .d (eB false), .d (eI (0 : Int))]) rfl (ld_box ts29 ta29 rfl rfl)) ?_))))))))
 refine s1 (bld rfl (bd40_0_1 (1 : Int) (1 : UInt64))) (s1 (bld rfl (bd40_0_2 (5 : Int) ([97] : List UInt8))) (s1 (bld rfl (bd40_0_1 (2 : Int) (7 : UInt64))) (s1 (bsn (k := 7) (ds := List.map eApiValue [(ApiValue.mk (1 : Int) (1 : UInt64) ([] : List UInt8)), (ApiValue.mk (5 : Int) (0 : UInt64) ([97] : List UInt8)), (ApiValue.mk (2 : Int) (7 : UInt64) ([] : List UInt8))]) (off := 0) (l' := [(ApiValue.mk (1 : Int) (1 : UInt64) ([] : List UInt8)), (ApiValue.mk (5 : Int) (0 : UInt64) ([97] : List UInt8)), (ApiValue.mk (2 : Int) (7 : UInt64) ([] : List UInt8))].length) rfl un55 ei40 rfl rfl (by rfl) rfl rfl rfl) (cq (args' := [.agg [.d (eS ([112, 101, 111, 112, 108, 101] : List UInt8)), .slc 0 7 0 ([(ApiColumn.mk ([105, 100] : List UInt8) (1 : Int) (0 : Int) false (ApiValue.mk (1 : Int) (0 : UInt64) ([] : List UInt8))), (ApiColumn.mk ([110, 97, 109, 101] : List UInt8) (5 : Int) (4 : Int) true (ApiValue.mk (0 : Int) (0 : UInt64) ([] : List UInt8))), (ApiColumn.mk ([97, 103, 101] : List UInt8) (2 : Int) (0 : Int) false (ApiValue.mk (2 : Int) (0 : UInt64) ([] : List UInt8)))].length) none, .slc 1 1 0 ([(0 : Int)].length) none, .d .nils, .d (eI (0 : Int))], .agg [.d (eS ([98, 121, 95, 110, 97, 109, 101] : List UInt8)), .slc 2 2 0 ([(ApiPart.mk (1 : Int) true)].length) none, .slc 3 1 0 ([(2 : Int)].length) none, .d (eB false), .d (eB false), .d (eI (0 : Int))], .slc 4 3 0 ([(ApiValue.mk (1 : Int) (1 : UInt64) ([] : List UInt8)), (ApiValue.mk (5 : Int) (0 : UInt64) ([97] : List UInt8)), (ApiValue.mk (2 : Int) (7 : UInt64) ([] : List UInt8))].length) none]) (σc := [.row 7 (List.map eApiColumn [(ApiColumn.mk ([105, 100] : List UInt8) (1 : Int) (0 : Int) false (ApiValue.mk (1 : Int) (0 : UInt64) ([] : List UInt8))), (ApiColumn.mk ([110, 97, 109, 101] : List UInt8) (5 : Int) (4 : Int) true (ApiValue.mk (0 : Int) (0 : UInt64) ([] : List UInt8))), (ApiColumn.mk ([97, 103, 101] : List UInt8) (2 : Int) (0 : Int) false (ApiValue.mk (2 : Int) (0 : UInt64) ([] : List UInt8)))]) true, .row 1 (List.map eI [(0 : Int)]) true, .row 2 (List.map eApiPart [(ApiPart.mk (1 : Int) true)]) true, .row 1 (List.map eI [(2 : Int)]) true, .row 3 (List.map eApiValue [(ApiValue.mk (1 : Int) (1 : UInt64) ([] : List UInt8)), (ApiValue.mk (5 : Int) (0 : UInt64) ([97] : List UInt8)), (ApiValue.mk (2 : Int) (7 : UInt64) ([] : List UInt8))]) true]) [1, 2, 4, 5, 7] [8] (CallAt.frz (ArgF.frzw (y := .d (eApiTable (ApiTable.mk ([112, 101, 111, 112, 108, 101] : List UInt8) [(ApiColumn.mk ([105, 100] : List UInt8) (1 : Int) (0 : Int) false (ApiValue.mk (1 : Int) (0 : UInt64) ([] : List UInt8))), (ApiColumn.mk ([110, 97, 109, 101] : List UInt8) (5 : Int) (4 : Int) true (ApiValue.mk (0 : Int) (0 : UInt64) ([] : List UInt8))), (ApiColumn.mk ([97, 103, 101] : List UInt8) (2 : Int) (0 : Int) false (ApiValue.mk (2 : Int) (0 : UInt64) ([] : List UInt8)))] [(0 : Int)] ([] : List ApiIndex) (0 : Int)))) rfl (frzs_d rfl (frzs_slc (fF rfl rfl rfl) (frzs_slc (fF rfl rfl rfl) (frzs_d rfl (frzs_d rfl frzs_nil))))) (AW.aggd rfl (AWs.cons (AW.refl _) (AWs.cons (AW.refl _) (AWs.cons (AW.refl _) (AWs.cons (AW.nl _) (AWs.cons (AW.refl _) AWs.nil)))))) (ArgF.frzw (y := .d (eApiIndex (ApiIndex.mk ([98, 121, 95, 110, 97, 109, 101] : List UInt8) [(ApiPart.mk (1 : Int) true)] [(2 : Int)] false false (0 : Int)))) rfl (frzs_d rfl (frzs_slc (fF rfl rfl rfl) (frzs_slc (fF rfl rfl rfl) (frzs_d rfl (frzs_d rfl (frzs_d rfl frzs_nil)))))) (AW.aggd rfl (AWs.cons (AW.refl _) (AWs.cons (AW.refl _) (AWs.cons (AW.refl _) (AWs.cons (AW.refl _) (AWs.cons (AW.refl _) (AWs.cons (AW.refl _) AWs.nil))))))) (ArgF.frz (fF rfl rfl rfl) (ArgF.nil _)))) (fq [] [5] (schema_Entry_ok (ApiTable.mk ([112, 101, 111, 112, 108, 101] : List UInt8) [(ApiColumn.mk ([105, 100] : List UInt8) (1 : Int) (0 : Int) false (ApiValue.mk (1 : Int) (0 : UInt64) ([] : List UInt8))), (ApiColumn.mk ([110, 97, 109, 101] : List UInt8) (5 : Int) (4 : Int) true (ApiValue.mk (0 : Int) (0 : UInt64) ([] : List UInt8))), (ApiColumn.mk ([97, 103, 101] : List UInt8) (2 : Int) (0 : Int) false (ApiValue.mk (2 : Int) (0 : UInt64) ([] : List UInt8)))] [(0 : Int)] ([] : List ApiIndex) (0 : Int)) (ApiIndex.mk ([98, 121, 95, 110, 97, 109, 101] : List UInt8) [(ApiPart.mk (1 : Int) true)] [(2 : Int)] false false (0 : Int)) [(ApiValue.mk (1 : Int) (1 : UInt64) ([] : List UInt8)), (ApiValue.mk (5 : Int) (0 : UInt64) ([97] : List UInt8)), (ApiValue.mk (2 : Int) (7 : UInt64) ([] : List UInt8))] _ hq23) rfl rfl rfl rfl rfl rfl rfl rfl)) wf rfl rfl rfl cb21 rfl rfl rfl rfl rfl rfl rfl rfl ?_))))
 refine sm rfl (s1 (ext rfl rfl) (s1 (ext rfl rfl) (s1 (alo (k := 9) zo52 rfl) (s0 (sto rfl rfl (sB (d' := .d (eApiPair r22)) ts52 rfl rfl rfl rfl rfl rfl rfl)) (sa rfl (sn (sr (s1 (lod (v := .agg [.d (eS ([112, 101, 111, 112, 108, 101] : List UInt8)), .slc 1 7 0 ([(ApiColumn.mk ([105, 100] : List UInt8) (1 : Int) (0 : Int) false (ApiValue.mk (1 : Int) (0 : UInt64) ([] : List UInt8))), (ApiColumn.mk ([110, 97, 109, 101] : List UInt8) (5 : Int) (4 : Int) true (ApiValue.mk (0 : Int) (0 : UInt64) ([] : List UInt8))), (ApiColumn.mk ([97, 103, 101] : List UInt8) (2 : Int) (0 : Int) false (ApiValue.mk (2 : Int) (0 : UInt64) ([] : List UInt8)))].length) none, .slc 2 1 0 ([(0 : Int)].length) none, .d .nils, .d (eI (0 : Int))]) rfl (ld_box ts26 ta26 rfl rfl)) (s1 (alo (k := 10) zo26 rfl) ?_)))))))))
 refine s0 (sto rfl rfl (sB (d' := .agg [.d (eS ([112, 101, 111, 112, 108, 101] : List UInt8)), .slc 1 7 0 ([(ApiColumn.mk ([105, 100] : List UInt8) (1 : Int) (0 : Int) false (ApiValue.mk (1 : Int) (0 : UInt64) ([] : List UInt8))), (ApiColumn.mk ([110, 97, 109, 101] : List UInt8) (5 : Int) (4 : Int) true (ApiValue.mk (0 : Int) (0 : UInt64) ([] : List UInt8))), (ApiColumn.mk ([97, 103, 101] : List UInt8) (2 : Int) (0 : Int) false (ApiValue.mk (2 : Int) (0 : UInt64) ([] : List UInt8)))].length) none, .slc 2 1 0 ([(0 : Int)].length) none, .d .nils, .d (eI (0 : Int))]) ts26 rfl rfl rfl rfl rfl rfl rfl)) (sn (sr (s1 (bsn (k := 11) (ds := List.map eI [(1 : Int)]) (off := 0) (l' := [(1 : Int)].length) rfl un23 ei3 rfl rfl (by rfl) rfl rfl rfl) (s1 (far (k := 2) rfl fo26_2 ts23 rfl) (s0 (sto rfl rfl (sB (d' := .agg [.d (eS ([112, 101, 111, 112, 108, 101] : List UInt8)), .slc 1 7 0 ([(ApiColumn.mk ([105, 100] : List UInt8) (1 : Int) (0 : Int) false (ApiValue.mk (1 : Int) (0 : UInt64) ([] : List UInt8))), (ApiColumn.mk ([110, 97, 109, 101] : List UInt8) (5 : Int) (4 : Int) true (ApiValue.mk (0 : Int) (0 : UInt64) ([] : List UInt8))), (ApiColumn.mk ([97, 103, 101] : List UInt8) (2 : Int) (0 : Int) false (ApiValue.mk (2 : Int) (0 : UInt64) ([] : List UInt8)))].length) none, .slc 11 1 0 ([(1 : Int)].length) none, .d .nils, .d (eI (0 : Int))]) ts23 rfl rfl rfl rfl rfl rfl rfl)) (sn (SC.seqP h0 (fun y => ⟨mk 52 [(0, .d (eB y))], []⟩) ?_ ?_)))))))
 ·intro u1_31 h1
  obtain ⟨r32, hq33, h1⟩ := ob h1
  refine SC.region (s1 (lod (v := .agg [.d (eS ([112, 101, 111, 112, 108, 101] : List UInt8)), .slc 1 7 0 ([(ApiColumn.mk ([105, 100] : List UInt8) (1 : Int) (0 : Int) false (ApiValue.mk (1 : Int) (0 : UInt64) ([] : List UInt8))), (ApiColumn.mk ([110, 97, 109, 101] : List UInt8) (5 : Int) (4 : Int) true (ApiValue.mk (0 : Int) (0 : UInt64) ([] : List UInt8))), (ApiColumn.mk ([97, 103, 101] : List UInt8) (2 : Int) (0 : Int) false (ApiValue.mk (2 : Int) (0 : UInt64) ([] : List UInt8)))].length) none, .slc 2 1 0 ([(0 : Int)].length) none, .d .nils, .d (eI (0 : Int))]) rfl (ld_box ts26 ta26 rfl rfl)) (cq (args' := [.agg [.d (eS ([112, 101, 111, 112, 108, 101] : List UInt8)), .slc 0 7 0 ([(ApiColumn.mk ([105, 100] : List UInt8) (1 : Int) (0 : Int) false (ApiValue.mk (1 : Int) (0 : UInt64) ([] : List UInt8))), (ApiColumn.mk ([110, 97, 109, 101] : List UInt8) (5 : Int) (4 : Int) true (ApiValue.mk (0 : Int) (0 : UInt64) ([] : List UInt8))), (ApiColumn.mk ([97, 103, 101] : List UInt8) (2 : Int) (0 : Int) false (ApiValue.mk (2 : Int) (0 : UInt64) ([] : List UInt8)))].length) none, .slc 1 1 0 ([(0 : Int)].length) none, .d .nils, .d (eI (0 : Int))]]) (σc := [.row 7 (List.map eApiColumn [(ApiColumn.mk ([105, 100] : List UInt8) (1 : Int) (0 : Int) false (ApiValue.mk (1 : Int) (0 : UInt64) ([] : List UInt8))), (ApiColumn.mk ([110, 97, 109, 101] : List UInt8) (5 : Int) (4 : Int) true (ApiValue.mk (0 : Int) (0 : UInt64) ([] : List UInt8))), (ApiColumn.mk ([97, 103, 101] : List UInt8) (2 : Int) (0 : Int) false (ApiValue.mk (2 : Int) (0 : UInt64) ([] : List UInt8)))]) false, .row 1 (List.map eI [(0 : Int)]) false]) [1, 2] [] (CallAt.frz (ArgF.frzw (y := .d (eApiTable (ApiTable.mk ([112, 101, 111, 112, 108, 101] : List UInt8) [(ApiColumn.mk ([105, 100] : List UInt8) (1 : Int) (0 : Int) false (ApiValue.mk (1 : Int) (0 : UInt64) ([] : List UInt8))), (ApiColumn.mk ([110, 97, 109, 101] : List UInt8) (5 : Int) (4 : Int) true (ApiValue.mk (0 : Int) (0 : UInt64) ([] : List UInt8))), (ApiColumn.mk ([97, 103, 101] : List UInt8) (2 : Int) (0 : Int) false (ApiValue.mk (2 : Int) (0 : UInt64) ([] : List UInt8)))] [(0 : Int)] ([] : List ApiIndex) (0 : Int)))) rfl (frzs_d rfl (frzs_slc (fF rfl rfl rfl) (frzs_slc (fF rfl rfl rfl) (frzs_d rfl (frzs_d rfl frzs_nil))))) (AW.aggd rfl (AWs.cons (AW.refl _) (AWs.cons (AW.refl _) (AWs.cons (AW.refl _) (AWs.cons (AW.nl _) (AWs.cons (AW.refl _) AWs.nil)))))) (ArgF.nil _)) (fq [] [] (schema_Check_ok (ApiTable.mk ([112, 101, 111, 112, 108, 101] : List UInt8) [(ApiColumn.mk ([105, 100] : List UInt8) (1 : Int) (0 : Int) false (ApiValue.mk (1 : Int) (0 : UInt64) ([] : List UInt8))), (ApiColumn.mk ([110, 97, 109, 101] : List UInt8) (5 : Int) (4 : Int) true (ApiValue.mk (0 : Int) (0 : UInt64) ([] : List UInt8))), (ApiColumn.mk ([97, 103, 101] : List UInt8) (2 : Int) (0 : Int) false (ApiValue.mk (2 : Int) (0 : UInt64) ([] : List UInt8)))] [(0 : Int)] ([] : List ApiIndex) (0 : Int)) _ hq33) rfl rfl rfl rfl rfl rfl rfl rfl)) wf rfl rfl rfl cb10 rfl rfl rfl rfl rfl rfl rfl rfl ?_))
  refine s1 (bi rfl rfl q_i64_eql) (sm rfl (sp h1 (fun h1 => ?_) (fun h1 => ?_)))
  ·obtain ⟨r34, hq35, h1⟩ := ob h1
   refine gw rfl (lod (v := .agg [.d (eS ([112, 101, 111, 112, 108, 101] : List UInt8)), .slc 1 7 0 ([(ApiColumn.mk ([105, 100] : List UInt8) (1 : Int) (0 : Int) false (ApiValue.mk (1 : Int) (0 : UInt64) ([] : List UInt8))), (ApiColumn.mk ([110, 97, 109, 101] : List UInt8) (5 : Int) (4 : Int) true (ApiValue.mk (0 : Int) (0 : UInt64) ([] : List UInt8))), (ApiColumn.mk ([97, 103, 101] : List UInt8) (2 : Int) (0 : Int) false (ApiValue.mk (2 : Int) (0 : UInt64) ([] : List UInt8)))].length) none, .slc 11 1 0 ([(1 : Int)].length) none, .d .nils, .d (eI (0 : Int))]) rfl (ld_box ts26 ta26 rfl rfl)) (cq (args' := [.agg [.d (eS ([112, 101, 111, 112, 108, 101] : List UInt8)), .slc 0 7 0 ([(ApiColumn.mk ([105, 100] : List UInt8) (1 : Int) (0 : Int) false (ApiValue.mk (1 : Int) (0 : UInt64) ([] : List UInt8))), (ApiColumn.mk ([110, 97, 109, 101] : List UInt8) (5 : Int) (4 : Int) true (ApiValue.mk (0 : Int) (0 : UInt64) ([] : List UInt8))), (ApiColumn.mk ([97, 103, 101] : List UInt8) (2 : Int) (0 : Int) false (ApiValue.mk (2 : Int) (0 : UInt64) ([] : List UInt8)))].length) none, .slc 1 1 0 ([(1 : Int)].length) none, .d .nils, .d (eI (0 : Int))]]) (σc := [.row 7 (List.map eApiColumn [(ApiColumn.mk ([105, 100] : List UInt8) (1 : Int) (0 : Int) false (ApiValue.mk (1 : Int) (0 : UInt64) ([] : List UInt8))), (ApiColumn.mk ([110, 97, 109, 101] : List UInt8) (5 : Int) (4 : Int) true (ApiValue.mk (0 : Int) (0 : UInt64) ([] : List UInt8))), (ApiColumn.mk ([97, 103, 101] : List UInt8) (2 : Int) (0 : Int) false (ApiValue.mk (2 : Int) (0 : UInt64) ([] : List UInt8)))]) false, .row 1 (List.map eI [(1 : Int)]) true]) [1, 11] [] (CallAt.frz (ArgF.frzw (y := .d (eApiTable (ApiTable.mk ([112, 101, 111, 112, 108, 101] : List UInt8) [(ApiColumn.mk ([105, 100] : List UInt8) (1 : Int) (0 : Int) false (ApiValue.mk (1 : Int) (0 : UInt64) ([] : List UInt8))), (ApiColumn.mk ([110, 97, 109, 101] : List UInt8) (5 : Int) (4 : Int) true (ApiValue.mk (0 : Int) (0 : UInt64) ([] : List UInt8))), (ApiColumn.mk ([97, 103, 101] : List UInt8) (2 : Int) (0 : Int) false (ApiValue.mk (2 : Int) (0 : UInt64) ([] : List UInt8)))] [(1 : Int)] ([] : List ApiIndex) (0 : Int)))) rfl (frzs_d rfl (frzs_slc (fF rfl rfl rfl) (frzs_slc (fF rfl rfl rfl) (frzs_d rfl (frzs_d rfl frzs_nil))))) (AW.aggd rfl (AWs.cons (AW.refl _) (AWs.cons (AW.refl _) (AWs.cons (AW.refl _) (AWs.cons (AW.nl _) (AWs.cons (AW.refl _) AWs.nil)))))) (ArgF.nil _)) (fq [] [] (schema_Check_ok (ApiTable.mk ([112, 101, 111, 112, 108, 101] : List UInt8) [(ApiColumn.mk ([105, 100] : List UInt8) (1 : Int) (0 : Int) false (ApiValue.mk (1 : Int) (0 : UInt64) ([] : List UInt8))), (ApiColumn.mk ([110, 97, 109, 101] : List UInt8) (5 : Int) (4 : Int) true (ApiValue.mk (0 : Int) (0 : UInt64) ([] : List UInt8))), (ApiColumn.mk ([97, 103, 101] : List UInt8) (2 : Int) (0 : Int) false (ApiValue.mk (2 : Int) (0 : UInt64) ([] : List UInt8)))] [(1 : Int)] ([] : List ApiIndex) (0 : Int)) _ hq35) rfl rfl rfl rfl rfl rfl rfl rfl)) (ww rfl) rfl rfl rfl cb10 rfl rfl rfl rfl rfl rfl rfl rfl ?_)
   refine gw rfl (bi rfl rfl q_i64_eql) (s1 (pkt rfl rfl) (sm rfl (sp h1 (fun h1 => ?_) (fun h1 => ?_))))
   ·obtain ⟨r36, hq37, h1⟩ := ob h1
    refine gw rfl (far (k := 1) rfl fo26_1 ts22 rfl) (gw rfl (lod rfl (ld_box ts22 ta22 rfl rfl)) (cq (args' := [.slc 0 7 0 ([(ApiColumn.mk ([105, 100] : List UInt8) (1 : Int) (0 : Int) false (ApiValue.mk (1 : Int) (0 : UInt64) ([] : List UInt8))), (ApiColumn.mk ([110, 97, 109, 101] : List UInt8) (5 : Int) (4 : Int) true (ApiValue.mk (0 : Int) (0 : UInt64) ([] : List UInt8))), (ApiColumn.mk ([97, 103, 101] : List UInt8) (2 : Int) (0 : Int) false (ApiValue.mk (2 : Int) (0 : UInt64) ([] : List UInt8)))].length) none]) (σc := [.row 7 (List.map eApiColumn [(ApiColumn.mk ([105, 100] : List UInt8) (1 : Int) (0 : Int) false (ApiValue.mk (1 : Int) (0 : UInt64) ([] : List UInt8))), (ApiColumn.mk ([110, 97, 109, 101] : List UInt8) (5 : Int) (4 : Int) true (ApiValue.mk (0 : Int) (0 : UInt64) ([] : List UInt8))), (ApiColumn.mk ([97, 103, 101] : List UInt8) (2 : Int) (0 : Int) false (ApiValue.mk (2 : Int) (0 : UInt64) ([] : List UInt8)))]) false]) [1] [] (CallAt.frz (ArgF.frz (fF rfl rfl rfl) (ArgF.nil _)) (fq [] [] (schema_RowMax_ok [(ApiColumn.mk ([105, 100] : List UInt8) (1 : Int) (0 : Int) false (ApiValue.mk (1 : Int) (0 : UInt64) ([] : List UInt8))), (ApiColumn.mk ([110, 97, 109, 101] : List UInt8) (5 : Int) (4 : Int) true (ApiValue.mk (0 : Int) (0 : UInt64) ([] : List UInt8))), (ApiColumn.mk ([97, 103, 101] : List UInt8) (2 : Int) (0 : Int) false (ApiValue.mk (2 : Int) (0 : UInt64) ([] : List UInt8)))] _ hq37) rfl rfl rfl rfl rfl rfl rfl rfl)) (ww rfl) rfl rfl rfl cb12 rfl rfl rfl rfl rfl rfl rfl rfl ?_))
    refine gw rfl (bi rfl rfl q_i64_eql) (s1 (pkt rfl rfl) (sm rfl (sp h1 (fun h1 => ?_) (fun h1 => ?_))))
    ·refine gw rfl (mv rfl) (gw rfl (bi rfl rfl q_i64_eql) (s1 (pkt rfl rfl) (sm rfl (sp h1 (fun h1 => ?_) (fun h1 => ?_)))))
     ·refine gw rfl (far (k := 0) rfl fo52_0 ts9 rfl) (gw rfl (lod rfl (ld_box ts9 ta9 rfl rfl)) (gw rfl (bi rfl rfl (q_str_eql (b := ([254, 158, 255, 255, 1, 128, 0, 0, 0, 0, 0, 0, 1] : List UInt8)))) (s1 (pkt rfl rfl) (sm rfl (sp h1 (fun h1 => ?_) (fun h1 => ?_))))))
      ·have q := si h1; subst q
       exact gw rfl (far (k := 1) rfl fo52_1 ts9 rfl) (gw rfl (lod rfl (ld_box ts9 ta9 rfl rfl)) (gw rfl (bi rfl rfl (q_str_eql (b := ([1, 0, 0, 0, 0, 0, 0, 0, 0, 7] : List UInt8)))) (s1 (pkt rfl rfl) (sa rfl (SO.nil ((wc [] [] (by kernel_rfl) rfl (by kernel_rfl))))))))
      ·have q := si h1; subst q
       exact kw rfl (kw rfl (kw rfl (s1 (pkf rfl rfl) (sa rfl (SO.nil ((wc [] [] (by kernel_rfl) rfl (by kernel_rfl))))))))
     ·have q := si h1; subst q
      refine kw rfl (kw rfl (kw rfl (s1 (pkf rfl rfl) (sm rfl (kw rfl (kw rfl (kw rfl (s1 (pkf rfl rfl) (sa rfl ?_)))))))))
      exact SO.nil ((wc [] [] (by kernel_rfl) rfl (by kernel_rfl)))
    ·have q := si h1; subst q
     refine kw rfl (kw rfl (s1 (pkf rfl rfl) (sm rfl (kw rfl (kw rfl (kw rfl (s1 (pkf rfl rfl) (sm rfl (kw rfl ?_)))))))))
     exact kw rfl (kw rfl (s1 (pkf rfl rfl) (sa rfl (SO.nil ((wc [] [] (by kernel_rfl) rfl (by kernel_rfl)))))))
   ·have q := si h1; subst q
    refine kw rfl (kw rfl (kw rfl (kw rfl (s1 (pkf rfl rfl) (sm rfl (kw rfl (kw rfl (s1 (pkf rfl rfl) (sm rfl ?_)))))))))
    refine kw rfl (kw rfl (kw rfl (s1 (pkf rfl rfl) (sm rfl (kw rfl (kw rfl (kw rfl (s1 (pkf rfl rfl) (sa rfl ?_)))))))))
    exact SO.nil ((wc [] [] (by kernel_rfl) rfl (by kernel_rfl)))
  ·have q := si h1; subst q
   refine kw rfl (kw rfl (kw rfl (s1 (pkf rfl rfl) (sm rfl (kw rfl (kw rfl (kw rfl (kw rfl (s1 (pkf rfl rfl) ?_)))))))))
   refine sm rfl (kw rfl (kw rfl (s1 (pkf rfl rfl) (sm rfl (kw rfl (kw rfl (kw rfl (s1 (pkf rfl rfl) (sm rfl ?_)))))))))
   exact kw rfl (kw rfl (kw rfl (s1 (pkf rfl rfl) (sa rfl (SO.nil ((wc [] [] (by kernel_rfl) rfl (by kernel_rfl))))))))
 ·rintro y30 h0
  have q := si h0; subst q
  exact SC.ret (finR (Wk.refl _) (lresT rfl lresN) rfl)
noncomputable def ref06_Name (p0 : List UInt8) : Option Bool :=
 Option.bind (α := Bool)
 (bif (decide ((p0.length : Int) < (1 : Int))) then
 some true
 else
 bif (decide ((p0.length : Int) > (16 : Int))) then
 some true
 else
 Option.bind (getI p0 (0 : Int)) fun v155 =>
 bif (decide (v155 < (97 : UInt8))) then
 some true
 else
 Option.bind (getI p0 (0 : Int)) fun v156 =>
 some (decide ((122 : UInt8) < v156)))
 fun y153 =>
 bif y153 then
 some false
 else
 bindE (Y := Unit) (E := Bool)
 (Option.bind (α := Unit ⊕ Bool)
 (loop (Y := Int) (W := Unit ⊕ Bool) (fun y251 =>
 bif (decide (y251 < (p0.length : Int))) then
 Option.bind (α := Bool)
 (Option.bind (getI p0 y251) fun v289 =>
 bif (decide (v289 < (97 : UInt8))) then
 Option.bind (getI p0 y251) fun v290 =>
 bif (decide (v290 < (48 : UInt8))) then
 Option.bind (getI p0 y251) fun v291 =>
 some (v291 != (95 : UInt8))
 else
 Option.bind (getI p0 y251) fun v292 =>
 bif (decide ((57 : UInt8) < v292)) then
 Option.bind (getI p0 y251) fun v293 =>
 some (v293 != (95 : UInt8))
 else
 some false
 else
 Option.bind (getI p0 y251) fun v294 =>
 bif (decide ((122 : UInt8) < v294)) then
 Option.bind (getI p0 y251) fun v295 =>
 bif (decide (v295 < (48 : UInt8))) then
 Option.bind (getI p0 y251) fun v296 =>
 some (v296 != (95 : UInt8))
 else
 Option.bind (getI p0 y251) fun v297 =>
 bif (decide ((57 : UInt8) < v297)) then
 Option.bind (getI p0 y251) fun v298 =>
 some (v298 != (95 : UInt8))
 else
 some false
 else
 some false)
 fun y287 =>
 bif y287 then
 some (Sum.inr (Sum.inr false))
 else
 some (Sum.inl (w64 (y251 + (1 : Int))))
 else
 some (Sum.inr (Sum.inl ()))) (1 : Int))
 (Sum.elim (fun e => some (Sum.inl e)) (fun e => some (Sum.inr e))))
 (fun _ =>
 some true)
 (fun e => some e)
theorem ref06_Name_ok (p0 : List UInt8) (r : Bool) (h0 : ref06_Name p0 = some r) : CallAt Tryz.prog 22 [.d (eS p0)] [] (.d (eB r)) [] := by
 unfold ref06_Name at h0
 refine fn0 [0] Tryz.func22 rfl rfl rfl rfl rfl ?_
 refine sr (sa rfl (sn (sq (SC.seqP h0 (fun y => ⟨mk 56 [(0, .d (eS p0)), (21, .d (eB y))], []⟩) ?_ ?_))))
 ·intro u1_154 h1
  refine SC.region (sm rfl (s1 (len rfl rfl rfl (len_str un9)) (s1 (bi rfl rfl q_i64_lss) (sm rfl (sp h1 (fun h1 => ?_) (fun h1 => ?_))))))
  ·have q := si h1; subst q
   refine kw rfl (kw rfl (kw rfl (s1 (pkt rfl rfl) (sm rfl (kw rfl (kw rfl (kw rfl (s1 (pkt rfl rfl) (sm rfl ?_)))))))))
   exact kw rfl (kw rfl (kw rfl (s1 (pkt rfl rfl) (SO.nil ((wq rfl))))))
  ·refine gw rfl (mv rfl) (gw rfl (len rfl rfl rfl (len_str un9)) (gw rfl (bi rfl rfl q_i64_gtr) (s1 (pkf rfl rfl) (sm rfl (sp h1 (fun h1 => ?_) (fun h1 => ?_))))))
   ·have q := si h1; subst q
    refine kw rfl (kw rfl (kw rfl (s1 (pkt rfl rfl) (sm rfl (kw rfl (kw rfl (kw rfl (s1 (pkt rfl rfl) (SO.nil ?_)))))))))
    exact (wq rfl)
   ·obtain ⟨v155, hv155, h1⟩ := ob h1
    refine gw rfl (mv rfl) (gw rfl (ixs rfl rfl rfl rfl (ix_str un9 (getI_some hv155).1 (getI_some hv155).2)) (gw rfl (bi rfl rfl (q_u8_lss (b := (97 : UInt8)))) (s1 (pkf rfl rfl) (sm rfl (sp h1 (fun h1 => ?_) (fun h1 => ?_))))))
    ·have q := si h1; subst q
     exact kw rfl (kw rfl (kw rfl (s1 (pkt rfl rfl) (SO.nil ((wq rfl))))))
    ·obtain ⟨v156, hv156, h1⟩ := ob h1; have q := si h1; subst q
     exact gw rfl (mv rfl) (gw rfl (ixs rfl rfl rfl rfl (ix_str un9 (getI_some hv156).1 (getI_some hv156).2)) (gw rfl (bi rfl rfl (q_u8_gtr (b := (122 : UInt8)))) (s1 (pkf rfl rfl) (SO.nil ((wq rfl))))))
 ·rintro y153 h0
  refine cB h0 rfl (fun h0 => ?_) (fun h0 => ?_)
  ·have q := si h0; subst q
   exact sr (sa rfl (sn (SC.ret (finR (Wk.refl _) (lresT rfl lresN) rfl))))
  ·refine sk (SC.seqB h0 (fun y => ⟨mk 56 [], []⟩) ?_ ?_)
   ·intro u1_228 h1 h0
    obtain ⟨u2_276, h2, h1⟩ := ob h1
    refine sr (sa rfl (sn (SC.blk (SC.loopB h2 (fun y => ⟨mk 56 [(0, .d (eS p0)), (3, .d (eI y))], []⟩) (wq rfl) ?_))))
    intro n299
    rintro y251 w2_275 h3 hv3
    refine sq (sr (sm rfl (sm rfl (s1 (len rfl rfl rfl (len_str un9)) (s1 (bi rfl rfl q_i64_lss) (sn (cB h3 rfl (fun h3 => ?_) (fun h3 => ?_))))))))
    ·refine sk (sq (SC.blk (SC.seqP h3 (fun y => ⟨mk 56 [(0, .d (eS p0)), (3, .d (eI y251)), (55, .d (eB y))], []⟩) ?_ ?_)))
     ·intro u4_288 h4
      obtain ⟨v289, hv289, h4⟩ := ob h4
      refine SC.region (sm rfl (sm rfl (s1 (ixs rfl rfl rfl rfl (ix_str un9 (getI_some hv289).1 (getI_some hv289).2)) (s1 (bi rfl rfl (q_u8_lss (b := (97 : UInt8)))) (sm rfl (sp h4 (fun h4 => ?_) (fun h4 => ?_)))))))
      ·obtain ⟨v290, hv290, h4⟩ := ob h4
       refine kw rfl (kw rfl (kw rfl (kw rfl (s1 (pkt rfl rfl) (sm rfl (gw rfl (mv rfl) (gw rfl (mv rfl) (gw rfl (ixs rfl rfl rfl rfl (ix_str un9 (getI_some hv290).1 (getI_some hv290).2)) (gw rfl (bi rfl rfl (q_u8_lss (b := (48 : UInt8)))) ?_)))))))))
       refine gw rfl (mv rfl) (sp h4 (fun h4 => ?_) (fun h4 => ?_))
       ·obtain ⟨v291, hv291, h4⟩ := ob h4; have q := si h4; subst q
        refine kw rfl (kw rfl (kw rfl (kw rfl (gw rfl (pkt rfl rfl) (s1 (pkt rfl rfl) (sm rfl (gw rfl (mv rfl) (gw rfl (mv rfl) (gw rfl (ixs rfl rfl rfl rfl (ix_str un9 (getI_some hv291).1 (getI_some hv291).2)) ?_)))))))))
        exact gw rfl (bi rfl rfl (q_u8_neq (b := (95 : UInt8)))) (s1 (pkt rfl rfl) (SO.nil ((wq rfl))))
       ·obtain ⟨v292, hv292, h4⟩ := ob h4
        refine gw rfl (mv rfl) (gw rfl (mv rfl) (gw rfl (ixs rfl rfl rfl rfl (ix_str un9 (getI_some hv292).1 (getI_some hv292).2)) (gw rfl (bi rfl rfl (q_u8_gtr (b := (57 : UInt8)))) (gw rfl (pkf rfl rfl) (s1 (pkt rfl rfl) (sm rfl (sp h4 (fun h4 => ?_) (fun h4 => ?_))))))))
        ·obtain ⟨v293, hv293, h4⟩ := ob h4; have q := si h4; subst q
         exact gw rfl (mv rfl) (gw rfl (mv rfl) (gw rfl (ixs rfl rfl rfl rfl (ix_str un9 (getI_some hv293).1 (getI_some hv293).2)) (gw rfl (bi rfl rfl (q_u8_neq (b := (95 : UInt8)))) (s1 (pkt rfl rfl) (SO.nil ((wq rfl)))))))
        ·have q := si h4; subst q
         exact kw rfl (kw rfl (kw rfl (kw rfl (s1 (pkf rfl rfl) (SO.nil ((wq rfl)))))))
      ·obtain ⟨v294, hv294, h4⟩ := ob h4
       refine gw rfl (mv rfl) (gw rfl (mv rfl) (gw rfl (ixs rfl rfl rfl rfl (ix_str un9 (getI_some hv294).1 (getI_some hv294).2)) (gw rfl (bi rfl rfl (q_u8_gtr (b := (122 : UInt8)))) (s1 (pkf rfl rfl) (sm rfl (sp h4 (fun h4 => ?_) (fun h4 => ?_)))))))
       ·obtain ⟨v295, hv295, h4⟩ := ob h4
        refine gw rfl (mv rfl) (gw rfl (mv rfl) (gw rfl (ixs rfl rfl rfl rfl (ix_str un9 (getI_some hv295).1 (getI_some hv295).2)) (gw rfl (bi rfl rfl (q_u8_lss (b := (48 : UInt8)))) (gw rfl (mv rfl) (sp h4 (fun h4 => ?_) (fun h4 => ?_))))))
        ·obtain ⟨v296, hv296, h4⟩ := ob h4; have q := si h4; subst q
         refine kw rfl (kw rfl (kw rfl (kw rfl (gw rfl (pkt rfl rfl) (s1 (pkt rfl rfl) (sm rfl (gw rfl (mv rfl) (gw rfl (mv rfl) (gw rfl (ixs rfl rfl rfl rfl (ix_str un9 (getI_some hv296).1 (getI_some hv296).2)) ?_)))))))))
         exact gw rfl (bi rfl rfl (q_u8_neq (b := (95 : UInt8)))) (s1 (pkt rfl rfl) (SO.nil ((wq rfl))))
        ·obtain ⟨v297, hv297, h4⟩ := ob h4
         refine gw rfl (mv rfl) (gw rfl (mv rfl) (gw rfl (ixs rfl rfl rfl rfl (ix_str un9 (getI_some hv297).1 (getI_some hv297).2)) (gw rfl (bi rfl rfl (q_u8_gtr (b := (57 : UInt8)))) (gw rfl (pkf rfl rfl) (s1 (pkt rfl rfl) (sm rfl (sp h4 (fun h4 => ?_) (fun h4 => ?_))))))))
         ·obtain ⟨v298, hv298, h4⟩ := ob h4; have q := si h4; subst q
          exact gw rfl (mv rfl) (gw rfl (mv rfl) (gw rfl (ixs rfl rfl rfl rfl (ix_str un9 (getI_some hv298).1 (getI_some hv298).2)) (gw rfl (bi rfl rfl (q_u8_neq (b := (95 : UInt8)))) (s1 (pkt rfl rfl) (SO.nil ((wq rfl)))))))
         ·have q := si h4; subst q
          exact kw rfl (kw rfl (kw rfl (kw rfl (s1 (pkf rfl rfl) (SO.nil ((wq rfl)))))))
       ·have q := si h4; subst q
        refine kw rfl (kw rfl (kw rfl (kw rfl (kw rfl (kw rfl (kw rfl (kw rfl (kw rfl (kw rfl ?_)))))))))
        exact s1 (pkf rfl rfl) (sm rfl (kw rfl (kw rfl (kw rfl (kw rfl (s1 (pkf rfl rfl) (SO.nil ((wq rfl)))))))))
     ·rintro y287 h3
      refine cB h3 rfl (fun h3 => ?_) (fun h3 => ?_)
      ·have q := si h3; subst q; have q : _ = _ := hv3; subst q; have q := si h1; subst q; have q := si h0; subst q
       exact sr (sa rfl (sn (SC.ret (finR (Wk.refl _) (lresT rfl lresN) rfl))))
      ·refine SC.skip ?_
       change SC _ _ _ _ _
       have q := si h3; subst q
       exact SC.region (sm rfl (s1 (bi rfl rfl q_i64_add) (sa rfl (SO.nil (lf (wq rfl))))))
    ·have q := si h3; subst q; have q : _ = _ := hv3; subst q; have q := si h1; subst q
     exact SC.exit (lf (wq rfl))
   ·intro _ h0
    have q := si h0; subst q
    exact sr (sa rfl (sn (SC.ret (finR (Wk.refl _) (lresT rfl lresN) rfl))))
noncomputable def ref06_utf8 (p0 : List UInt8) : Option Bool :=
 bindE (Y := Unit) (E := Bool)
 (Option.bind (α := Unit ⊕ Bool)
 (loop (Y := Int) (W := Unit ⊕ Bool) (fun y549 =>
 bif (decide (y549 < (p0.length : Int))) then
 Option.bind (getI p0 y549) fun v606 =>
 bindE (Y := Int × Int × Int) (E := Bool)
 (bif (decide ((v606.toNat : Int) < (128 : Int))) then
 some (Sum.inl ((1 : Int), (0 : Int), (v606.toNat : Int)))
 else
 Option.bind (α := Bool)
 (bif (decide ((v606.toNat : Int) ≥ (194 : Int))) then
 some (decide ((v606.toNat : Int) < (224 : Int)))
 else
 some false)
 fun y617 =>
 bif y617 then
 some (Sum.inl ((2 : Int), (128 : Int), (w64 ((v606.toNat : Int) - (192 : Int)))))
 else
 Option.bind (α := Bool)
 (bif (decide ((v606.toNat : Int) ≥ (224 : Int))) then
 some (decide ((v606.toNat : Int) < (240 : Int)))
 else
 some false)
 fun y619 =>
 bif y619 then
 some (Sum.inl ((3 : Int), (2048 : Int), (w64 ((v606.toNat : Int) - (224 : Int)))))
 else
 Option.bind (α := Bool)
 (bif (decide ((v606.toNat : Int) ≥ (240 : Int))) then
 some (decide ((v606.toNat : Int) < (245 : Int)))
 else
 some false)
 fun y621 =>
 bif y621 then
 some (Sum.inl ((4 : Int), (65536 : Int), (w64 ((v606.toNat : Int) - (240 : Int)))))
 else
 some (Sum.inr false))
 (fun (y613, y614, y615) =>
 bif (decide ((w64 (y549 + y613)) > (p0.length : Int))) then
 some (Sum.inr (Sum.inr false))
 else
 bindE (Y := Int) (E := Bool)
 (Option.bind (α := Int ⊕ Bool)
 (loop (Y := Int × Int) (W := Int ⊕ Bool) (fun (y644, y645) =>
 bif (decide (y645 < y613)) then
 Option.bind (getI p0 (w64 (y549 + y645))) fun v653 =>
 Option.bind (α := Bool)
 (bif (decide ((v653.toNat : Int) < (128 : Int))) then
 some true
 else
 some (decide ((v653.toNat : Int) ≥ (192 : Int))))
 fun y654 =>
 bif y654 then
 some (Sum.inr (Sum.inr false))
 else
 some (Sum.inl ((w64 ((w64 ((w64 (y644 * (64 : Int))) + (v653.toNat : Int))) - (128 : Int))), (w64 (y645 + (1 : Int)))))
 else
 some (Sum.inr (Sum.inl y644))) (y615, (1 : Int)))
 (Sum.elim (fun e => some (Sum.inl e)) (fun e => some (Sum.inr e))))
 (fun y639 =>
 Option.bind (α := Bool)
 (bif (decide (y639 < y614)) then
 some true
 else
 bif (decide (y639 > (1114111 : Int))) then
 some true
 else
 bif (decide (y639 ≥ (55296 : Int))) then
 some (decide (y639 < (57344 : Int)))
 else
 some false)
 fun y657 =>
 bif y657 then
 some (Sum.inr (Sum.inr false))
 else
 some (Sum.inl (w64 (y549 + y613))))
 (fun e => some (Sum.inr (Sum.inr e))))
 (fun e => some (Sum.inr (Sum.inr e)))
 else
 some (Sum.inr (Sum.inl ()))) (0 : Int))
 (Sum.elim (fun e => some (Sum.inl e)) (fun e => some (Sum.inr e))))
 (fun _ =>
 some true)
 (fun e => some e)
theorem ref06_utf8_ok (p0 : List UInt8) (r : Bool) (h0 : ref06_utf8 p0 = some r) : CallAt Tryz.prog 73 [.d (eS p0)] [] (.d (eB r)) [] := by
 unfold ref06_utf8 at h0
 refine fn0 [0] Tryz.func73 rfl rfl rfl rfl rfl ?_
 refine sr (sa rfl (sn (SC.seqB h0 (fun y => ⟨mk 95 [], []⟩) ?_ ?_)))
 ·intro u1_495 h1 h0
  obtain ⟨u2_605, h2, h1⟩ := ob h1
  refine sr (sa rfl (sn (SC.blk (SC.loopB h2 (fun y => ⟨mk 95 [(0, .d (eS p0)), (3, .d (eI y))], []⟩) (wq rfl) ?_))))
  intro n659
  rintro y549 w2_604 h3 hv3
  refine sq (sr (sm rfl (sm rfl (s1 (len rfl rfl rfl (len_str un9)) (s1 (bi rfl rfl q_i64_lss) (sn (cB h3 rfl (fun h3 => ?_) (fun h3 => ?_))))))))
  ·obtain ⟨v606, hv606, h3⟩ := ob h3
   refine sk (SC.blk (sr (sm rfl (sm rfl (s1 (ixs rfl rfl rfl rfl (ix_str un9 (getI_some hv606).1 (getI_some hv606).2)) (s1 (cvo rfl (cv_u8_i64 un5 un3 v606)) (sa rfl (sn (sr ?_)))))))))
   refine sa rfl (sn (sr (sa rfl (sn (sr (sm rfl (sa rfl (sn (SC.seqB h3 (fun y => ⟨mk 95 [(0, .d (eS p0)), (3, .d (eI y549)), (5, .d (eI y.1)), (6, .d (eI y.2.1)), (7, .d (eI y.2.2))], []⟩) ?_ ?_)))))))))
   ·intro u4_616 h4 h3
    refine SC.blk (sr (sm rfl (s1 (bi rfl rfl q_i64_lss) (sa rfl (sn (cB h4 rfl (fun h4 => ?_) (fun h4 => ?_)))))))
    ·have q := si h4; subst q
     exact SC.skip (lf (wq rfl))
    ·refine SC.seqP h4 (fun y => ⟨mk 95 [(0, .d (eS p0)), (3, .d (eI y549)), (4, .d (eI (v606.toNat : Int))), (22, .d (eB y))], []⟩) ?_ ?_
     ·intro u5_618 h5
      refine SC.region (sm rfl (s1 (bi rfl rfl q_i64_geq) (sm rfl (sp h5 (fun h5 => ?_) (fun h5 => ?_)))))
      ·have q := si h5; subst q
       exact gw rfl (mv rfl) (gw rfl (bi rfl rfl q_i64_lss) (s1 (pkt rfl rfl) (sa rfl (SO.nil ((wq rfl))))))
      ·have q := si h5; subst q
       exact kw rfl (kw rfl (s1 (pkf rfl rfl) (sa rfl (SO.nil ((wq rfl))))))
     ·rintro y617 h4
      refine cB h4 rfl (fun h4 => ?_) (fun h4 => ?_)
      ·have q := si h4; subst q
       exact SC.region (sm rfl (s1 (bi rfl rfl q_i64_sub) (sa rfl (sa rfl (sa rfl (SO.nil (lf (wq rfl))))))))
      ·refine SC.seqP h4 (fun y => ⟨mk 95 [(0, .d (eS p0)), (3, .d (eI y549)), (4, .d (eI (v606.toNat : Int))), (31, .d (eB y))], []⟩) ?_ ?_
       ·intro u5_620 h5
        refine SC.region (sm rfl (s1 (bi rfl rfl q_i64_geq) (sm rfl (sp h5 (fun h5 => ?_) (fun h5 => ?_)))))
        ·have q := si h5; subst q
         exact gw rfl (mv rfl) (gw rfl (bi rfl rfl q_i64_lss) (s1 (pkt rfl rfl) (sa rfl (SO.nil ((wq rfl))))))
        ·have q := si h5; subst q
         exact kw rfl (kw rfl (s1 (pkf rfl rfl) (sa rfl (SO.nil ((wq rfl))))))
       ·rintro y619 h4
        refine cB h4 rfl (fun h4 => ?_) (fun h4 => ?_)
        ·have q := si h4; subst q
         exact SC.region (sm rfl (s1 (bi rfl rfl q_i64_sub) (sa rfl (sa rfl (sa rfl (SO.nil (lf (wq rfl))))))))
        ·refine SC.seqP h4 (fun y => ⟨mk 95 [(0, .d (eS p0)), (3, .d (eI y549)), (4, .d (eI (v606.toNat : Int))), (40, .d (eB y))], []⟩) ?_ ?_
         ·intro u5_622 h5
          refine SC.region (sm rfl (s1 (bi rfl rfl q_i64_geq) (sm rfl (sp h5 (fun h5 => ?_) (fun h5 => ?_)))))
          ·have q := si h5; subst q
           exact gw rfl (mv rfl) (gw rfl (bi rfl rfl q_i64_lss) (s1 (pkt rfl rfl) (sa rfl (SO.nil ((wq rfl))))))
          ·have q := si h5; subst q
           exact kw rfl (kw rfl (s1 (pkf rfl rfl) (sa rfl (SO.nil ((wq rfl))))))
         ·rintro y621 h4
          refine cB h4 rfl (fun h4 => ?_) (fun h4 => ?_)
          ·have q := si h4; subst q
           exact SC.region (sm rfl (s1 (bi rfl rfl q_i64_sub) (sa rfl (sa rfl (sa rfl (SO.nil (lf (wq rfl))))))))
          ·have q := si h4; subst q; have q := si h3; subst q; have q : _ = _ := hv3; subst q; have q := si h1; subst q; have q := si h0; subst q
           exact sr (sa rfl (sn (SC.ret (finR (Wk.refl _) (lresT rfl lresN) rfl))))
   ·rintro ⟨y613, y614, y615⟩ h3
    refine sq (sr (sm rfl (sm rfl (s1 (bi rfl rfl q_i64_add) (sm rfl (s1 (len rfl rfl rfl (len_str un9)) (s1 (bi rfl rfl q_i64_gtr) (sn (cB h3 rfl (fun h3 => ?_) (fun h3 => ?_))))))))))
    ·have q := si h3; subst q; have q : _ = _ := hv3; subst q; have q := si h1; subst q; have q := si h0; subst q
     exact sr (sa rfl (sn (SC.ret (finR (Wk.refl _) (lresT rfl lresN) rfl))))
    ·refine sk (SC.seqB h3 (fun y => ⟨mk 95 [(0, .d (eS p0)), (3, .d (eI y549)), (5, .d (eI y613)), (6, .d (eI y614)), (7, .d (eI y))], []⟩) ?_ ?_)
     ·intro u4_640 h4 h3
      obtain ⟨u5_652, h5, h4⟩ := ob h4
      refine sr (sa rfl (sn (SC.blk (SC.loopB h5 (fun y => ⟨mk 95 [(0, .d (eS p0)), (3, .d (eI y549)), (5, .d (eI y613)), (6, .d (eI y614)), (7, .d (eI y.1)), (8, .d (eI y.2))], []⟩) (wq rfl) ?_))))
      intro n656
      rintro ⟨y644, y645⟩ w5_651 h6 hv6
      refine sq (sr (sm rfl (sm rfl (s1 (bi rfl rfl q_i64_lss) (sn (cB h6 rfl (fun h6 => ?_) (fun h6 => ?_)))))))
      ·obtain ⟨v653, hv653, h6⟩ := ob h6
       refine sk (sq (SC.blk (sr (sm rfl (sm rfl (sm rfl (s1 (bi rfl rfl q_i64_add) (s1 (ixs rfl rfl rfl rfl (ix_str un9 (getI_some hv653).1 (getI_some hv653).2)) (s1 (cvo rfl (cv_u8_i64 un5 un3 v653)) ?_)))))))))
       refine sa rfl (sn (sq (SC.seqP h6 (fun y => ⟨mk 95 [(0, .d (eS p0)), (3, .d (eI y549)), (5, .d (eI y613)), (6, .d (eI y614)), (7, .d (eI y644)), (8, .d (eI y645)), (9, .d (eI (v653.toNat : Int))), (71, .d (eB y))], []⟩) ?_ ?_)))
       ·intro u7_655 h7
        refine SC.region (sm rfl (s1 (bi rfl rfl q_i64_lss) (sm rfl (sp h7 (fun h7 => ?_) (fun h7 => ?_)))))
        ·have q := si h7; subst q
         exact kw rfl (kw rfl (s1 (pkt rfl rfl) (SO.nil ((wq rfl)))))
        ·have q := si h7; subst q
         exact gw rfl (mv rfl) (gw rfl (bi rfl rfl q_i64_geq) (s1 (pkf rfl rfl) (SO.nil ((wq rfl)))))
       ·rintro y654 h6
        refine cB h6 rfl (fun h6 => ?_) (fun h6 => ?_)
        ·have q := si h6; subst q; have q : _ = _ := hv6; subst q; have q := si h4; subst q; have q := si h3; subst q; have q : _ = _ := hv3; subst q; have q := si h1; subst q; have q := si h0; subst q
         exact sr (sa rfl (sn (SC.ret (finR (Wk.refl _) (lresT rfl lresN) rfl))))
        ·refine sk (SC.region (sm rfl (s1 (bi rfl rfl q_i64_mul) (sm rfl (s1 (bi rfl rfl q_i64_add) (s1 (bi rfl rfl q_i64_sub) (sa rfl (SO.nil ?_))))))))
         change SC _ _ _ _ _
         have q := si h6; subst q
         exact SC.region (sm rfl (s1 (bi rfl rfl q_i64_add) (sa rfl (SO.nil (lf (wq rfl))))))
      ·have q := si h6; subst q; have q : _ = _ := hv6; subst q; have q := si h4; subst q
       exact SC.exit (lf (wq rfl))
     ·rintro y639 h3
      refine sq (SC.seqP h3 (fun y => ⟨mk 95 [(0, .d (eS p0)), (3, .d (eI y549)), (5, .d (eI y613)), (91, .d (eB y))], []⟩) ?_ ?_)
      ·intro u4_658 h4
       refine SC.region (sm rfl (sm rfl (s1 (bi rfl rfl q_i64_lss) (sm rfl (sp h4 (fun h4 => ?_) (fun h4 => ?_))))))
       ·have q := si h4; subst q
        refine kw rfl (kw rfl (s1 (pkt rfl rfl) (sm rfl (kw rfl (kw rfl (kw rfl (kw rfl (kw rfl (kw rfl ?_)))))))))
        exact s1 (pkt rfl rfl) (SO.nil ((wq rfl)))
       ·refine gw rfl (mv rfl) (gw rfl (bi rfl rfl q_i64_gtr) (s1 (pkf rfl rfl) (sm rfl (sp h4 (fun h4 => ?_) (fun h4 => ?_)))))
        ·have q := si h4; subst q
         exact kw rfl (kw rfl (kw rfl (kw rfl (kw rfl (kw rfl (s1 (pkt rfl rfl) (SO.nil ((wq rfl)))))))))
        ·refine gw rfl (mv rfl) (gw rfl (bi rfl rfl q_i64_geq) (gw rfl (mv rfl) (sp h4 (fun h4 => ?_) (fun h4 => ?_))))
         ·have q := si h4; subst q
          exact gw rfl (mv rfl) (gw rfl (bi rfl rfl q_i64_lss) (gw rfl (pkt rfl rfl) (s1 (pkf rfl rfl) (SO.nil ((wq rfl))))))
         ·have q := si h4; subst q
          exact kw rfl (kw rfl (gw rfl (pkf rfl rfl) (s1 (pkf rfl rfl) (SO.nil ((wq rfl))))))
      ·rintro y657 h3
       refine cB h3 rfl (fun h3 => ?_) (fun h3 => ?_)
       ·have q := si h3; subst q; have q : _ = _ := hv3; subst q; have q := si h1; subst q; have q := si h0; subst q
        exact sr (sa rfl (sn (SC.ret (finR (Wk.refl _) (lresT rfl lresN) rfl))))
       ·have q := si h3; subst q
        exact sk (SC.region (sm rfl (sm rfl (s1 (bi rfl rfl q_i64_add) (sa rfl (SO.nil (lf (wq rfl))))))))
  ·have q := si h3; subst q; have q : _ = _ := hv3; subst q; have q := si h1; subst q
   exact SC.exit (lf (wq rfl))
 ·intro _ h0
  have q := si h0; subst q
  exact sr (sa rfl (sn (SC.ret (finR (Wk.refl _) (lresT rfl lresN) rfl))))
noncomputable def ref06_Valid (p0 : ApiValue) : Option Bool :=
 bif (p0.Kind == (0 : Int)) then
 Option.bind (α := Bool)
 (bif (p0.N == (0 : UInt64)) then
 some (p0.S == ([] : List UInt8))
 else
 some false)
 fun y16 =>
 some y16
 else
 Option.bind (α := Bool)
 (bif (p0.Kind == (1 : Int)) then
 some (p0.Kind == (1 : Int))
 else
 some (p0.Kind == (2 : Int)))
 fun y18 =>
 bif y18 then
 some (p0.S == ([] : List UInt8))
 else
 bif (p0.Kind == (3 : Int)) then
 Option.bind (α := Bool)
 (bif (decide (p0.N < (2 : UInt64))) then
 some (p0.S == ([] : List UInt8))
 else
 some false)
 fun y20 =>
 some y20
 else
 bif (p0.Kind == (4 : Int)) then
 Option.bind (α := Bool)
 (bif (p0.N == (0 : UInt64)) then
 some (decide ((p0.S.length : Int) ≤ (64 : Int)))
 else
 some false)
 fun y22 =>
 some y22
 else
 bif (p0.Kind == (5 : Int)) then
 Option.bind (α := Bool)
 (bif (p0.N == (0 : UInt64)) then
 bif (decide ((p0.S.length : Int) ≤ (64 : Int))) then
 Option.bind (ref06_utf8 p0.S) fun r28 =>
 some r28
 else
 some false
 else
 some false)
 fun y26 =>
 some y26
 else
 some false
theorem ref06_Valid_ok (p0 : ApiValue) (r : Bool) (h0 : ref06_Valid p0 = some r) : CallAt Tryz.prog 63 [.d (eApiValue p0)] [] (.d (eB r)) [] := by
 unfold ref06_Valid at h0
 refine fn0 [0] Tryz.func63 rfl rfl rfl rfl rfl ?_
 refine sr (s1 (bxo (k := 0) rfl rfl rfl) (sa rfl (sn (sq (sr (s1 (far (k := 0) rfl fo40_0 ts3 rfl) (s1 (lod rfl (ld_box ts3 ta3 rfl rfl)) (sn (SC.blk ?_)))))))))
 refine sr (s1 (bi rfl rfl q_i64_eql) (sa rfl (sn (cB h0 rfl (fun h0 => ?_) (fun h0 => ?_)))))
 ·refine SC.seqP h0 (fun y => ⟨mk 58 [(2, .d (eB y))], []⟩) ?_ ?_
  ·intro u1_17 h1
   refine SC.region (s1 (far (k := 1) rfl fo40_1 ts38 rfl) (s1 (lod rfl (ld_box ts38 ta38 rfl rfl)) (s1 (bi rfl rfl (q_u64_eql (b := (0 : UInt64)))) (sm rfl (sp h1 (fun h1 => ?_) (fun h1 => ?_))))))
   ·have q := si h1; subst q
    exact gw rfl (far (k := 2) rfl fo40_2 ts9 rfl) (gw rfl (lod rfl (ld_box ts9 ta9 rfl rfl)) (gw rfl (bi rfl rfl (q_str_eql (b := ([] : List UInt8)))) (s1 (pkt rfl rfl) (sa rfl (SO.nil ((wc [] [] (by kernel_rfl) rfl (by kernel_rfl))))))))
   ·have q := si h1; subst q
    exact kw rfl (kw rfl (kw rfl (s1 (pkf rfl rfl) (sa rfl (SO.nil ((wc [] [] (by kernel_rfl) rfl (by kernel_rfl))))))))
  ·rintro y16 h0
   have q := si h0; subst q
   exact SC.ret (finR (Wk.refl _) (lresT rfl lresN) rfl)
 ·refine SC.seqP h0 (fun y => ⟨mk 58 [(1, .ref 0 0 0), (4, .d (eI p0.Kind)), (15, .d (eB y))], [.box (.d (eApiValue p0))]⟩) ?_ ?_
  ·intro u1_19 h1
   refine sr (s1 (bi rfl rfl q_i64_eql) (sa rfl (sn (cB h1 rfl (fun h1 => ?_) (fun h1 => ?_)))))
   ·have q := si h1; subst q
    exact SC.skip ((wq rfl))
   ·have q := si h1; subst q
    exact SC.region (s1 (bi rfl rfl q_i64_eql) (sa rfl (SO.nil ((wq rfl)))))
  ·rintro y18 h0
   refine cB h0 rfl (fun h0 => ?_) (fun h0 => ?_)
   ·have q := si h0; subst q
    exact sr (s1 (far (k := 2) rfl fo40_2 ts9 rfl) (s1 (lod rfl (ld_box ts9 ta9 rfl rfl)) (s1 (bi rfl rfl (q_str_eql (b := ([] : List UInt8)))) (sa rfl (sn (SC.ret (finR (wc (e' := [(2, .d (eB (p0.S == ([] : List UInt8))))]) [] [] (by kernel_rfl) rfl (by kernel_rfl)) (lresT rfl lresN) rfl)))))))
   ·refine sr (s1 (bi rfl rfl q_i64_eql) (sa rfl (sn (cB h0 rfl (fun h0 => ?_) (fun h0 => ?_)))))
    ·refine SC.seqP h0 (fun y => ⟨mk 58 [(2, .d (eB y))], []⟩) ?_ ?_
     ·intro u1_21 h1
      refine SC.region (s1 (far (k := 1) rfl fo40_1 ts38 rfl) (s1 (lod rfl (ld_box ts38 ta38 rfl rfl)) (s1 (bi rfl rfl (q_u64_lss (b := (2 : UInt64)))) (sm rfl (sp h1 (fun h1 => ?_) (fun h1 => ?_))))))
      ·have q := si h1; subst q
       exact gw rfl (far (k := 2) rfl fo40_2 ts9 rfl) (gw rfl (lod rfl (ld_box ts9 ta9 rfl rfl)) (gw rfl (bi rfl rfl (q_str_eql (b := ([] : List UInt8)))) (s1 (pkt rfl rfl) (sa rfl (SO.nil ((wc [] [] (by kernel_rfl) rfl (by kernel_rfl))))))))
      ·have q := si h1; subst q
       exact kw rfl (kw rfl (kw rfl (s1 (pkf rfl rfl) (sa rfl (SO.nil ((wc [] [] (by kernel_rfl) rfl (by kernel_rfl))))))))
     ·rintro y20 h0
      have q := si h0; subst q
      exact SC.ret (finR (Wk.refl _) (lresT rfl lresN) rfl)
    ·refine sr (s1 (bi rfl rfl q_i64_eql) (sa rfl (sn (cB h0 rfl (fun h0 => ?_) (fun h0 => ?_)))))
     ·refine SC.seqP h0 (fun y => ⟨mk 58 [(2, .d (eB y))], []⟩) ?_ ?_
      ·intro u1_23 h1
       refine SC.region (s1 (far (k := 1) rfl fo40_1 ts38 rfl) (s1 (lod rfl (ld_box ts38 ta38 rfl rfl)) (s1 (bi rfl rfl (q_u64_eql (b := (0 : UInt64)))) (sm rfl (sp h1 (fun h1 => ?_) (fun h1 => ?_))))))
       ·have q := si h1; subst q
        exact gw rfl (far (k := 2) rfl fo40_2 ts9 rfl) (gw rfl (lod rfl (ld_box ts9 ta9 rfl rfl)) (gw rfl (len rfl rfl rfl (len_str un9)) (gw rfl (bi rfl rfl q_i64_leq) (s1 (pkt rfl rfl) (sa rfl (SO.nil ((wc [] [] (by kernel_rfl) rfl (by kernel_rfl)))))))))
       ·have q := si h1; subst q
        exact kw rfl (kw rfl (kw rfl (kw rfl (s1 (pkf rfl rfl) (sa rfl (SO.nil ((wc [] [] (by kernel_rfl) rfl (by kernel_rfl)))))))))
      ·rintro y22 h0
       have q := si h0; subst q
       exact SC.ret (finR (Wk.refl _) (lresT rfl lresN) rfl)
     ·refine sr (s1 (bi rfl rfl q_i64_eql) (sa rfl (sn (cB h0 rfl (fun h0 => ?_) (fun h0 => ?_)))))
      ·refine SC.seqP h0 (fun y => ⟨mk 58 [(2, .d (eB y))], []⟩) ?_ ?_
       ·intro u1_27 h1
        refine SC.region (s1 (far (k := 1) rfl fo40_1 ts38 rfl) (s1 (lod rfl (ld_box ts38 ta38 rfl rfl)) (s1 (bi rfl rfl (q_u64_eql (b := (0 : UInt64)))) (sm rfl (sp h1 (fun h1 => ?_) (fun h1 => ?_))))))
        ·refine gw rfl (far (k := 2) rfl fo40_2 ts9 rfl) (gw rfl (lod rfl (ld_box ts9 ta9 rfl rfl)) (gw rfl (len rfl rfl rfl (len_str un9)) (gw rfl (bi rfl rfl q_i64_leq) (s1 (pkt rfl rfl) (sm rfl (sp h1 (fun h1 => ?_) (fun h1 => ?_)))))))
         ·obtain ⟨r28, hq29, h1⟩ := ob h1; have q := si h1; subst q
          exact gw rfl (far (k := 2) rfl fo40_2 ts9 rfl) (gw rfl (lod rfl (ld_box ts9 ta9 rfl rfl)) (c0 (ref06_utf8_ok p0.S _ hq29) (ww rfl) rfl rfl rfl cb73 rfl (fun _ => rfl) (fun _ => rfl) (s1 (pkt rfl rfl) (sa rfl (SO.nil ((wc [] [] (by kernel_rfl) rfl (by kernel_rfl))))))))
         ·have q := si h1; subst q
          exact kw rfl (kw rfl (kw rfl (s1 (pkf rfl rfl) (sa rfl (SO.nil ((wc [] [] (by kernel_rfl) rfl (by kernel_rfl))))))))
        ·have q := si h1; subst q
         refine kw rfl (kw rfl (kw rfl (kw rfl (s1 (pkf rfl rfl) (sm rfl (kw rfl (kw rfl (kw rfl (s1 (pkf rfl rfl) ?_)))))))))
         exact sa rfl (SO.nil ((wc [] [] (by kernel_rfl) rfl (by kernel_rfl))))
       ·rintro y26 h0
        have q := si h0; subst q
        exact SC.ret (finR (Wk.refl _) (lresT rfl lresN) rfl)
      ·refine SC.skip ?_
       change SC _ _ _ _ _
       have q := si h0; subst q
       exact sr (sa rfl (sn (SC.ret (finR (wc (e' := [(2, .d (eB false))]) [] [] (by kernel_rfl) rfl (by kernel_rfl)) (lresT rfl lresN) rfl))))
noncomputable def ref06_Fits (p0 : ApiColumn) (p1 : ApiValue) : Option Int :=
 Option.bind (α := Bool)
 (Option.bind (ref06_Valid p1) fun r14 =>
 bif (!r14) then
 some true
 else
 bif (p1.Kind == (0 : Int)) then
 bif (!p0.Nulls) then
 some true
 else
 bif (p1.Kind != (0 : Int)) then
 some (p1.Kind != p0.Kind)
 else
 some false
 else
 bif (p1.Kind != (0 : Int)) then
 some (p1.Kind != p0.Kind)
 else
 some false)
 fun y12 =>
 bif y12 then
 some (8 : Int)
 else
 Option.bind (α := Bool)
 (bif (p1.Kind == (4 : Int)) then
 some (decide ((p1.S.length : Int) > p0.Max))
 else
 bif (p1.Kind == (5 : Int)) then
 some (decide ((p1.S.length : Int) > p0.Max))
 else
 some false)
 fun y16 =>
 bif y16 then
 some (7 : Int)
 else
 some (0 : Int)
theorem ref06_Fits_ok (p0 : ApiColumn) (p1 : ApiValue) (r : Int) (h0 : ref06_Fits p0 p1 = some r) : CallAt Tryz.prog 46 [.d (eApiColumn p0), .d (eApiValue p1)] [] (.d (eI r)) [] := by
 unfold ref06_Fits at h0
 refine fn0 [0, 1] Tryz.func46 rfl rfl rfl rfl rfl ?_
 refine sr (s1 (bxo (k := 0) rfl rfl rfl) (s1 (bxo (k := 1) rfl rfl rfl) (sa rfl (sn (sq (SC.seqP h0 (fun y => ⟨mk 46 [(2, .ref 0 0 0), (3, .ref 1 0 0), (29, .d (eB y))], [.box (.d (eApiColumn p0)), .box (.d (eApiValue p1))]⟩) ?_ ?_))))))
 ·intro u1_13 h1
  obtain ⟨r14, hq15, h1⟩ := ob h1
  refine SC.region (s1 (lod (v := .d (eApiValue p1)) rfl (ld_box ts40 ta40 rfl rfl)) (c0 (ref06_Valid_ok p1 _ hq15) wf rfl rfl rfl cb63 rfl (fun _ => rfl) (fun _ => rfl) (s1 (nt rfl) (sm rfl (sp h1 (fun h1 => ?_) (fun h1 => ?_))))))
  ·have q := si h1; subst q
   refine kw rfl (kw rfl (kw rfl (kw rfl (kw rfl (kw rfl (kw rfl (kw rfl (s1 (pkt rfl rfl) (sm rfl ?_)))))))))
   refine kw rfl (kw rfl (kw rfl (kw rfl (kw rfl (kw rfl (kw rfl (kw rfl (kw rfl (kw rfl ?_)))))))))
   exact s1 (pkt rfl rfl) (SO.nil ((wq rfl)))
  ·refine gw rfl (far (k := 0) rfl fo40_0 ts3 rfl) (gw rfl (lod rfl (ld_box ts3 ta3 rfl rfl)) (gw rfl (bi rfl rfl q_i64_eql) (gw rfl (mv rfl) (sp h1 (fun h1 => ?_) (fun h1 => ?_)))))
   ·refine gw rfl (far (k := 3) rfl fo42_3 ts4 rfl) (gw rfl (lod rfl (ld_box ts4 ta4 rfl rfl)) (gw rfl (nt rfl) (gw rfl (pkt rfl rfl) (s1 (pkf rfl rfl) (sm rfl (sp h1 (fun h1 => ?_) (fun h1 => ?_)))))))
    ·have q := si h1; subst q
     refine kw rfl (kw rfl (kw rfl (kw rfl (kw rfl (kw rfl (kw rfl (kw rfl (kw rfl (kw rfl ?_)))))))))
     exact s1 (pkt rfl rfl) (SO.nil ((wq rfl)))
    ·refine gw rfl (far (k := 0) rfl fo40_0 ts3 rfl) (gw rfl (lod rfl (ld_box ts3 ta3 rfl rfl)) (gw rfl (bi rfl rfl q_i64_neq) (gw rfl (mv rfl) (sp h1 (fun h1 => ?_) (fun h1 => ?_)))))
     ·have q := si h1; subst q
      exact gw rfl (far (k := 0) rfl fo40_0 ts3 rfl) (gw rfl (lod rfl (ld_box ts3 ta3 rfl rfl)) (gw rfl (far (k := 1) rfl fo42_1 ts3 rfl) (gw rfl (lod rfl (ld_box ts3 ta3 rfl rfl)) (gw rfl (bi rfl rfl q_i64_neq) (gw rfl (pkt rfl rfl) (s1 (pkf rfl rfl) (SO.nil ((wq rfl)))))))))
     ·have q := si h1; subst q
      exact kw rfl (kw rfl (kw rfl (kw rfl (kw rfl (gw rfl (pkf rfl rfl) (s1 (pkf rfl rfl) (SO.nil ((wq rfl)))))))))
   ·refine kw rfl (kw rfl (kw rfl (gw rfl (pkf rfl rfl) (s1 (pkf rfl rfl) (sm rfl (gw rfl (far (k := 0) rfl fo40_0 ts3 rfl) (gw rfl (lod rfl (ld_box ts3 ta3 rfl rfl)) (gw rfl (bi rfl rfl q_i64_neq) (gw rfl (mv rfl) ?_)))))))))
    refine sp h1 (fun h1 => ?_) (fun h1 => ?_)
    ·have q := si h1; subst q
     exact gw rfl (far (k := 0) rfl fo40_0 ts3 rfl) (gw rfl (lod rfl (ld_box ts3 ta3 rfl rfl)) (gw rfl (far (k := 1) rfl fo42_1 ts3 rfl) (gw rfl (lod rfl (ld_box ts3 ta3 rfl rfl)) (gw rfl (bi rfl rfl q_i64_neq) (gw rfl (pkt rfl rfl) (s1 (pkf rfl rfl) (SO.nil ((wq rfl)))))))))
    ·have q := si h1; subst q
     exact kw rfl (kw rfl (kw rfl (kw rfl (kw rfl (gw rfl (pkf rfl rfl) (s1 (pkf rfl rfl) (SO.nil ((wq rfl)))))))))
 ·rintro y12 h0
  refine cB h0 rfl (fun h0 => ?_) (fun h0 => ?_)
  ·have q := si h0; subst q
   exact sr (sa rfl (sn (SC.ret (finR (wc (e' := [(4, .d (eI (8 : Int)))]) [] [] (by kernel_rfl) rfl (by kernel_rfl)) (lresT rfl lresN) rfl))))
  ·refine sk (sq (SC.seqP h0 (fun y => ⟨mk 46 [(45, .d (eB y))], []⟩) ?_ ?_))
   ·intro u1_17 h1
    refine SC.region (s1 (far (k := 0) rfl fo40_0 ts3 rfl) (s1 (lod rfl (ld_box ts3 ta3 rfl rfl)) (s1 (bi rfl rfl q_i64_eql) (sm rfl (sp h1 (fun h1 => ?_) (fun h1 => ?_))))))
    ·have q := si h1; subst q
     refine kw rfl (kw rfl (kw rfl (s1 (pkt rfl rfl) (sm rfl (gw rfl (far (k := 2) rfl fo40_2 ts9 rfl) (gw rfl (lod rfl (ld_box ts9 ta9 rfl rfl)) (gw rfl (len rfl rfl rfl (len_str un9)) (gw rfl (far (k := 2) rfl fo42_2 ts3 rfl) (gw rfl (lod rfl (ld_box ts3 ta3 rfl rfl)) ?_)))))))))
     exact gw rfl (bi rfl rfl q_i64_gtr) (s1 (pkt rfl rfl) (SO.nil ((wc [] [] (by kernel_rfl) rfl (by kernel_rfl)))))
    ·refine gw rfl (far (k := 0) rfl fo40_0 ts3 rfl) (gw rfl (lod rfl (ld_box ts3 ta3 rfl rfl)) (gw rfl (bi rfl rfl q_i64_eql) (s1 (pkf rfl rfl) (sm rfl (sp h1 (fun h1 => ?_) (fun h1 => ?_))))))
     ·have q := si h1; subst q
      exact gw rfl (far (k := 2) rfl fo40_2 ts9 rfl) (gw rfl (lod rfl (ld_box ts9 ta9 rfl rfl)) (gw rfl (len rfl rfl rfl (len_str un9)) (gw rfl (far (k := 2) rfl fo42_2 ts3 rfl) (gw rfl (lod rfl (ld_box ts3 ta3 rfl rfl)) (gw rfl (bi rfl rfl q_i64_gtr) (s1 (pkt rfl rfl) (SO.nil ((wc [] [] (by kernel_rfl) rfl (by kernel_rfl))))))))))
     ·have q := si h1; subst q
      exact kw rfl (kw rfl (kw rfl (kw rfl (kw rfl (kw rfl (s1 (pkf rfl rfl) (SO.nil ((wc [] [] (by kernel_rfl) rfl (by kernel_rfl))))))))))
   ·rintro y16 h0
    refine cB h0 rfl (fun h0 => ?_) (fun h0 => ?_)
    ·have q := si h0; subst q
     exact sr (sa rfl (sn (SC.ret (finR (Wk.refl _) (lresT rfl lresN) rfl))))
    ·have q := si h0; subst q
     exact sk (sr (sa rfl (sn (SC.ret (finR (Wk.refl _) (lresT rfl lresN) rfl)))))
noncomputable def ref06_Column (p0 : ApiColumn) : Option Int :=
 Option.bind (ref06_Name p0.Name) fun r10 =>
 bif (!r10) then
 some (1 : Int)
 else
 Option.bind (α := Bool)
 (bif (decide (p0.Kind < (1 : Int))) then
 some true
 else
 some (decide (p0.Kind > (5 : Int))))
 fun y12 =>
 bif y12 then
 some (8 : Int)
 else
 Option.bind (α := Bool)
 (bif (decide (p0.Kind < (4 : Int))) then
 bif (p0.Max != (0 : Int)) then
 some true
 else
 bif (decide (p0.Kind > (3 : Int))) then
 bif (decide (p0.Max < (1 : Int))) then
 some true
 else
 some (decide (p0.Max > (64 : Int)))
 else
 some false
 else
 bif (decide (p0.Kind > (3 : Int))) then
 bif (decide (p0.Max < (1 : Int))) then
 some true
 else
 some (decide (p0.Max > (64 : Int)))
 else
 some false)
 fun y14 =>
 bif y14 then
 some (7 : Int)
 else
 Option.bind (ref06_Fits p0 p0.Default) fun r16 =>
 some r16
theorem ref06_Column_ok (p0 : ApiColumn) (r : Int) (h0 : ref06_Column p0 = some r) : CallAt Tryz.prog 23 [.d (eApiColumn p0)] [] (.d (eI r)) [] := by
 unfold ref06_Column at h0
 refine fn0 [0] Tryz.func23 rfl rfl rfl rfl rfl ?_
 obtain ⟨r10, hq11, h0⟩ := ob h0
 refine sr (s1 (bxo (k := 0) rfl rfl rfl) (sa rfl (sn (sq (sr (s1 (far (k := 0) rfl fo42_0 ts9 rfl) (s1 (lod rfl (ld_box ts9 ta9 rfl rfl)) (c0 (ref06_Name_ok p0.Name _ hq11) wf rfl rfl rfl cb22 rfl (fun _ => rfl) (fun _ => rfl) (s1 (nt rfl) ?_)))))))))
 refine sn (cB h0 rfl (fun h0 => ?_) (fun h0 => ?_))
 ·have q := si h0; subst q
  exact sr (sa rfl (sn (SC.ret (finR (wc (e' := [(2, .d (eI (1 : Int)))]) [] [] (by kernel_rfl) rfl (by kernel_rfl)) (lresT rfl lresN) rfl))))
 ·refine sk (sq (SC.seqP h0 (fun y => ⟨mk 42 [(1, .ref 0 0 0), (14, .d (eB y))], [.box (.d (eApiColumn p0))]⟩) ?_ ?_))
  ·intro u1_13 h1
   refine SC.region (s1 (far (k := 1) rfl fo42_1 ts3 rfl) (s1 (lod rfl (ld_box ts3 ta3 rfl rfl)) (s1 (bi rfl rfl q_i64_lss) (sm rfl (sp h1 (fun h1 => ?_) (fun h1 => ?_))))))
   ·have q := si h1; subst q
    exact kw rfl (kw rfl (kw rfl (s1 (pkt rfl rfl) (SO.nil ((wq rfl))))))
   ·have q := si h1; subst q
    exact gw rfl (far (k := 1) rfl fo42_1 ts3 rfl) (gw rfl (lod rfl (ld_box ts3 ta3 rfl rfl)) (gw rfl (bi rfl rfl q_i64_gtr) (s1 (pkf rfl rfl) (SO.nil ((wq rfl))))))
  ·rintro y12 h0
   refine cB h0 rfl (fun h0 => ?_) (fun h0 => ?_)
   ·have q := si h0; subst q
    exact sr (sa rfl (sn (SC.ret (finR (wc (e' := [(2, .d (eI (8 : Int)))]) [] [] (by kernel_rfl) rfl (by kernel_rfl)) (lresT rfl lresN) rfl))))
   ·refine sk (sq (SC.seqP h0 (fun y => ⟨mk 42 [(1, .ref 0 0 0), (37, .d (eB y))], [.box (.d (eApiColumn p0))]⟩) ?_ ?_))
    ·intro u1_15 h1
     refine SC.region (s1 (far (k := 1) rfl fo42_1 ts3 rfl) (s1 (lod rfl (ld_box ts3 ta3 rfl rfl)) (s1 (bi rfl rfl q_i64_lss) (sm rfl (sp h1 (fun h1 => ?_) (fun h1 => ?_))))))
     ·refine gw rfl (far (k := 2) rfl fo42_2 ts3 rfl) (gw rfl (lod rfl (ld_box ts3 ta3 rfl rfl)) (gw rfl (bi rfl rfl q_i64_neq) (s1 (pkt rfl rfl) (sm rfl (sp h1 (fun h1 => ?_) (fun h1 => ?_))))))
      ·have q := si h1; subst q
       refine kw rfl (kw rfl (kw rfl (kw rfl (kw rfl (kw rfl (kw rfl (kw rfl (kw rfl (kw rfl ?_)))))))))
       exact kw rfl (kw rfl (kw rfl (s1 (pkt rfl rfl) (SO.nil ((wq rfl))))))
      ·refine gw rfl (far (k := 1) rfl fo42_1 ts3 rfl) (gw rfl (lod rfl (ld_box ts3 ta3 rfl rfl)) (gw rfl (bi rfl rfl q_i64_gtr) (gw rfl (mv rfl) (sp h1 (fun h1 => ?_) (fun h1 => ?_)))))
       ·refine gw rfl (far (k := 2) rfl fo42_2 ts3 rfl) (gw rfl (lod rfl (ld_box ts3 ta3 rfl rfl)) (gw rfl (bi rfl rfl q_i64_lss) (gw rfl (mv rfl) (sp h1 (fun h1 => ?_) (fun h1 => ?_)))))
        ·have q := si h1; subst q
         exact kw rfl (kw rfl (kw rfl (gw rfl (pkt rfl rfl) (gw rfl (pkt rfl rfl) (s1 (pkf rfl rfl) (SO.nil ((wq rfl))))))))
        ·have q := si h1; subst q
         exact gw rfl (far (k := 2) rfl fo42_2 ts3 rfl) (gw rfl (lod rfl (ld_box ts3 ta3 rfl rfl)) (gw rfl (bi rfl rfl q_i64_gtr) (gw rfl (pkf rfl rfl) (gw rfl (pkt rfl rfl) (s1 (pkf rfl rfl) (SO.nil ((wq rfl))))))))
       ·have q := si h1; subst q
        refine kw rfl (kw rfl (kw rfl (kw rfl (kw rfl (kw rfl (kw rfl (kw rfl (gw rfl (pkf rfl rfl) (s1 (pkf rfl rfl) ?_)))))))))
        exact SO.nil ((wq rfl))
     ·refine kw rfl (kw rfl (kw rfl (s1 (pkf rfl rfl) (sm rfl (gw rfl (far (k := 1) rfl fo42_1 ts3 rfl) (gw rfl (lod rfl (ld_box ts3 ta3 rfl rfl)) (gw rfl (bi rfl rfl q_i64_gtr) (gw rfl (mv rfl) (sp h1 (fun h1 => ?_) (fun h1 => ?_))))))))))
      ·refine gw rfl (far (k := 2) rfl fo42_2 ts3 rfl) (gw rfl (lod rfl (ld_box ts3 ta3 rfl rfl)) (gw rfl (bi rfl rfl q_i64_lss) (gw rfl (mv rfl) (sp h1 (fun h1 => ?_) (fun h1 => ?_)))))
       ·have q := si h1; subst q
        exact kw rfl (kw rfl (kw rfl (gw rfl (pkt rfl rfl) (gw rfl (pkt rfl rfl) (s1 (pkf rfl rfl) (SO.nil ((wq rfl))))))))
       ·have q := si h1; subst q
        exact gw rfl (far (k := 2) rfl fo42_2 ts3 rfl) (gw rfl (lod rfl (ld_box ts3 ta3 rfl rfl)) (gw rfl (bi rfl rfl q_i64_gtr) (gw rfl (pkf rfl rfl) (gw rfl (pkt rfl rfl) (s1 (pkf rfl rfl) (SO.nil ((wq rfl))))))))
      ·have q := si h1; subst q
       refine kw rfl (kw rfl (kw rfl (kw rfl (kw rfl (kw rfl (kw rfl (kw rfl (gw rfl (pkf rfl rfl) (s1 (pkf rfl rfl) ?_)))))))))
       exact SO.nil ((wq rfl))
    ·rintro y14 h0
     refine cB h0 rfl (fun h0 => ?_) (fun h0 => ?_)
     ·have q := si h0; subst q
      exact sr (sa rfl (sn (SC.ret (finR (wc (e' := [(2, .d (eI (7 : Int)))]) [] [] (by kernel_rfl) rfl (by kernel_rfl)) (lresT rfl lresN) rfl))))
     ·obtain ⟨r16, hq17, h0⟩ := ob h0; have q := si h0; subst q
      exact sk (sr (s1 (lod (v := .d (eApiColumn p0)) rfl (ld_box ts42 ta42 rfl rfl)) (s1 (far (k := 4) rfl fo42_4 ts40 rfl) (s1 (lod (v := .d (eApiValue p0.Default)) rfl (ld_box ts40 ta40 rfl rfl)) (c0 (ref06_Fits_ok p0 p0.Default _ hq17) wf rfl rfl rfl cb46 rfl (fun _ => rfl) (fun _ => rfl) (sa rfl (sn (SC.ret (finR (wc (e' := [(2, .d (eI r16))]) [] [] (by kernel_rfl) rfl (by kernel_rfl)) (lresT rfl lresN) rfl)))))))))
noncomputable def ref17_Has (p0 : List Int) (p1 : Int) : Option Bool :=
 bindE (Y := Unit) (E := Bool)
 (Option.bind (α := Unit ⊕ Bool)
 (loop (Y := Int) (W := Unit ⊕ Bool) (fun y29 =>
 bif (decide (y29 < (p0.length : Int))) then
 Option.bind (getI p0 y29) fun v34 =>
 bif (v34 == p1) then
 some (Sum.inr (Sum.inr true))
 else
 some (Sum.inl (w64 (y29 + (1 : Int))))
 else
 some (Sum.inr (Sum.inl ()))) (0 : Int))
 (Sum.elim (fun e => some (Sum.inl e)) (fun e => some (Sum.inr e))))
 (fun _ =>
 some false)
 (fun e => some e)
theorem ref17_Has_ok (p0 : List Int) (p1 : Int) (r : Bool) (h0 : ref17_Has p0 p1 = some r) : CallAt Tryz.prog 47 [.d ((eL 1 eI) p0), .d (eI p1)] [] (.d (eB r)) [] := by
 unfold ref17_Has at h0
 refine fn0 [0, 1] Tryz.func47 rfl rfl rfl rfl rfl ?_
 refine sr (sa rfl (sn (SC.seqB h0 (fun y => ⟨mk 18 [], []⟩) ?_ ?_)))
 ·intro u1_27 h1 h0
  obtain ⟨u2_33, h2, h1⟩ := ob h1
  refine sr (sa rfl (sn (SC.blk (SC.loopB h2 (fun y => ⟨mk 18 [(0, .d ((eL 1 eI) p0)), (1, .d (eI p1)), (5, .d (eI y))], []⟩) (wq rfl) ?_))))
  intro n35
  rintro y29 w2_32 h3 hv3
  refine sq (sr (sm rfl (sm rfl (s1 (len rfl rfl rfl (len_lst un23)) (s1 (bi rfl rfl q_i64_lss) (sn (cB h3 rfl (fun h3 => ?_) (fun h3 => ?_))))))))
  ·obtain ⟨v34, hv34, h3⟩ := ob h3
   refine sk (sq (SC.blk (sr (sm rfl (sm rfl (s1 (ial rfl rfl un23 ts3 (getI_some hv34).1 (map_get (getI_some hv34).2) rfl) (s1 (lod rfl (ld_rop ts3 ta3 rfl)) (sm rfl (s1 (bi rfl rfl q_i64_eql) ?_)))))))))
   refine sn (cB h3 rfl (fun h3 => ?_) (fun h3 => ?_))
   ·have q := si h3; subst q; have q : _ = _ := hv3; subst q; have q := si h1; subst q; have q := si h0; subst q
    exact sr (sa rfl (sn (SC.ret (finR (Wk.refl _) (lresT rfl lresN) rfl))))
   ·refine SC.skip ?_
    change SC _ _ _ _ _
    have q := si h3; subst q
    exact SC.region (sm rfl (s1 (bi rfl rfl q_i64_add) (sa rfl (SO.nil (lf (wq rfl))))))
  ·have q := si h3; subst q; have q : _ = _ := hv3; subst q; have q := si h1; subst q
   exact SC.exit (lf (wq rfl))
 ·intro _ h0
  have q := si h0; subst q
  exact sr (sa rfl (sn (SC.ret (finR (Wk.refl _) (lresT rfl lresN) rfl))))
noncomputable def ref17_places (p0 : Int) (p1 : List Int) : Option Bool :=
 bindE (Y := Unit) (E := Bool)
 (Option.bind (α := Unit ⊕ Bool)
 (loop (Y := Int) (W := Unit ⊕ Bool) (fun y159 =>
 bif (decide (y159 < (p1.length : Int))) then
 Option.bind (α := Bool)
 (Option.bind (getI p1 y159) fun v185 =>
 bif (decide (v185 < (0 : Int))) then
 some true
 else
 Option.bind (getI p1 y159) fun v186 =>
 bif (decide (v186 ≥ p0)) then
 some true
 else
 bif decide (0 ≤ y159 ∧ y159 ≤ (p1.length : Int)) then
 Option.bind (getI p1 y159) fun v188 =>
 Option.bind (ref17_Has (List.take y159.toNat p1) v188) fun r189 =>
 some r189
 else none)
 fun y183 =>
 bif y183 then
 some (Sum.inr (Sum.inr false))
 else
 some (Sum.inl (w64 (y159 + (1 : Int))))
 else
 some (Sum.inr (Sum.inl ()))) (0 : Int))
 (Sum.elim (fun e => some (Sum.inl e)) (fun e => some (Sum.inr e))))
 (fun _ =>
 some true)
 (fun e => some e)
theorem ref17_places_ok (p0 : Int) (p1 : List Int) (r : Bool) (h0 : ref17_places p0 p1 = some r) : CallAt Tryz.prog 24 [.d (eI p0), .d ((eL 1 eI) p1)] [] (.d (eB r)) [] := by
 unfold ref17_places at h0
 refine fn0 [0, 1] Tryz.func24 rfl rfl rfl rfl rfl ?_
 refine sr (sa rfl (sn (SC.seqB h0 (fun y => ⟨mk 35 [], []⟩) ?_ ?_)))
 ·intro u1_144 h1 h0
  obtain ⟨u2_176, h2, h1⟩ := ob h1
  refine sr (sa rfl (sn (SC.blk (SC.loopB h2 (fun y => ⟨mk 35 [(0, .d (eI p0)), (1, .d ((eL 1 eI) p1)), (5, .d (eI y))], []⟩) (wq rfl) ?_))))
  intro n191
  rintro y159 w2_175 h3 hv3
  refine sq (sr (sm rfl (sm rfl (s1 (len rfl rfl rfl (len_lst un23)) (s1 (bi rfl rfl q_i64_lss) (sn (cB h3 rfl (fun h3 => ?_) (fun h3 => ?_))))))))
  ·refine sk (sq (SC.blk (SC.seqP h3 (fun y => ⟨mk 35 [(0, .d (eI p0)), (1, .d ((eL 1 eI) p1)), (5, .d (eI y159)), (34, .d (eB y))], []⟩) ?_ ?_)))
   ·intro u4_184 h4
    obtain ⟨v185, hv185, h4⟩ := ob h4
    refine SC.draws (by kernel_rfl) (t1 ([], false) (mv rfl) rfl (t1 ([], false) (mv rfl) rfl (t1 ([], false) (ial rfl rfl un23 ts3 (getI_some hv185).1 (map_get (getI_some hv185).2) rfl) rfl (t1 ([], false) (lod rfl (ld_rop ts3 ta3 rfl)) rfl (t1 ([], false) (bi rfl rfl q_i64_lss) rfl (t1 ([], false) (mv rfl) rfl (tp h4 (fun h4 => ?_) (fun h4 => ?_))))))))
    ·have q := si h4; subst q
     refine jw rfl (jw rfl (jw rfl (jw rfl (jw rfl (jw rfl (t1 ([], false) (pkt rfl rfl) rfl (t1 ([], false) (mv rfl) rfl (jw rfl (jw rfl ?_)))))))))
     refine jw rfl (jw rfl (jw rfl (jw rfl (jw rfl (jw rfl (t1 ([], false) (pkt rfl rfl) rfl (ST.nil (And.intro (by decide +kernel) ?_))))))))
     exact (wq rfl)
    ·obtain ⟨v186, hv186, h4⟩ := ob h4
     refine u1 ([], false) (ww rfl) (mv rfl) rfl (u1 ([], false) (ww rfl) (mv rfl) rfl (u1 ([], false) (ww rfl) (ial rfl rfl un23 ts3 (getI_some hv186).1 (map_get (getI_some hv186).2) rfl) rfl (u1 ([], false) (ww rfl) (lod rfl (ld_rop ts3 ta3 rfl)) rfl (u1 ([], false) (ww rfl) (mv rfl) rfl (u1 ([], false) (ww rfl) (bi rfl rfl q_i64_geq) rfl (t1 ([], false) (pkf rfl rfl) rfl (t1 ([], false) (mv rfl) rfl (tp h4 (fun h4 => ?_) (fun h4 => ?_)))))))))
     ·have q := si h4; subst q
      refine jw rfl (jw rfl (jw rfl (jw rfl (jw rfl (jw rfl (jw rfl (jw rfl (t1 ([], false) (pkt rfl rfl) rfl (ST.nil (And.intro (by decide +kernel) ?_))))))))))
      exact (wq rfl)
     ·obtain ⟨hg187, h4⟩ := gd h4; obtain ⟨v188, hv188, h4⟩ := ob h4; obtain ⟨r189, hq190, h4⟩ := ob h4; have q := si h4; subst q
      refine u1 ([], false) (ww rfl) (mv rfl) rfl (u1 ([], false) (ww rfl) (mv rfl) rfl (u1 ([], false) (ww rfl) (slo rfl rfl rfl rfl (sl_lst_hi un23 ts3 hg187)) rfl (u1 ([], false) (ww rfl) (mv rfl) rfl (u1 ([], false) (ww rfl) (mv rfl) rfl (u1 ([], false) (ww rfl) (ial rfl rfl un23 ts3 (getI_some hv188).1 (map_get (getI_some hv188).2) rfl) rfl (u1 ([], false) (ww rfl) (lod rfl (ld_rop ts3 ta3 rfl)) rfl (tc0 (ref17_Has_ok (List.take y159.toNat p1) v188 _ hq190) (ww rfl) rfl rfl rfl cb47 rfl (fun _ => rfl) (fun _ => rfl) (t1 ([], false) (pkf rfl rfl) rfl (ST.nil (And.intro (by decide +kernel) ?_))))))))))
      exact (wq rfl)
   ·rintro y183 h3
    refine cB h3 rfl (fun h3 => ?_) (fun h3 => ?_)
    ·have q := si h3; subst q; have q : _ = _ := hv3; subst q; have q := si h1; subst q; have q := si h0; subst q
     exact sr (sa rfl (sn (SC.ret (finR (Wk.refl _) (lresT rfl lresN) rfl))))
    ·refine SC.skip ?_
     change SC _ _ _ _ _
     have q := si h3; subst q
     exact SC.region (sm rfl (s1 (bi rfl rfl q_i64_add) (sa rfl (SO.nil (lf (wq rfl))))))
  ·have q := si h3; subst q; have q : _ = _ := hv3; subst q; have q := si h1; subst q
   exact SC.exit (lf (wq rfl))
 ·intro _ h0
  have q := si h0; subst q
  exact sr (sa rfl (sn (SC.ret (finR (Wk.refl _) (lresT rfl lresN) rfl))))
noncomputable def ref17_wide (p0 : ApiColumn) (p1 : Int) : Option Int :=
 Option.bind (α := Bool)
 (bif (p0.Kind == (1 : Int)) then
 some (p0.Kind == (1 : Int))
 else
 some (p0.Kind == (2 : Int)))
 fun y4 =>
 bif y4 then
 some (9 : Int)
 else
 bif (p0.Kind == (3 : Int)) then
 some (2 : Int)
 else
 some (w64 ((3 : Int) + (w64 (p1 * p0.Max))))
theorem ref17_wide_ok (p0 : ApiColumn) (p1 : Int) (r : Int) (h0 : ref17_wide p0 p1 = some r) : CallAt Tryz.prog 41 [.d (eApiColumn p0), .d (eI p1)] [] (.d (eI r)) [] := by
 unfold ref17_wide at h0
 refine fn0 [0, 1] Tryz.func41 rfl rfl rfl rfl rfl ?_
 refine sr (s1 (bxo (k := 0) rfl rfl rfl) (sa rfl (sn (sq (sr (s1 (far (k := 1) rfl fo42_1 ts3 rfl) (s1 (lod rfl (ld_box ts3 ta3 rfl rfl)) (sn (SC.blk ?_)))))))))
 refine SC.seqP h0 (fun y => ⟨mk 17 [(1, .d (eI p1)), (2, .ref 0 0 0), (6, .d (eI p0.Kind)), (7, .d (eB y))], [.box (.d (eApiColumn p0))]⟩) ?_ ?_
 ·intro u1_5 h1
  refine sr (s1 (bi rfl rfl q_i64_eql) (sa rfl (sn (cB h1 rfl (fun h1 => ?_) (fun h1 => ?_)))))
  ·have q := si h1; subst q
   exact SC.skip ((wq rfl))
  ·have q := si h1; subst q
   exact SC.region (s1 (bi rfl rfl q_i64_eql) (sa rfl (SO.nil ((wq rfl)))))
 ·rintro y4 h0
  refine cB h0 rfl (fun h0 => ?_) (fun h0 => ?_)
  ·have q := si h0; subst q
   exact sr (sa rfl (sn (SC.ret (finR (wc (e' := [(4, .d (eI (9 : Int)))]) [] [] (by kernel_rfl) rfl (by kernel_rfl)) (lresT rfl lresN) rfl))))
  ·refine sr (s1 (bi rfl rfl q_i64_eql) (sa rfl (sn (cB h0 rfl (fun h0 => ?_) (fun h0 => ?_)))))
   ·have q := si h0; subst q
    exact sr (sa rfl (sn (SC.ret (finR (wc (e' := [(4, .d (eI (2 : Int)))]) [] [] (by kernel_rfl) rfl (by kernel_rfl)) (lresT rfl lresN) rfl))))
   ·refine SC.skip ?_
    change SC _ _ _ _ _
    have q := si h0; subst q
    exact sr (sm rfl (s1 (far (k := 2) rfl fo42_2 ts3 rfl) (s1 (lod rfl (ld_box ts3 ta3 rfl rfl)) (s1 (bi rfl rfl q_i64_mul) (s1 (bi rfl rfl q_i64_add) (sa rfl (sn (SC.ret (finR (wc (e' := [(4, .d (eI (w64 ((3 : Int) + (w64 (p1 * p0.Max))))))]) [] [] (by kernel_rfl) rfl (by kernel_rfl)) (lresT rfl lresN) rfl)))))))))
noncomputable def ref17_RowMax (p0 : List ApiColumn) : Option Int :=
 Option.bind (α := Int)
 (Option.bind (α := Int)
 (loop (Y := Int × Int) (W := Int) (fun (y57, y58) =>
 bif (decide (y58 < (p0.length : Int))) then
 Option.bind (getI p0 y58) fun v66 =>
 Option.bind (ref17_wide v66 (1 : Int)) fun r67 =>
 some (Sum.inl ((w64 (y57 + r67)), (w64 (y58 + (1 : Int)))))
 else
 some (Sum.inr y57)) ((1 : Int), (0 : Int)))
 (fun e => some e))
 fun y52 =>
 some y52
theorem ref17_RowMax_ok (p0 : List ApiColumn) (r : Int) (h0 : ref17_RowMax p0 = some r) : CallAt Tryz.prog 13 [.d ((eL 7 eApiColumn) p0)] [] (.d (eI r)) [] := by
 unfold ref17_RowMax at h0
 refine fn0 [0] Tryz.func13 rfl rfl rfl rfl rfl ?_
 refine sr (sa rfl (sn (sr (sa rfl (sn (SC.seqP h0 (fun y => ⟨mk 19 [(3, .d (eI y))], []⟩) ?_ ?_))))))
 ·intro u1_53 h1
  obtain ⟨u2_65, h2, h1⟩ := ob h1
  refine sr (sa rfl (sn (SC.blk (SC.loopB h2 (fun y => ⟨mk 19 [(0, .d ((eL 7 eApiColumn) p0)), (3, .d (eI y.1)), (4, .d (eI y.2))], []⟩) (wq rfl) ?_))))
  intro n69
  rintro ⟨y57, y58⟩ w2_64 h3 hv3
  refine sq (sr (sm rfl (sm rfl (s1 (len rfl rfl rfl (len_lst un22)) (s1 (bi rfl rfl q_i64_lss) (sn (cB h3 rfl (fun h3 => ?_) (fun h3 => ?_))))))))
  ·obtain ⟨v66, hv66, h3⟩ := ob h3; obtain ⟨r67, hq68, h3⟩ := ob h3
   refine sk (sq (SC.blk (SC.region (sm rfl (sm rfl (sm rfl (s1 (ial rfl rfl un22 ts42 (getI_some hv66).1 (map_get (getI_some hv66).2) rfl) (s1 (lod (v := .d (eApiColumn v66)) rfl (ld_rop ts42 ta42 rfl)) (c0 (ref17_wide_ok v66 (1 : Int) _ hq68) wf rfl rfl rfl cb41 rfl (fun _ => rfl) (fun _ => rfl) ?_)))))))))
   refine s1 (bi rfl rfl q_i64_add) (sa rfl (SO.nil ?_))
   change SC _ _ _ _ _
   have q := si h3; subst q
   exact SC.region (sm rfl (s1 (bi rfl rfl q_i64_add) (sa rfl (SO.nil (lf (wq rfl))))))
  ·have q := si h3; subst q; have q : _ = _ := hv3; subst q; have q := si h1; subst q
   exact SC.exit ((wq rfl))
 ·rintro y52 h0
  have q := si h0; subst q
  exact sr (sm rfl (sa rfl (sn (SC.ret (finR (Wk.refl _) (lresT rfl lresN) rfl)))))
noncomputable def ref17_Up (p0 : List Int) : Option ((List ApiPart)) :=
 Option.bind (α := (List ApiPart))
 (Option.bind (α := (List ApiPart))
 (loop (Y := (List ApiPart) × Int) (W := (List ApiPart)) (fun (y47, y48) =>
 bif (decide (y48 < (p0.length : Int))) then
 Option.bind (getI p0 y48) fun v55 =>
 bif decide ((y47.length + [(ApiPart.mk v55 false)].length) * 16 ≤ room) then
 some (Sum.inl ((y47 ++ [(ApiPart.mk v55 false)]), (w64 (y48 + (1 : Int)))))
 else none
 else
 some (Sum.inr y47)) (([] : List ApiPart), (0 : Int)))
 (fun e => some e))
 fun y43 =>
 some y43
theorem ref17_Up_ok (p0 : List Int) (r : (List ApiPart)) (h0 : ref17_Up p0 = some r) : CallAt Tryz.prog 25 [.d ((eL 1 eI) p0)] [] (.d ((eL 2 eApiPart) r)) [] := by
 unfold ref17_Up at h0
 refine fn0 [0] Tryz.func25 rfl rfl rfl rfl rfl ?_
 refine sr (s1 (asg (v := .d .nils) rfl) (sn (sr (s1 (asg (v := .d .nils) rfl) (sn (SC.seqP h0 (fun y => ⟨mk 20 [(3, .slc 0 2 0 y.length none)], [.row 2 (List.map eApiPart y) true]⟩) ?_ ?_))))))
 ·intro u1_44 h1
  obtain ⟨u2_54, h2, h1⟩ := ob h1
  refine sr (sa rfl (sn (SC.blk (SC.loopB h2 (fun y => ⟨mk 20 [(0, .d ((eL 1 eI) p0)), (3, .slc 0 2 0 y.1.length none), (4, .d (eI y.2))], [.row 2 (List.map eApiPart y.1) true]⟩) (Wk.trans (Wk.pushE (σ' := [.row 2 (List.map eApiPart ([] : List ApiPart)) true]) (.row 2 [] true) (fun _ hh => by cases hh) rfl) (Wk.trans (Wk.env (e' := [(0, .d ((eL 1 eI) p0)), (3, .slc 0 2 0 (([] : List ApiPart).length) none), (4, .d (eI (0 : Int)))]) (EW.cons (AW.refl _) (EW.cons (AW.slcn _ _ _) (EW.cons (AW.refl _) EW.nil)))) (wq rfl))) ?_))))
  intro n57
  rintro ⟨y47, y48⟩ w2_53 h3 hv3
  refine sq (sr (sm rfl (sm rfl (s1 (len rfl rfl rfl (len_lst un23)) (s1 (bi rfl rfl q_i64_lss) (sn (cB h3 rfl (fun h3 => ?_) (fun h3 => ?_))))))))
  ·obtain ⟨v55, hv55, h3⟩ := ob h3; obtain ⟨hg56, h3⟩ := gd h3
   refine sk (sq (SC.blk (SC.region (sm rfl (sm rfl (sm rfl (s1 (ial rfl rfl un23 ts3 (getI_some hv55).1 (map_get (getI_some hv55).2) rfl) (s1 (lod rfl (ld_rop ts3 ta3 rfl)) (s1 (bld rfl (bd48_0 v55)) ?_)))))))))
   refine s1 (bsn (k := 1) (ds := List.map eApiPart [(ApiPart.mk v55 false)]) (off := 0) (l' := [(ApiPart.mk v55 false)].length) rfl un27 ei48 rfl rfl (by rfl) rfl rfl rfl) (s1 (app rfl rfl rfl rfl bc27 (aF (f := eApiPart) (xs := y47) (k := 2) rfl un27 ei48 rfl (el_full (xs := [(ApiPart.mk v55 false)]) rfl) hg56 rfl)) (sa rfl (SO.nil ?_)))
   change SC _ _ _ _ _
   have q := si h3; subst q
   exact SC.region (sm rfl (s1 (bi rfl rfl q_i64_add) (sa rfl (SO.nil (lf (wc [2] [2] (by kernel_rfl) rfl (by kernel_rfl)))))))
  ·have q := si h3; subst q; have q : _ = _ := hv3; subst q; have q := si h1; subst q
   exact SC.exit ((wq rfl))
 ·rintro y43 h0
  have q := si h0; subst q
  exact sr (sm rfl (sa rfl (sn (SC.ret (finR (Wk.trans (Wk.frz (i := 2) (x := .slc 0 2 0 y43.length none) rfl rfl (fF rfl rfl rfl)) (wc (e' := [(2, .d ((eL 2 eApiPart) y43))]) [] [] (by kernel_rfl) rfl (by kernel_rfl))) (lresT rfl lresN) rfl)))))
noncomputable def ref17_KeyMax (p0 : List ApiColumn) (p1 : List ApiPart) : Option Int :=
 Option.bind (α := Int)
 (Option.bind (α := Int)
 (loop (Y := Int × Int) (W := Int) (fun (y67, y68) =>
 bif (decide (y68 < (p1.length : Int))) then
 Option.bind (getI p1 y68) fun v77 =>
 Option.bind (getI p0 v77.Col) fun v78 =>
 Option.bind (ref17_wide v78 (2 : Int)) fun r79 =>
 some (Sum.inl ((w64 (y67 + r79)), (w64 (y68 + (1 : Int)))))
 else
 some (Sum.inr y67)) ((0 : Int), (0 : Int)))
 (fun e => some e))
 fun y61 =>
 some y61
theorem ref17_KeyMax_ok (p0 : List ApiColumn) (p1 : List ApiPart) (r : Int) (h0 : ref17_KeyMax p0 p1 = some r) : CallAt Tryz.prog 18 [.d ((eL 7 eApiColumn) p0), .d ((eL 2 eApiPart) p1)] [] (.d (eI r)) [] := by
 unfold ref17_KeyMax at h0
 refine fn0 [0, 1] Tryz.func18 rfl rfl rfl rfl rfl ?_
 refine sr (sa rfl (sn (sr (sa rfl (sn (SC.seqP h0 (fun y => ⟨mk 25 [(5, .d (eI y))], []⟩) ?_ ?_))))))
 ·intro u1_62 h1
  obtain ⟨u2_76, h2, h1⟩ := ob h1
  refine sr (sa rfl (sn (SC.blk (SC.loopB h2 (fun y => ⟨mk 25 [(0, .d ((eL 7 eApiColumn) p0)), (1, .d ((eL 2 eApiPart) p1)), (5, .d (eI y.1)), (6, .d (eI y.2))], []⟩) (wq rfl) ?_))))
  intro n81
  rintro ⟨y67, y68⟩ w2_75 h3 hv3
  refine sq (sr (sm rfl (sm rfl (s1 (len rfl rfl rfl (len_lst un27)) (s1 (bi rfl rfl q_i64_lss) (sn (cB h3 rfl (fun h3 => ?_) (fun h3 => ?_))))))))
  ·obtain ⟨v77, hv77, h3⟩ := ob h3; obtain ⟨v78, hv78, h3⟩ := ob h3; obtain ⟨r79, hq80, h3⟩ := ob h3
   refine sk (sq (SC.blk (SC.region (sm rfl (sm rfl (sm rfl (sm rfl (s1 (ial rfl rfl un27 ts48 (getI_some hv77).1 (map_get (getI_some hv77).2) rfl) (s1 (fap rfl fo48_0 ts3 rfl) ?_)))))))))
   refine s1 (lod rfl (ld_rop ts3 ta3 rfl)) (s1 (ial rfl rfl un22 ts42 (getI_some hv78).1 (map_get (getI_some hv78).2) rfl) (s1 (lod (v := .d (eApiColumn v78)) rfl (ld_rop ts42 ta42 rfl)) (c0 (ref17_wide_ok v78 (2 : Int) _ hq80) wf rfl rfl rfl cb41 rfl (fun _ => rfl) (fun _ => rfl) (s1 (bi rfl rfl q_i64_add) (sa rfl (SO.nil ?_))))))
   change SC _ _ _ _ _
   have q := si h3; subst q
   exact SC.region (sm rfl (s1 (bi rfl rfl q_i64_add) (sa rfl (SO.nil (lf (wq rfl))))))
  ·have q := si h3; subst q; have q : _ = _ := hv3; subst q; have q := si h1; subst q
   exact SC.exit ((wq rfl))
 ·rintro y61 h0
  have q := si h0; subst q
  exact sr (sm rfl (sa rfl (sn (SC.ret (finR (Wk.refl _) (lresT rfl lresN) rfl)))))
noncomputable def ref17_Cols (p0 : List ApiPart) : Option ((List Int)) :=
 Option.bind (α := (List Int))
 (Option.bind (α := (List Int))
 (loop (Y := (List Int) × Int) (W := (List Int)) (fun (y47, y48) =>
 bif (decide (y48 < (p0.length : Int))) then
 Option.bind (getI p0 y48) fun v55 =>
 bif decide ((y47.length + [v55.Col].length) * 8 ≤ room) then
 some (Sum.inl ((y47 ++ [v55.Col]), (w64 (y48 + (1 : Int)))))
 else none
 else
 some (Sum.inr y47)) (([] : List Int), (0 : Int)))
 (fun e => some e))
 fun y43 =>
 some y43
theorem ref17_Cols_ok (p0 : List ApiPart) (r : (List Int)) (h0 : ref17_Cols p0 = some r) : CallAt Tryz.prog 48 [.d ((eL 2 eApiPart) p0)] [] (.d ((eL 1 eI) r)) [] := by
 unfold ref17_Cols at h0
 refine fn0 [0] Tryz.func48 rfl rfl rfl rfl rfl ?_
 refine sr (s1 (asg (v := .d .nils) rfl) (sn (sr (s1 (asg (v := .d .nils) rfl) (sn (SC.seqP h0 (fun y => ⟨mk 20 [(3, .slc 0 1 0 y.length none)], [.row 1 (List.map eI y) true]⟩) ?_ ?_))))))
 ·intro u1_44 h1
  obtain ⟨u2_54, h2, h1⟩ := ob h1
  refine sr (sa rfl (sn (SC.blk (SC.loopB h2 (fun y => ⟨mk 20 [(0, .d ((eL 2 eApiPart) p0)), (3, .slc 0 1 0 y.1.length none), (4, .d (eI y.2))], [.row 1 (List.map eI y.1) true]⟩) (Wk.trans (Wk.pushE (σ' := [.row 1 (List.map eI ([] : List Int)) true]) (.row 1 [] true) (fun _ hh => by cases hh) rfl) (Wk.trans (Wk.env (e' := [(0, .d ((eL 2 eApiPart) p0)), (3, .slc 0 1 0 (([] : List Int).length) none), (4, .d (eI (0 : Int)))]) (EW.cons (AW.refl _) (EW.cons (AW.slcn _ _ _) (EW.cons (AW.refl _) EW.nil)))) (wq rfl))) ?_))))
  intro n57
  rintro ⟨y47, y48⟩ w2_53 h3 hv3
  refine sq (sr (sm rfl (sm rfl (s1 (len rfl rfl rfl (len_lst un27)) (s1 (bi rfl rfl q_i64_lss) (sn (cB h3 rfl (fun h3 => ?_) (fun h3 => ?_))))))))
  ·obtain ⟨v55, hv55, h3⟩ := ob h3; obtain ⟨hg56, h3⟩ := gd h3
   refine sk (sq (SC.blk (SC.region (sm rfl (sm rfl (sm rfl (s1 (ial rfl rfl un27 ts48 (getI_some hv55).1 (map_get (getI_some hv55).2) rfl) (s1 (fap rfl fo48_0 ts3 rfl) (s1 (lod rfl (ld_rop ts3 ta3 rfl)) ?_)))))))))
   refine s1 (bsn (k := 1) (ds := List.map eI [v55.Col]) (off := 0) (l' := [v55.Col].length) rfl un23 ei3 rfl rfl (by rfl) rfl rfl rfl) (s1 (app rfl rfl rfl rfl bc23 (aF (f := eI) (xs := y47) (k := 2) rfl un23 ei3 rfl (el_full (xs := [v55.Col]) rfl) hg56 rfl)) (sa rfl (SO.nil ?_)))
   change SC _ _ _ _ _
   have q := si h3; subst q
   exact SC.region (sm rfl (s1 (bi rfl rfl q_i64_add) (sa rfl (SO.nil (lf (wc [2] [2] (by kernel_rfl) rfl (by kernel_rfl)))))))
  ·have q := si h3; subst q; have q : _ = _ := hv3; subst q; have q := si h1; subst q
   exact SC.exit ((wq rfl))
 ·rintro y43 h0
  have q := si h0; subst q
  exact sr (sm rfl (sa rfl (sn (SC.ret (finR (Wk.trans (Wk.frz (i := 2) (x := .slc 0 1 0 y43.length none) rfl rfl (fF rfl rfl rfl)) (wc (e' := [(2, .d ((eL 1 eI) y43))]) [] [] (by kernel_rfl) rfl (by kernel_rfl))) (lresT rfl lresN) rfl)))))
noncomputable def ref17_index (p0 : ApiTable) (p1 : ApiIndex) : Option Int :=
 Option.bind (α := Bool)
 (bif (decide ((p1.Parts.length : Int) < (1 : Int))) then
 some true
 else
 bif (decide ((p1.Parts.length : Int) > (4 : Int))) then
 some true
 else
 Option.bind (ref17_Cols p1.Parts) fun r145 =>
 Option.bind (ref17_places (p0.Cols.length : Int) r145) fun r147 =>
 bif (!r147) then
 some true
 else
 Option.bind (ref17_places (p0.Cols.length : Int) p1.Extra) fun r149 =>
 some (!r149))
 fun y143 =>
 bif y143 then
 some (1 : Int)
 else
 bindE (Y := Unit) (E := Int)
 (Option.bind (α := Unit ⊕ Int)
 (loop (Y := Int) (W := Unit ⊕ Int) (fun y229 =>
 bif (decide (y229 < (p1.Extra.length : Int))) then
 Option.bind (α := Bool)
 (Option.bind (ref17_Cols p1.Parts) fun r261 =>
 Option.bind (getI p1.Extra y229) fun v263 =>
 Option.bind (ref17_Has r261 v263) fun r264 =>
 bif r264 then
 some true
 else
 Option.bind (getI p1.Extra y229) fun v266 =>
 Option.bind (ref17_Has p0.Primary v266) fun r267 =>
 some r267)
 fun y259 =>
 bif y259 then
 some (Sum.inr (Sum.inr (1 : Int)))
 else
 some (Sum.inl (w64 (y229 + (1 : Int))))
 else
 some (Sum.inr (Sum.inl ()))) (0 : Int))
 (Sum.elim (fun e => some (Sum.inl e)) (fun e => some (Sum.inr e))))
 (fun _ =>
 Option.bind (ref17_KeyMax p0.Cols p1.Parts) fun r270 =>
 bif (decide (r270 > (128 : Int))) then
 some (7 : Int)
 else
 some (0 : Int))
 (fun e => some e)
theorem ref17_index_ok (p0 : ApiTable) (p1 : ApiIndex) (r : Int) (h0 : ref17_index p0 p1 = some r) : CallAt Tryz.prog 26 [.d (eApiTable p0), .d (eApiIndex p1)] [] (.d (eI r)) [] := by
 unfold ref17_index at h0
 refine fn0 [0, 1] Tryz.func26 rfl rfl rfl rfl rfl ?_
 refine sr (s1 (bxo (k := 0) rfl rfl rfl) (s1 (bxo (k := 1) rfl rfl rfl) (sa rfl (sn (sr (s1 (far (k := 1) rfl fo26_1 ts22 rfl) (s1 (lod rfl (ld_box ts22 ta22 rfl rfl)) (s1 (len rfl rfl rfl (len_lst un22)) (sa rfl ?_)))))))))
 refine sn (sq (SC.seqP h0 (fun y => ⟨mk 67 [(2, .ref 0 0 0), (3, .ref 1 0 0), (34, .d (eB y))], [.box (.d (eApiTable p0)), .box (.d (eApiIndex p1))]⟩) ?_ ?_))
 ·intro u1_144 h1
  refine SC.region (s1 (far (k := 1) rfl fo29_1 ts27 rfl) (s1 (lod rfl (ld_box ts27 ta27 rfl rfl)) (s1 (len rfl rfl rfl (len_lst un27)) (s1 (bi rfl rfl q_i64_lss) (sm rfl (sp h1 (fun h1 => ?_) (fun h1 => ?_)))))))
  ·have q := si h1; subst q
   refine kw rfl (kw rfl (kw rfl (kw rfl (s1 (pkt rfl rfl) (sm rfl (kw rfl (kw rfl (kw rfl (kw rfl ?_)))))))))
   refine kw rfl (kw rfl (s1 (pkt rfl rfl) (sm rfl (kw rfl (kw rfl (kw rfl (kw rfl (kw rfl (s1 (pkt rfl rfl) ?_)))))))))
   exact SO.nil ((wq rfl))
  ·refine gw rfl (far (k := 1) rfl fo29_1 ts27 rfl) (gw rfl (lod rfl (ld_box ts27 ta27 rfl rfl)) (gw rfl (len rfl rfl rfl (len_lst un27)) (gw rfl (bi rfl rfl q_i64_gtr) (s1 (pkf rfl rfl) (sm rfl (sp h1 (fun h1 => ?_) (fun h1 => ?_)))))))
   ·have q := si h1; subst q
    refine kw rfl (kw rfl (kw rfl (kw rfl (kw rfl (kw rfl (s1 (pkt rfl rfl) (sm rfl (kw rfl (kw rfl ?_)))))))))
    exact kw rfl (kw rfl (kw rfl (s1 (pkt rfl rfl) (SO.nil ((wq rfl))))))
   ·obtain ⟨r145, hq146, h1⟩ := ob h1; obtain ⟨r147, hq148, h1⟩ := ob h1
    refine gw rfl (mv rfl) (gw rfl (far (k := 1) rfl fo29_1 ts27 rfl) (gw rfl (lod rfl (ld_box ts27 ta27 rfl rfl)) (c0 (ref17_Cols_ok p1.Parts _ hq146) (ww rfl) rfl rfl rfl cb48 rfl (fun _ => rfl) (fun _ => rfl) (c0 (ref17_places_ok (p0.Cols.length : Int) r145 _ hq148) (ww rfl) rfl rfl rfl cb24 rfl (fun _ => rfl) (fun _ => rfl) (gw rfl (nt rfl) (s1 (pkf rfl rfl) (sm rfl (sp h1 (fun h1 => ?_) (fun h1 => ?_)))))))))
    ·have q := si h1; subst q
     exact kw rfl (kw rfl (kw rfl (kw rfl (kw rfl (s1 (pkt rfl rfl) (SO.nil ((wq rfl))))))))
    ·obtain ⟨r149, hq150, h1⟩ := ob h1; have q := si h1; subst q
     exact gw rfl (mv rfl) (gw rfl (far (k := 2) rfl fo29_2 ts23 rfl) (gw rfl (lod rfl (ld_box ts23 ta23 rfl rfl)) (c0 (ref17_places_ok (p0.Cols.length : Int) p1.Extra _ hq150) (ww rfl) rfl rfl rfl cb24 rfl (fun _ => rfl) (fun _ => rfl) (gw rfl (nt rfl) (s1 (pkf rfl rfl) (SO.nil ((wq rfl))))))))
 ·rintro y143 h0
  refine cB h0 rfl (fun h0 => ?_) (fun h0 => ?_)
  ·have q := si h0; subst q
   exact sr (sa rfl (sn (SC.ret (finR (wc (e' := [(4, .d (eI (1 : Int)))]) [] [] (by kernel_rfl) rfl (by kernel_rfl)) (lresT rfl lresN) rfl))))
  ·refine sk (SC.seqB h0 (fun y => ⟨mk 67 [(2, .ref 0 0 0), (3, .ref 1 0 0)], [.box (.d (eApiTable p0)), .box (.d (eApiIndex p1))]⟩) ?_ ?_)
   ·intro u1_210 h1 h0
    obtain ⟨u2_250, h2, h1⟩ := ob h1
    refine sr (sa rfl (sn (SC.blk (SC.loopB h2 (fun y => ⟨mk 67 [(2, .ref 0 0 0), (3, .ref 1 0 0), (6, .d (eI y))], [.box (.d (eApiTable p0)), .box (.d (eApiIndex p1))]⟩) (wq rfl) ?_))))
    intro n269
    rintro y229 w2_249 h3 hv3
    refine sq (sr (sm rfl (s1 (far (k := 2) rfl fo29_2 ts23 rfl) (s1 (lod rfl (ld_box ts23 ta23 rfl rfl)) (s1 (len rfl rfl rfl (len_lst un23)) (s1 (bi rfl rfl q_i64_lss) (sn (cB h3 rfl (fun h3 => ?_) (fun h3 => ?_)))))))))
    ·refine sk (sq (SC.blk (SC.seqP h3 (fun y => ⟨mk 67 [(2, .ref 0 0 0), (3, .ref 1 0 0), (6, .d (eI y229)), (60, .d (eB y))], [.box (.d (eApiTable p0)), .box (.d (eApiIndex p1))]⟩) ?_ ?_)))
     ·intro u4_260 h4
      obtain ⟨r261, hq262, h4⟩ := ob h4; obtain ⟨v263, hv263, h4⟩ := ob h4; obtain ⟨r264, hq265, h4⟩ := ob h4
      refine SC.draws (by kernel_rfl) (t1 ([], false) (far (k := 1) rfl fo29_1 ts27 rfl) rfl (t1 ([1], false) (lod rfl (ld_box ts27 ta27 rfl rfl)) rfl (tc0 (ref17_Cols_ok p1.Parts _ hq262) wf rfl rfl rfl cb48 rfl (fun _ => rfl) (fun _ => rfl) (t1 ([], false) (far (k := 2) rfl fo29_2 ts23 rfl) rfl (t1 ([1], false) (lod rfl (ld_box ts23 ta23 rfl rfl)) rfl (t1 ([], false) (mv rfl) rfl (t1 ([], false) (ial rfl rfl un23 ts3 (getI_some hv263).1 (map_get (getI_some hv263).2) rfl) rfl (t1 ([], false) (lod rfl (ld_rop ts3 ta3 rfl)) rfl (tc0 (ref17_Has_ok r261 v263 _ hq265) wf rfl rfl rfl cb47 rfl (fun _ => rfl) (fun _ => rfl) ?_)))))))))
      refine t1 ([], false) (mv rfl) rfl (tp h4 (fun h4 => ?_) (fun h4 => ?_))
      ·have q := si h4; subst q
       refine jw rfl (jw rfl (jw rfl (jw rfl (jw rfl (jw rfl (jw rfl (jw rfl (t1 ([], false) (pkt rfl rfl) rfl (ST.nil (And.intro (by decide +kernel) ?_))))))))))
       exact (wq rfl)
      ·obtain ⟨v266, hv266, h4⟩ := ob h4; obtain ⟨r267, hq268, h4⟩ := ob h4; have q := si h4; subst q
       refine u1 ([], false) (ww rfl) (far (k := 2) rfl fo26_2 ts23 rfl) rfl (u1 ([0], false) (ww rfl) (lod rfl (ld_box ts23 ta23 rfl rfl)) rfl (u1 ([], false) (ww rfl) (far (k := 2) rfl fo29_2 ts23 rfl) rfl (u1 ([1], false) (ww rfl) (lod rfl (ld_box ts23 ta23 rfl rfl)) rfl (u1 ([], false) (ww rfl) (mv rfl) rfl (u1 ([], false) (ww rfl) (ial rfl rfl un23 ts3 (getI_some hv266).1 (map_get (getI_some hv266).2) rfl) rfl (u1 ([], false) (ww rfl) (lod rfl (ld_rop ts3 ta3 rfl)) rfl (tc0 (ref17_Has_ok p0.Primary v266 _ hq268) (ww rfl) rfl rfl rfl cb47 rfl (fun _ => rfl) (fun _ => rfl) (t1 ([], false) (pkf rfl rfl) rfl (ST.nil (And.intro (by decide +kernel) ?_))))))))))
       exact (wq rfl)
     ·rintro y259 h3
      refine cB h3 rfl (fun h3 => ?_) (fun h3 => ?_)
      ·have q := si h3; subst q; have q : _ = _ := hv3; subst q; have q := si h1; subst q; have q := si h0; subst q
       exact sr (sa rfl (sn (SC.ret (finR (wc (e' := [(4, .d (eI (1 : Int)))]) [] [] (by kernel_rfl) rfl (by kernel_rfl)) (lresT rfl lresN) rfl))))
      ·refine SC.skip ?_
       change SC _ _ _ _ _
       have q := si h3; subst q
       exact SC.region (sm rfl (s1 (bi rfl rfl q_i64_add) (sa rfl (SO.nil (lf (wq rfl))))))
    ·have q := si h3; subst q; have q : _ = _ := hv3; subst q; have q := si h1; subst q
     exact SC.exit (lf (wq rfl))
   ·intro _ h0
    obtain ⟨r270, hq271, h0⟩ := ob h0
    refine sq (sr (s1 (far (k := 1) rfl fo26_1 ts22 rfl) (s1 (lod rfl (ld_box ts22 ta22 rfl rfl)) (s1 (far (k := 1) rfl fo29_1 ts27 rfl) (s1 (lod rfl (ld_box ts27 ta27 rfl rfl)) (c0 (ref17_KeyMax_ok p0.Cols p1.Parts _ hq271) wf rfl rfl rfl cb18 rfl (fun _ => rfl) (fun _ => rfl) (s1 (bi rfl rfl q_i64_gtr) (sn (cB h0 rfl (fun h0 => ?_) (fun h0 => ?_))))))))))
    ·have q := si h0; subst q
     exact sr (sa rfl (sn (SC.ret (finR (wc (e' := [(4, .d (eI (7 : Int)))]) [] [] (by kernel_rfl) rfl (by kernel_rfl)) (lresT rfl lresN) rfl))))
    ·have q := si h0; subst q
     exact sk (sr (sa rfl (sn (SC.ret (finR (wc (e' := [(4, .d (eI (0 : Int)))]) [] [] (by kernel_rfl) rfl (by kernel_rfl)) (lresT rfl lresN) rfl)))))
end Lv
