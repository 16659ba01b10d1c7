/- Part of the proof of a law: functions and their walks. -/
import Derived.Test.YtmkgfooomdagmaaDoorXFn0
namespace Lv
open Go Go.Proofs
set_option linter.unusedVariables false
set_option linter.unusedSimpArgs false
set_option linter.unusedSectionVars false
set_option maxRecDepth 100000
variable [BaseTab] [TabOk]
noncomputable def catalog_take (p0 : List UInt8) (p1 : List ApiPair) : Option (Unit ⊕ ((List UInt8))) :=
 Option.bind (α := Bool)
 (bif ((p1.length : Int) == (0 : Int)) then
 some true
 else
 Option.bind (getI p1 (0 : Int)) fun v19 =>
 some (v19.Key != p0))
 fun y17 =>
 bif y17 then
 some (Sum.inl ())
 else
 Option.bind (getI p1 (0 : Int)) fun v20 =>
 Option.bind (pack_To v20.Val) fun _ =>
 bif decide (0 ≤ (1 : Int) ∧ (1 : Int) ≤ (p1.length : Int)) then
 some (Sum.inr v20.Val)
 else none
theorem catalog_take_ok (p0 : List UInt8) (p1 : List ApiPair) (r : Unit ⊕ ((List UInt8))) (h0 : catalog_take p0 p1 = some r) : CallAt Tryd.prog 42 [.ref 0 0 0, .d (eS p0)] [.box (.d ((eL 2 eApiPair) p1))] ((Sum.elim (fun r => .tuple [.d (.agg [.nilp]), .d (eB false)]) (fun r => .tuple [.agg [.ref 2 0 0], .d (eB true)])) r) ((Sum.elim (fun r => [.box (.d ((eL 2 eApiPair) p1)), .box (.d (.agg [.nilp]))]) (fun r => [.box (.d ((eL 2 eApiPair) (List.drop (1 : Int).toNat p1))), .box (.agg [.ref 2 0 0]), .box (.agg [.slc 3 1 0 r.length none, .d (eB false)]), .row 1 (List.map eU8 r) true])) r) := by
 unfold catalog_take at h0
 refine fn0 [0, 1] Tryd.func42 rfl rfl rfl rfl rfl ?_
 refine sr (s1 (alo (k := 1) zo110 rfl) (sa rfl (sn (sq (SC.seqP h0 (fun y => ⟨mk 39 [(0, .ref 0 0 0), (4, .ref 1 0 0), (21, .d (eB y))], [.box (.d ((eL 2 eApiPair) p1)), .box (.d (.agg [.nilp]))]⟩) ?_ ?_)))))
 ·intro u1_18 h1
  refine SC.region (sm rfl (s1 (nkr rfl) (s1 (lod rfl (ld_box ts22 ta22 rfl rfl)) (s1 (len rfl rfl rfl (len_lst un22)) (s1 (bi rfl rfl q_i64_eql) (sm rfl (sp h1 (fun h1 => ?_) (fun h1 => ?_))))))))
  ·have q := si h1; subst q
   refine kw rfl (kw rfl (kw rfl (kw rfl (kw rfl (kw rfl (kw rfl (kw rfl (s1 (pkt rfl rfl) (SO.nil ?_)))))))))
   exact (wq rfl)
  ·obtain ⟨v19, hv19, h1⟩ := ob h1; have q := si h1; subst q
   refine gw rfl (mv rfl) (gw rfl (nkr rfl) (gw rfl (lod rfl (ld_box ts22 ta22 rfl rfl)) (gw rfl (ial rfl rfl un22 ts25 (getI_some hv19).1 (map_get (getI_some hv19).2) rfl) (gw rfl (fap rfl fo25_0 ts9 rfl) (gw rfl (lod rfl (ld_rop ts9 ta9 rfl)) (gw rfl (mv rfl) (gw rfl (bi rfl rfl q_str_neq) (s1 (pkf rfl rfl) (SO.nil ?_)))))))))
   exact (wq rfl)
 ·rintro y17 h0
  refine cB h0 rfl (fun h0 => ?_) (fun h0 => ?_)
  ·have q := si h0; subst q
   exact sr (s1 (bld rfl (bd110_ )) (s0 (sto rfl rfl (sB (d' := .d (.agg [.nilp])) ts110 rfl rfl rfl rfl rfl rfl rfl)) (sa rfl (sn (SC.ret (finR (Wk.refl _) (lresC rfl (ld_box ts110 ta110 rfl rfl) (lresT rfl lresN)) rfl))))))
  ·obtain ⟨v20, hv20, h0⟩ := ob h0; obtain ⟨_, hq21, h0⟩ := ob h0; obtain ⟨hg22, h0⟩ := gd h0; have q := si h0; subst q
   refine sk (sr (sm rfl (s1 (nkr rfl) (s1 (lod rfl (ld_box ts22 ta22 rfl rfl)) (s1 (ial rfl rfl un22 ts25 (getI_some hv20).1 (map_get (getI_some hv20).2) rfl) (s1 (fap rfl fo25_1 ts9 rfl) (s1 (lod rfl (ld_rop ts9 ta9 rfl)) (s1 (cvs (s := v20.Val) (k := 2) rfl un9 un72 un5 ts5 rfl) (cq (args' := [.slc 0 1 0 v20.Val.length none]) (σc := [.row 1 (List.map eU8 v20.Val) true]) [2] [3, 4] (CallAt.frz (ArgF.frz (fF rfl rfl rfl) (ArgF.nil _)) (fq [] [1, 2] (pack_To_ok v20.Val _ hq21) rfl rfl rfl rfl rfl rfl rfl rfl)) wf rfl rfl rfl cb72 rfl rfl rfl rfl rfl rfl rfl rfl ?_)))))))))
   refine s1 (bld rfl (bd110_0 )) (s1 (alo (k := 5) zo110 rfl) (s0 (sto rfl rfl (sB (d' := .agg [.ref 3 0 0]) ts110 rfl rfl rfl rfl rfl rfl rfl)) (sn (sr (sm rfl (sm rfl (s1 (nkr rfl) (s1 (lod rfl (ld_box ts22 ta22 rfl rfl)) (s1 (slo rfl rfl rfl rfl (sl_lst_lo un22 ts25 hg22)) ?_)))))))))
   exact s1 (nkr rfl) (s0 (sto rfl rfl (sC ts22 rfl rfl rfl rfl rfl rfl)) (sn (sr (s1 (lod (v := .agg [.ref 3 0 0]) rfl (ld_box ts110 ta110 rfl rfl)) (s0 (sto rfl rfl (sB (d' := .agg [.ref 3 0 0]) ts110 rfl rfl rfl rfl rfl rfl rfl)) (sa rfl (sn (SC.ret (finR (wc (e' := [(4, .ref 1 0 0), (5, .d (eB true))]) [0, 1, 3, 4] [0, 1] (by kernel_rfl) rfl (by kernel_rfl)) (lresC rfl (ld_box ts110 ta110 rfl rfl) (lresT rfl lresN)) rfl)))))))))
theorem catalog_take_ok_a (p0 : List UInt8) (p1 : List ApiPair) (r : Unit) (h0 : catalog_take p0 p1 = some (Sum.inl r)) : CallAt Tryd.prog 42 [.ref 0 0 0, .d (eS p0)] [.box (.d ((eL 2 eApiPair) p1))] (.tuple [.d (.agg [.nilp]), .d (eB false)]) [.box (.d ((eL 2 eApiPair) p1)), .box (.d (.agg [.nilp]))] := catalog_take_ok p0 p1 _ h0
theorem catalog_take_ok_b (p0 : List UInt8) (p1 : List ApiPair) (r : (List UInt8)) (h0 : catalog_take p0 p1 = some (Sum.inr r)) : CallAt Tryd.prog 42 [.ref 0 0 0, .d (eS p0)] [.box (.d ((eL 2 eApiPair) p1))] (.tuple [.agg [.ref 2 0 0], .d (eB true)]) [.box (.d ((eL 2 eApiPair) (List.drop (1 : Int).toNat p1))), .box (.agg [.ref 2 0 0]), .box (.agg [.slc 3 1 0 r.length none, .d (eB false)]), .row 1 (List.map eU8 r) true] := catalog_take_ok p0 p1 _ h0
noncomputable def pack_In_take_2 (p0 : Int) : Option Unit :=
 Option.bind (α := Unit)
 (some ())
 fun _ =>
 Option.bind (α := Unit)
 (some ())
 fun _ =>
 some ()
theorem pack_In_take_2_ok (p0 : Int) (r : Unit) (h0 : pack_In_take_2 p0 = some r) : CallAt Tryd.prog 96 [.d .nilp, .d (eI p0)] [] (.d .nils) [] := by
 unfold pack_In_take_2 at h0
 refine fn0 [0, 1] Tryd.func96 rfl rfl rfl rfl rfl ?_
 refine sr (s1 (asg (v := .d .nils) rfl) (sn (sq (SC.seqP h0 (fun y => ⟨mk 44 [(0, .d .nilp), (1, .d (eI p0)), (22, .d (eB true))], []⟩) ?_ ?_))))
 ·intro u1_5 h1
  have q := si h1; subst q
  refine SC.region (sm rfl (s1 (bi (v := .d (eB true)) rfl rfl (fun _ _ => rfl)) (sm rfl (kw rfl (kw rfl (kw rfl (kw rfl (s1 (pkt rfl rfl) (sm rfl ?_)))))))))
  exact kw rfl (kw rfl (kw rfl (kw rfl (kw rfl (kw rfl (kw rfl (s1 (pkt rfl rfl) (SO.nil ((wq rfl))))))))))
 ·intro _ h0
  refine cT rfl (SC.seqP h0 (fun y => ⟨mk 44 [], []⟩) ?_ ?_)
  ·intro u1_6 h1
   have q := si h1; subst q
   exact sr (sm rfl (s1 (bi (v := .d (eB false)) rfl rfl (fun _ _ => rfl)) (sn (cF rfl (SC.skip ((wq rfl)))))))
  ·intro _ h0
   have q := si h0; subst q
   exact sr (s1 (asg (v := .d .nils) rfl) (sn (SC.ret (finR (Wk.refl _) (lresT rfl lresN) rfl))))
noncomputable def pack_In_number_2 (p0 : Int) : Option Unit :=
 Option.bind (α := Unit)
 (Option.bind (pack_In_take_2 p0) fun _ =>
 Option.bind (α := Unit)
 (loop (Y := Unit) (W := Unit) (fun _ =>
 some (Sum.inr ())) ())
 (fun e => some e))
 fun _ =>
 some ()
theorem pack_In_number_2_ok (p0 : Int) (r : Unit) (h0 : pack_In_number_2 p0 = some r) : CallAt Tryd.prog 73 [.d .nilp, .d (eI p0)] [] (.d (eU64 (0 : UInt64))) [] := by
 unfold pack_In_number_2 at h0
 refine fn0 [0, 1] Tryd.func73 rfl rfl rfl rfl rfl ?_
 refine sr (s1 (asg (v := .d (eU64 (0 : UInt64))) rfl) (sn (sr (s1 (asg (v := .d (eU64 (0 : UInt64))) rfl) (sn (SC.seqP h0 (fun y => ⟨mk 23 [(5, .d (eU64 (0 : UInt64)))], []⟩) ?_ ?_))))))
 ·intro u1_23 h1
  obtain ⟨_, hq24, h1⟩ := ob h1; obtain ⟨u2_26, h2, h1⟩ := ob h1
  refine sr (sm rfl (sm rfl (c0 (pack_In_take_2_ok p0 _ hq24) wf rfl rfl rfl cb96 rfl (fun _ => rfl) (fun _ => rfl) (s1 (len rfl rfl rfl (len_nil un72)) (sm rfl (sn (SC.blk (SC.loopB h2 (fun y => ⟨mk 23 [(5, .d (eU64 (0 : UInt64))), (10, .d .nils), (11, .d (eI (0 : Int))), (12, .d (eI (0 : Int)))], []⟩) (wq rfl) ?_))))))))
  intro n27
  intro _ w2_25 h3 hv3
  have q := si h3; subst q; have q : _ = _ := hv3; subst q; have q := si h1; subst q
  exact sr (s1 (bi (v := .d (eB false)) rfl rfl (fun _ _ => rfl)) (sn (sq (cF rfl (SC.exit ((wq rfl)))))))
 ·intro _ h0
  have q := si h0; subst q
  exact sr (sm rfl (sa rfl (sn (SC.ret (finR (Wk.refl _) (lresT rfl lresN) rfl)))))
noncomputable def pack_In_U16 : Option Unit :=
 Option.bind (pack_In_number_2 (2 : Int)) fun _ =>
 some ()
theorem pack_In_U16_ok (r : Unit) (h0 : pack_In_U16 = some r) : CallAt Tryd.prog 43 [.d .nilp] [] (.d (eU16 ((0 : UInt64).toUInt16))) [] := by
 unfold pack_In_U16 at h0
 refine fn0 [0] Tryd.func43 rfl rfl rfl rfl rfl ?_
 obtain ⟨_, hq3, h0⟩ := ob h0; have q := si h0; subst q
 refine sr (s1 (asg (v := .d (eU16 (0 : UInt16))) rfl) (sn (sr (sm rfl (c0 (pack_In_number_2_ok (2 : Int) _ hq3) wf rfl rfl rfl cb73 rfl (fun _ => rfl) (fun _ => rfl) (s1 (cvo rfl (cv_u64_u16 un35 un76 (0 : UInt64))) (sa rfl (sn (SC.ret ?_)))))))))
 exact finR (Wk.refl _) (lresT rfl lresN) rfl
noncomputable def pack_In_U8_2 : Option Unit :=
 Option.bind (pack_In_number_2 (1 : Int)) fun _ =>
 some ()
theorem pack_In_U8_2_ok (r : Unit) (h0 : pack_In_U8_2 = some r) : CallAt Tryd.prog 74 [.d .nilp] [] (.d (eU8 ((0 : UInt64).toUInt8))) [] := by
 unfold pack_In_U8_2 at h0
 refine fn0 [0] Tryd.func74 rfl rfl rfl rfl rfl ?_
 obtain ⟨_, hq3, h0⟩ := ob h0; have q := si h0; subst q
 refine sr (s1 (asg (v := .d (eU8 (0 : UInt8))) rfl) (sn (sr (sm rfl (c0 (pack_In_number_2_ok (1 : Int) _ hq3) wf rfl rfl rfl cb73 rfl (fun _ => rfl) (fun _ => rfl) (s1 (cvo rfl (cv_u64_u8 un35 un5 (0 : UInt64))) (sa rfl (sn (SC.ret ?_)))))))))
 exact finR (Wk.refl _) (lresT rfl lresN) rfl
noncomputable def catalog_taker_place : Option Unit :=
 Option.bind pack_In_U8_2 fun _ =>
 some ()
theorem catalog_taker_place_ok (r : Unit) (h0 : catalog_taker_place = some r) : CallAt Tryd.prog 44 [.d (.agg [.nilp])] [] (.d (eI (((0 : UInt64).toUInt8).toNat : Int))) [] := by
 unfold catalog_taker_place at h0
 refine fn0 [0] Tryd.func44 rfl rfl rfl rfl rfl ?_
 obtain ⟨_, hq3, h0⟩ := ob h0; have q := si h0; subst q
 refine sr (s1 (bxo (k := 0) rfl rfl rfl) (sa rfl (sn (sr (s1 (far (k := 0) rfl fo110_0 ts108 rfl) (s1 (lod rfl (ld_box ts108 ta108 rfl rfl)) (c0 (pack_In_U8_2_ok _ hq3) wf rfl rfl rfl cb74 rfl (fun _ => rfl) (fun _ => rfl) (s1 (cvo rfl (cv_u8_i64 un5 un3 ((0 : UInt64).toUInt8))) (sa rfl ?_)))))))))
 exact sn (SC.ret (finR (wc (e' := [(2, .d (eI (((0 : UInt64).toUInt8).toNat : Int)))]) [] [] (by kernel_rfl) rfl (by kernel_rfl)) (lresT rfl lresN) rfl))
noncomputable def pack_In_Bad_1 : Option Unit :=
 Option.bind (α := Unit)
 (some ())
 fun _ =>
 some ()
theorem pack_In_Bad_1_ok (r : Unit) (h0 : pack_In_Bad_1 = some r) : CallAt Tryd.prog 76 [.d .nilp] [] (.d (eB true)) [] := by
 unfold pack_In_Bad_1 at h0
 refine fn0 [0] Tryd.func76 rfl rfl rfl rfl rfl ?_
 refine sr (sa rfl (sn (SC.seqP h0 (fun y => ⟨mk 11 [(2, .d (eB true))], []⟩) ?_ ?_)))
 ·intro u1_3 h1
  have q := si h1; subst q
  refine SC.region (sm rfl (s1 (bi (v := .d (eB true)) rfl rfl (fun _ _ => rfl)) (sm rfl (kw rfl (kw rfl (kw rfl (kw rfl (s1 (pkt rfl rfl) (sa rfl ?_)))))))))
  exact SO.nil ((wq rfl))
 ·intro _ h0
  have q := si h0; subst q
  exact SC.ret (finR (Wk.refl _) (lresT rfl lresN) rfl)
noncomputable def catalog_list_int (p0 : Int) : Option Unit :=
 Option.bind (α := Unit)
 (Option.bind (α := Unit)
 (loop (Y := Unit) (W := Unit) (fun _ =>
 Option.bind (α := Unit)
 (bif (decide ((0 : Int) < p0)) then
 Option.bind pack_In_Bad_1 fun _ =>
 some ()
 else
 some ())
 fun _ =>
 some (Sum.inr ())) ())
 (fun e => some e))
 fun _ =>
 some ()
theorem catalog_list_int_ok (p0 : Int) (r : Unit) (h0 : catalog_list_int p0 = some r) : CallAt Tryd.prog 75 [.d (.agg [.nilp]), .d (eI p0), .fn (.func 44) [.d (.agg [.nilp])] []] [] (.d .nils) [] := by
 unfold catalog_list_int at h0
 refine fn0 [0, 1, 2] Tryd.func75 rfl rfl rfl rfl rfl ?_
 refine sr (s1 (bxo (k := 0) rfl rfl rfl) (s1 (asg (v := .d .nils) rfl) (sn (sr (s1 (asg (v := .d .nils) rfl) (sn (SC.seqP h0 (fun y => ⟨mk 26 [(7, .d .nils)], []⟩) ?_ ?_)))))))
 ·intro u1_48 h1
  obtain ⟨u2_53, h2, h1⟩ := ob h1
  refine sr (sa rfl (sn (SC.blk (SC.loopB h2 (fun y => ⟨mk 26 [(1, .d (eI p0)), (2, .fn (.func 44) [.d (.agg [.nilp])] []), (3, .ref 0 0 0), (7, .d .nils), (8, .d (eI (0 : Int)))], [.box (.d (.agg [.nilp]))]⟩) (wq rfl) ?_))))
  intro n57
  intro _ w2_52 h3 hv3
  refine sq (SC.seqP h3 (fun y => ⟨mk 26 [(1, .d (eI p0)), (2, .fn (.func 44) [.d (.agg [.nilp])] []), (3, .ref 0 0 0), (7, .d .nils), (8, .d (eI (0 : Int))), (17, .d (eB false))], [.box (.d (.agg [.nilp]))]⟩) ?_ ?_)
  ·intro u4_55 h4
   refine SC.region (sm rfl (sm rfl (s1 (bi rfl rfl q_i64_lss) (sm rfl (sp h4 (fun h4 => ?_) (fun h4 => ?_))))))
   ·obtain ⟨_, hq56, h4⟩ := ob h4; have q := si h4; subst q
    exact gw rfl (far (k := 0) rfl fo110_0 ts108 rfl) (gw rfl (lod rfl (ld_box ts108 ta108 rfl rfl)) (c0 (pack_In_Bad_1_ok _ hq56) (ww rfl) rfl rfl rfl cb76 rfl (fun _ => rfl) (fun _ => rfl) (gw rfl (uo (v := .d (eB false)) rfl rfl rfl) (s1 (pkt rfl rfl) (SO.nil ((wq rfl)))))))
   ·have q := si h4; subst q
    exact kw rfl (kw rfl (kw rfl (kw rfl (s1 (pkf rfl rfl) (SO.nil ((wq rfl)))))))
  ·intro _ h3
   have q := si h3; subst q; have q : _ = _ := hv3; subst q; have q := si h1; subst q
   exact cF rfl (SC.exit ((wc [] [] (by kernel_rfl) rfl (by kernel_rfl))))
 ·intro _ h0
  have q := si h0; subst q
  exact sr (sm rfl (sa rfl (sn (SC.ret (finR (Wk.refl _) (lresT rfl lresN) rfl)))))
noncomputable def catalog_taker_places : Option Unit :=
 Option.bind catalog_taker_place fun _ =>
 Option.bind (catalog_list_int (((0 : UInt64).toUInt8).toNat : Int)) fun _ =>
 some ()
theorem catalog_taker_places_ok (r : Unit) (h0 : catalog_taker_places = some r) : CallAt Tryd.prog 45 [.d (.agg [.nilp])] [] (.d .nils) [] := by
 unfold catalog_taker_places at h0
 refine fn0 [0] Tryd.func45 rfl rfl rfl rfl rfl ?_
 obtain ⟨_, hq5, h0⟩ := ob h0; obtain ⟨_, hq6, h0⟩ := ob h0; have q := si h0; subst q
 refine sr (s1 (bxo (k := 0) rfl rfl rfl) (s1 (asg (v := .d .nils) rfl) (sn (sd (by kernel_rfl) (t1 ([0], false) (lod (v := .d (.agg [.nilp])) rfl (ld_box ts110 ta110 rfl rfl)) rfl (t1 ([0], false) (lod (v := .d (.agg [.nilp])) rfl (ld_box ts110 ta110 rfl rfl)) rfl (tc0 (catalog_taker_place_ok _ hq5) wf rfl rfl rfl cb44 rfl (fun _ => rfl) (fun _ => rfl) (t1 ([0], false) (lod (v := .d (.agg [.nilp])) rfl (ld_box ts110 ta110 rfl rfl)) rfl (t1 ([], false) (mkf rfl rfl) rfl ?_)))))))))
 exact tc0 (catalog_list_int_ok (((0 : UInt64).toUInt8).toNat : Int) _ hq6) wf rfl rfl rfl cb75 rfl (fun _ => rfl) (fun _ => rfl) (t1 ([], false) (asg rfl) rfl (tn (by decide +kernel) (SC.ret (finR (wc (e' := [(2, .d .nils)]) [] [] (by kernel_rfl) rfl (by kernel_rfl)) (lresT rfl lresN) rfl))))
noncomputable def pack_In_Done_1 : Option Unit :=
 Option.bind (α := Unit)
 (Option.bind pack_In_Bad_1 fun _ =>
 some ())
 fun _ =>
 some ()
theorem pack_In_Done_1_ok (r : Unit) (h0 : pack_In_Done_1 = some r) : CallAt Tryd.prog 46 [.d .nilp] [] (.d (eB false)) [] := by
 unfold pack_In_Done_1 at h0
 refine fn0 [0] Tryd.func46 rfl rfl rfl rfl rfl ?_
 refine sr (sa rfl (sn (SC.seqP h0 (fun y => ⟨mk 11 [(2, .d (eB false))], []⟩) ?_ ?_)))
 ·intro u1_8 h1
  obtain ⟨_, hq9, h1⟩ := ob h1; have q := si h1; subst q
  refine SC.region (sm rfl (c0 (pack_In_Bad_1_ok _ hq9) wf rfl rfl rfl cb76 rfl (fun _ => rfl) (fun _ => rfl) (s1 (uo (v := .d (eB false)) rfl rfl rfl) (sm rfl (kw rfl (kw rfl (kw rfl (s1 (pkf rfl rfl) (sa rfl ?_)))))))))
  exact SO.nil ((wq rfl))
 ·intro _ h0
  have q := si h0; subst q
  exact SC.ret (finR (Wk.refl _) (lresT rfl lresN) rfl)
noncomputable def pack_In_take (p0 : Int) (p1 : List UInt8) (p2 : Bool) : Option (Nat × Nat × Nat × Bool) :=
 Option.bind (α := Bool)
 (bif p2 then
 some true
 else
 some (decide ((p1.length : Int) < p0)))
 fun y15 =>
 bif y15 then
 Option.bind (α := Unit)
 (some ())
 fun _ =>
 some (0, 0, p1.length, true)
 else
 bif decide (0 ≤ p0 ∧ p0 ≤ (p1.length : Int)) then
 bif decide (0 ≤ p0 ∧ p0 ≤ (p1.length : Int)) then
 some (p0.toNat, 0 + p0.toNat, p1.length - p0.toNat, p2)
 else none
 else none
theorem pack_In_take_ok (p0 : Int) (p1 : List UInt8) (p2 : Bool) (r : Nat × Nat × Nat × Bool) (h0 : pack_In_take p0 p1 p2 = some r) : CallAt Tryd.prog 96 [.ref 0 0 0, .d (eI p0)] [.box (.agg [.slc 1 1 0 p1.length none, .d (eB p2)]), .row 1 (List.map eU8 p1) true] (.slc 1 1 0 r.1 none) [.box (.agg [.slc 1 1 r.2.1 r.2.2.1 none, .d (eB r.2.2.2)]), .row 1 (List.map eU8 p1) true] := by
 unfold pack_In_take at h0
 refine fn0 [0, 1] Tryd.func96 rfl rfl rfl rfl rfl ?_
 refine sr (s1 (asg (v := .d .nils) rfl) (sn (sq (SC.seqP h0 (fun y => ⟨mk 44 [(0, .ref 0 0 0), (1, .d (eI p0)), (22, .d (eB y))], [.box (.agg [.slc 1 1 0 p1.length none, .d (eB p2)]), .row 1 (List.map eU8 p1) true]⟩) ?_ ?_))))
 ·intro u1_16 h1
  refine SC.region (sm rfl (s1 (bi (v := .d (eB false)) rfl rfl (fun _ _ => nil_eql un108)) (sm rfl (gw rfl (mv rfl) (gw rfl (nkr rfl) (gw rfl (far (k := 1) rfl fo160_1 ts4 rfl) (gw rfl (lod rfl (ld_box ts4 ta4 rfl rfl)) (s1 (pkf rfl rfl) (sm rfl ?_)))))))))
  refine sp h1 (fun h1 => ?_) (fun h1 => ?_)
  ·have q := si h1; subst q
   exact kw rfl (kw rfl (kw rfl (kw rfl (kw rfl (kw rfl (kw rfl (s1 (pkt rfl rfl) (SO.nil ((wq rfl))))))))))
  ·have q := si h1; subst q
   exact gw rfl (mv rfl) (gw rfl (nkr rfl) (gw rfl (far (k := 0) rfl fo160_0 ts72 rfl) (gw rfl (lod rfl (ld_box ts72 ta72 rfl rfl)) (gw rfl (len rfl rfl rfl (len_slc un72)) (gw rfl (mv rfl) (gw rfl (bi rfl rfl q_i64_lss) (s1 (pkf rfl rfl) (SO.nil ((wq rfl))))))))))
 ·rintro y15 h0
  refine cB h0 rfl (fun h0 => ?_) (fun h0 => ?_)
  ·refine SC.seqP h0 (fun y => ⟨mk 44 [], [.box (.agg [.slc 1 1 0 p1.length none, .d (eB true)]), .row 1 (List.map eU8 p1) true]⟩) ?_ ?_
   ·intro u1_17 h1
    have q := si h1; subst q
    refine sr (sm rfl (s1 (bi (v := .d (eB true)) rfl rfl (fun _ _ => nil_neq un108)) (sn (cT rfl (SC.region (sm rfl (s1 (nkr rfl) (s1 (far (k := 1) rfl fo160_1 ts4 rfl) (s0 (sto (b := .d (eB true)) rfl rfl (sB (d' := .agg [.slc 1 1 0 p1.length none, .d (eB true)]) ts4 rfl rfl rfl rfl rfl rfl rfl)) ?_)))))))))
    exact SO.nil ((wq rfl))
   ·intro _ h0
    have q := si h0; subst q
    exact sr (s1 (asg (v := .d .nils) rfl) (sn (SC.ret (finR (Wk.trans (Wk.env (e' := [(4, .slc 1 1 0 0 none)]) (EW.cons (AW.slcn _ _ _) EW.nil)) (wq (e' := [(4, .slc 1 1 0 0 none)]) rfl)) (lresT rfl lresN) rfl))))
  ·obtain ⟨hg18, h0⟩ := gd h0; obtain ⟨hg19, h0⟩ := gd h0; have q := si h0; subst q
   refine sk (sr (sm rfl (s1 (nkr rfl) (s1 (far (k := 0) rfl fo160_0 ts72 rfl) (s1 (lod rfl (ld_box ts72 ta72 rfl rfl)) (sm rfl (s1 (slo rfl rfl rfl rfl (sl_slc_hi un72 ts5 hg18)) (sa rfl (sn ?_)))))))))
   refine sr (sm rfl (sm rfl (s1 (nkr rfl) (s1 (far (k := 0) rfl fo160_0 ts72 rfl) (s1 (lod rfl (ld_box ts72 ta72 rfl rfl)) (sm rfl (s1 (slo rfl rfl rfl rfl (sl_slc_lo un72 ts5 hg19)) (s1 (nkr rfl) (s1 (far (k := 0) rfl fo160_0 ts72 rfl) ?_)))))))))
   exact s0 (sto rfl rfl (sB (d' := .agg [.slc 1 1 (0 + p0.toNat) (p1.length - p0.toNat) none, .d (eB p2)]) ts72 rfl rfl rfl rfl rfl rfl rfl)) (sn (sr (sm rfl (sa rfl (sn (SC.ret (finR (Wk.refl _) (lresT rfl lresN) rfl)))))))
noncomputable def pack_In_number (p0 : Int) (p1 : List UInt8) (p2 : Bool) : Option (UInt64 × Nat × Nat × Bool) :=
 Option.bind (α := UInt64 × Nat × Nat × Bool)
 (Option.bind (pack_In_take p0 p1 p2) fun (r96, r97, r98, r99) =>
 Option.bind (α := UInt64 × Nat × Nat × Bool)
 (loop (Y := UInt64 × Int) (W := UInt64 × Nat × Nat × Bool) (fun (y101, y102) =>
 bif (decide (y102 < (r96 : Int))) then
 Option.bind (getS p1 0 r96 y102) fun v108 =>
 some (Sum.inl (((shl64 y101 8) ||| (v108.toUInt64)), (w64 (y102 + (1 : Int)))))
 else
 some (Sum.inr (y101, r97, r98, r99))) ((0 : UInt64), (0 : Int)))
 (fun e => some e))
 fun (y90, y91, y92, y93) =>
 some (y90, y91, y92, y93)
theorem pack_In_number_ok (p0 : Int) (p1 : List UInt8) (p2 : Bool) (r : UInt64 × Nat × Nat × Bool) (h0 : pack_In_number p0 p1 p2 = some r) : CallAt Tryd.prog 73 [.ref 0 0 0, .d (eI p0)] [.box (.agg [.slc 1 1 0 p1.length none, .d (eB p2)]), .row 1 (List.map eU8 p1) true] (.d (eU64 r.1)) [.box (.agg [.slc 1 1 r.2.1 r.2.2.1 none, .d (eB r.2.2.2)]), .row 1 (List.map eU8 p1) true] := by
 unfold pack_In_number at h0
 refine fn0 [0, 1] Tryd.func73 rfl rfl rfl rfl rfl ?_
 refine sr (s1 (asg (v := .d (eU64 (0 : UInt64))) rfl) (sn (sr (s1 (asg (v := .d (eU64 (0 : UInt64))) rfl) (sn (SC.seqP h0 (fun y => ⟨mk 23 [(5, .d (eU64 y.1))], [.box (.agg [.slc 1 1 y.2.1 y.2.2.1 none, .d (eB y.2.2.2)]), .row 1 (List.map eU8 p1) true]⟩) ?_ ?_))))))
 ·intro u1_94 h1
  obtain ⟨⟨r96, r97, r98, r99⟩, hq95, h1⟩ := ob h1; obtain ⟨u2_107, h2, h1⟩ := ob h1
  refine sr (sm rfl (sm rfl (cq [0, 1] [] (pack_In_take_ok p0 p1 p2 _ hq95) wf rfl rfl rfl cb96 rfl rfl rfl rfl rfl rfl rfl rfl (s1 (len rfl rfl rfl (len_slc un72)) (sm rfl (sn (SC.blk (SC.loopB h2 (fun y => ⟨mk 23 [(5, .d (eU64 y.1)), (10, .slc 1 1 0 r96 none), (11, .d (eI (r96 : Int))), (12, .d (eI y.2))], [.box (.agg [.slc 1 1 r97 r98 none, .d (eB r99)]), .row 1 (List.map eU8 p1) true]⟩) (wq rfl) ?_))))))))
  intro n109
  rintro ⟨y101, y102⟩ w2_106 h3 hv3
  refine sr (s1 (bi rfl rfl q_i64_lss) (sn (sq (cB h3 rfl (fun h3 => ?_) (fun h3 => ?_)))))
  ·obtain ⟨v108, hv108, h3⟩ := ob h3
   refine sk (sq (SC.blk (sr (s1 (iaz rfl rfl un72 ts5 (getS_some hv108).1) (s1 (lod rfl (ld_row ts5 ta5 rfl (map_get (by have q := (getS_some hv108).2; simpa using q)) rfl)) (sa rfl (sn (SC.region (sm rfl ?_)))))))))
   refine s1 (bi (v := .d (eU64 (shl64 y101 8))) rfl rfl (fun X Y => b_u64_shl _ X Y y101 _ (by decide))) (sm rfl (s1 (cvo rfl (cv_u8_u64 un5 un35 v108)) (s1 (bi rfl rfl q_u64_or) (sa rfl (SO.nil ?_)))))
   change SC _ _ _ _ _
   have q := si h3; subst q
   exact SC.region (s1 (bi rfl rfl q_i64_add) (sm rfl (SO.nil (lf (wq rfl)))))
  ·have q := si h3; subst q; have q : _ = _ := hv3; subst q; have q := si h1; subst q
   exact SC.exit ((wq rfl))
 ·rintro ⟨y90, y91, y92, y93⟩ h0
  have q := si h0; subst q
  exact sr (sm rfl (sa rfl (sn (SC.ret (finR (Wk.refl _) (lresT rfl lresN) rfl)))))
noncomputable def pack_In_U16_1 (p0 : List UInt8) (p1 : Bool) : Option (UInt16 × Nat × Nat × Bool) :=
 Option.bind (pack_In_number (2 : Int) p0 p1) fun (r16, r17, r18, r19) =>
 some ((r16.toUInt16), r17, r18, r19)
theorem pack_In_U16_1_ok (p0 : List UInt8) (p1 : Bool) (r : UInt16 × Nat × Nat × Bool) (h0 : pack_In_U16_1 p0 p1 = some r) : CallAt Tryd.prog 43 [.ref 0 0 0] [.box (.agg [.slc 1 1 0 p0.length none, .d (eB p1)]), .row 1 (List.map eU8 p0) true] (.d (eU16 r.1)) [.box (.agg [.slc 1 1 r.2.1 r.2.2.1 none, .d (eB r.2.2.2)]), .row 1 (List.map eU8 p0) true] := by
 unfold pack_In_U16_1 at h0
 refine fn0 [0] Tryd.func43 rfl rfl rfl rfl rfl ?_
 obtain ⟨⟨r16, r17, r18, r19⟩, hq15, h0⟩ := ob h0; have q := si h0; subst q
 refine sr (s1 (asg (v := .d (eU16 (0 : UInt16))) rfl) (sn (sr (sm rfl (cq [0, 1] [] (pack_In_number_ok (2 : Int) p0 p1 _ hq15) wf rfl rfl rfl cb73 rfl rfl rfl rfl rfl rfl rfl rfl (s1 (cvo rfl (cv_u64_u16 un35 un76 r16)) (sa rfl (sn (SC.ret ?_)))))))))
 exact finR (Wk.refl _) (lresT rfl lresN) rfl
noncomputable def pack_In_take_1 (p0 : Int) (p1 : List UInt8) (p2 : Nat) (p3 : Nat) (p4 : Bool) : Option (Nat × Nat × Nat × Nat × Bool) :=
 Option.bind (α := Bool)
 (bif p4 then
 some true
 else
 some (decide ((p3 : Int) < p0)))
 fun y16 =>
 bif y16 then
 Option.bind (α := Unit)
 (some ())
 fun _ =>
 some (0, 0, p2, p3, true)
 else
 bif decide (0 ≤ p0 ∧ p0 ≤ (p3 : Int)) then
 bif decide (0 ≤ p0 ∧ p0 ≤ (p3 : Int)) then
 some (p2, p0.toNat, p2 + p0.toNat, p3 - p0.toNat, p4)
 else none
 else none
theorem pack_In_take_1_ok (p0 : Int) (p1 : List UInt8) (p2 : Nat) (p3 : Nat) (p4 : Bool) (r : Nat × Nat × Nat × Nat × Bool) (h0 : pack_In_take_1 p0 p1 p2 p3 p4 = some r) : CallAt Tryd.prog 96 [.ref 0 0 0, .d (eI p0)] [.box (.agg [.slc 1 1 p2 p3 none, .d (eB p4)]), .row 1 (List.map eU8 p1) true] (.slc 1 1 r.1 r.2.1 none) [.box (.agg [.slc 1 1 r.2.2.1 r.2.2.2.1 none, .d (eB r.2.2.2.2)]), .row 1 (List.map eU8 p1) true] := by
 unfold pack_In_take_1 at h0
 refine fn0 [0, 1] Tryd.func96 rfl rfl rfl rfl rfl ?_
 refine sr (s1 (asg (v := .d .nils) rfl) (sn (sq (SC.seqP h0 (fun y => ⟨mk 44 [(0, .ref 0 0 0), (1, .d (eI p0)), (22, .d (eB y))], [.box (.agg [.slc 1 1 p2 p3 none, .d (eB p4)]), .row 1 (List.map eU8 p1) true]⟩) ?_ ?_))))
 ·intro u1_17 h1
  refine SC.region (sm rfl (s1 (bi (v := .d (eB false)) rfl rfl (fun _ _ => nil_eql un108)) (sm rfl (gw rfl (mv rfl) (gw rfl (nkr rfl) (gw rfl (far (k := 1) rfl fo160_1 ts4 rfl) (gw rfl (lod rfl (ld_box ts4 ta4 rfl rfl)) (s1 (pkf rfl rfl) (sm rfl ?_)))))))))
  refine sp h1 (fun h1 => ?_) (fun h1 => ?_)
  ·have q := si h1; subst q
   exact kw rfl (kw rfl (kw rfl (kw rfl (kw rfl (kw rfl (kw rfl (s1 (pkt rfl rfl) (SO.nil ((wq rfl))))))))))
  ·have q := si h1; subst q
   exact gw rfl (mv rfl) (gw rfl (nkr rfl) (gw rfl (far (k := 0) rfl fo160_0 ts72 rfl) (gw rfl (lod rfl (ld_box ts72 ta72 rfl rfl)) (gw rfl (len rfl rfl rfl (len_slc un72)) (gw rfl (mv rfl) (gw rfl (bi rfl rfl q_i64_lss) (s1 (pkf rfl rfl) (SO.nil ((wq rfl))))))))))
 ·rintro y16 h0
  refine cB h0 rfl (fun h0 => ?_) (fun h0 => ?_)
  ·refine SC.seqP h0 (fun y => ⟨mk 44 [], [.box (.agg [.slc 1 1 p2 p3 none, .d (eB true)]), .row 1 (List.map eU8 p1) true]⟩) ?_ ?_
   ·intro u1_18 h1
    have q := si h1; subst q
    refine sr (sm rfl (s1 (bi (v := .d (eB true)) rfl rfl (fun _ _ => nil_neq un108)) (sn (cT rfl (SC.region (sm rfl (s1 (nkr rfl) (s1 (far (k := 1) rfl fo160_1 ts4 rfl) (s0 (sto (b := .d (eB true)) rfl rfl (sB (d' := .agg [.slc 1 1 p2 p3 none, .d (eB true)]) ts4 rfl rfl rfl rfl rfl rfl rfl)) ?_)))))))))
    exact SO.nil ((wq rfl))
   ·intro _ h0
    have q := si h0; subst q
    exact sr (s1 (asg (v := .d .nils) rfl) (sn (SC.ret (finR (Wk.trans (Wk.env (e' := [(4, .slc 1 1 0 0 none)]) (EW.cons (AW.slcn _ _ _) EW.nil)) (wq (e' := [(4, .slc 1 1 0 0 none)]) rfl)) (lresT rfl lresN) rfl))))
  ·obtain ⟨hg19, h0⟩ := gd h0; obtain ⟨hg20, h0⟩ := gd h0; have q := si h0; subst q
   refine sk (sr (sm rfl (s1 (nkr rfl) (s1 (far (k := 0) rfl fo160_0 ts72 rfl) (s1 (lod rfl (ld_box ts72 ta72 rfl rfl)) (sm rfl (s1 (slo rfl rfl rfl rfl (sl_slc_hi un72 ts5 hg19)) (sa rfl (sn ?_)))))))))
   refine sr (sm rfl (sm rfl (s1 (nkr rfl) (s1 (far (k := 0) rfl fo160_0 ts72 rfl) (s1 (lod rfl (ld_box ts72 ta72 rfl rfl)) (sm rfl (s1 (slo rfl rfl rfl rfl (sl_slc_lo un72 ts5 hg20)) (s1 (nkr rfl) (s1 (far (k := 0) rfl fo160_0 ts72 rfl) ?_)))))))))
   exact s0 (sto rfl rfl (sB (d' := .agg [.slc 1 1 (p2 + p0.toNat) (p3 - p0.toNat) none, .d (eB p4)]) ts72 rfl rfl rfl rfl rfl rfl rfl)) (sn (sr (sm rfl (sa rfl (sn (SC.ret (finR (Wk.refl _) (lresT rfl lresN) rfl)))))))
noncomputable def pack_In_number_1 (p0 : Int) (p1 : List UInt8) (p2 : Nat) (p3 : Nat) (p4 : Bool) : Option (UInt64 × Nat × Nat × Bool) :=
 Option.bind (α := UInt64 × Nat × Nat × Bool)
 (Option.bind (pack_In_take_1 p0 p1 p2 p3 p4) fun (r101, r102, r103, r104, r105) =>
 Option.bind (α := UInt64 × Nat × Nat × Bool)
 (loop (Y := UInt64 × Int) (W := UInt64 × Nat × Nat × Bool) (fun (y107, y108) =>
 bif (decide (y108 < (r102 : Int))) then
 Option.bind (getS p1 r101 r102 y108) fun v114 =>
 some (Sum.inl (((shl64 y107 8) ||| (v114.toUInt64)), (w64 (y108 + (1 : Int)))))
 else
 some (Sum.inr (y107, r103, r104, r105))) ((0 : UInt64), (0 : Int)))
 (fun e => some e))
 fun (y95, y96, y97, y98) =>
 some (y95, y96, y97, y98)
theorem pack_In_number_1_ok (p0 : Int) (p1 : List UInt8) (p2 : Nat) (p3 : Nat) (p4 : Bool) (r : UInt64 × Nat × Nat × Bool) (h0 : pack_In_number_1 p0 p1 p2 p3 p4 = some r) : CallAt Tryd.prog 73 [.ref 0 0 0, .d (eI p0)] [.box (.agg [.slc 1 1 p2 p3 none, .d (eB p4)]), .row 1 (List.map eU8 p1) true] (.d (eU64 r.1)) [.box (.agg [.slc 1 1 r.2.1 r.2.2.1 none, .d (eB r.2.2.2)]), .row 1 (List.map eU8 p1) true] := by
 unfold pack_In_number_1 at h0
 refine fn0 [0, 1] Tryd.func73 rfl rfl rfl rfl rfl ?_
 refine sr (s1 (asg (v := .d (eU64 (0 : UInt64))) rfl) (sn (sr (s1 (asg (v := .d (eU64 (0 : UInt64))) rfl) (sn (SC.seqP h0 (fun y => ⟨mk 23 [(5, .d (eU64 y.1))], [.box (.agg [.slc 1 1 y.2.1 y.2.2.1 none, .d (eB y.2.2.2)]), .row 1 (List.map eU8 p1) true]⟩) ?_ ?_))))))
 ·intro u1_99 h1
  obtain ⟨⟨r101, r102, r103, r104, r105⟩, hq100, h1⟩ := ob h1; obtain ⟨u2_113, h2, h1⟩ := ob h1
  refine sr (sm rfl (sm rfl (cq [0, 1] [] (pack_In_take_1_ok p0 p1 p2 p3 p4 _ hq100) wf rfl rfl rfl cb96 rfl rfl rfl rfl rfl rfl rfl rfl (s1 (len rfl rfl rfl (len_slc un72)) (sm rfl (sn (SC.blk (SC.loopB h2 (fun y => ⟨mk 23 [(5, .d (eU64 y.1)), (10, .slc 1 1 r101 r102 none), (11, .d (eI (r102 : Int))), (12, .d (eI y.2))], [.box (.agg [.slc 1 1 r103 r104 none, .d (eB r105)]), .row 1 (List.map eU8 p1) true]⟩) (wq rfl) ?_))))))))
  intro n115
  rintro ⟨y107, y108⟩ w2_112 h3 hv3
  refine sr (s1 (bi rfl rfl q_i64_lss) (sn (sq (cB h3 rfl (fun h3 => ?_) (fun h3 => ?_)))))
  ·obtain ⟨v114, hv114, h3⟩ := ob h3
   refine sk (sq (SC.blk (sr (s1 (ias rfl rfl un72 ts5 (getS_some hv114).1) (s1 (lod rfl (ld_row ts5 ta5 rfl (map_get (getS_some hv114).2) rfl)) (sa rfl (sn (SC.region (sm rfl ?_)))))))))
   refine s1 (bi (v := .d (eU64 (shl64 y107 8))) rfl rfl (fun X Y => b_u64_shl _ X Y y107 _ (by decide))) (sm rfl (s1 (cvo rfl (cv_u8_u64 un5 un35 v114)) (s1 (bi rfl rfl q_u64_or) (sa rfl (SO.nil ?_)))))
   change SC _ _ _ _ _
   have q := si h3; subst q
   exact SC.region (s1 (bi rfl rfl q_i64_add) (sm rfl (SO.nil (lf (wq rfl)))))
  ·have q := si h3; subst q; have q : _ = _ := hv3; subst q; have q := si h1; subst q
   exact SC.exit ((wq rfl))
 ·rintro ⟨y95, y96, y97, y98⟩ h0
  have q := si h0; subst q
  exact sr (sm rfl (sa rfl (sn (SC.ret (finR (Wk.refl _) (lresT rfl lresN) rfl)))))
noncomputable def pack_In_U8 (p0 : List UInt8) (p1 : Nat) (p2 : Nat) (p3 : Bool) : Option (UInt8 × Nat × Nat × Bool) :=
 Option.bind (pack_In_number_1 (1 : Int) p0 p1 p2 p3) fun (r16, r17, r18, r19) =>
 some ((r16.toUInt8), r17, r18, r19)
theorem pack_In_U8_ok (p0 : List UInt8) (p1 : Nat) (p2 : Nat) (p3 : Bool) (r : UInt8 × Nat × Nat × Bool) (h0 : pack_In_U8 p0 p1 p2 p3 = some r) : CallAt Tryd.prog 74 [.ref 0 0 0] [.box (.agg [.slc 1 1 p1 p2 none, .d (eB p3)]), .row 1 (List.map eU8 p0) true] (.d (eU8 r.1)) [.box (.agg [.slc 1 1 r.2.1 r.2.2.1 none, .d (eB r.2.2.2)]), .row 1 (List.map eU8 p0) true] := by
 unfold pack_In_U8 at h0
 refine fn0 [0] Tryd.func74 rfl rfl rfl rfl rfl ?_
 obtain ⟨⟨r16, r17, r18, r19⟩, hq15, h0⟩ := ob h0; have q := si h0; subst q
 refine sr (s1 (asg (v := .d (eU8 (0 : UInt8))) rfl) (sn (sr (sm rfl (cq [0, 1] [] (pack_In_number_1_ok (1 : Int) p0 p1 p2 p3 _ hq15) wf rfl rfl rfl cb73 rfl rfl rfl rfl rfl rfl rfl rfl (s1 (cvo rfl (cv_u64_u8 un35 un5 r16)) (sa rfl (sn (SC.ret ?_)))))))))
 exact finR (Wk.refl _) (lresT rfl lresN) rfl
noncomputable def catalog_taker_place_1 (p0 : List UInt8) (p1 : Nat) (p2 : Nat) (p3 : Bool) : Option (Int × Nat × Nat × Bool) :=
 Option.bind (pack_In_U8 p0 p1 p2 p3) fun (r16, r17, r18, r19) =>
 some ((r16.toNat : Int), r17, r18, r19)
theorem catalog_taker_place_1_ok (p0 : List UInt8) (p1 : Nat) (p2 : Nat) (p3 : Bool) (r : Int × Nat × Nat × Bool) (h0 : catalog_taker_place_1 p0 p1 p2 p3 = some r) : CallAt Tryd.prog 44 [.agg [.ref 0 0 0]] [.box (.agg [.slc 1 1 p1 p2 none, .d (eB p3)]), .row 1 (List.map eU8 p0) true] (.d (eI r.1)) [.box (.agg [.slc 1 1 r.2.1 r.2.2.1 none, .d (eB r.2.2.2)]), .row 1 (List.map eU8 p0) true] := by
 unfold catalog_taker_place_1 at h0
 refine fn0 [0] Tryd.func44 rfl rfl rfl rfl rfl ?_
 obtain ⟨⟨r16, r17, r18, r19⟩, hq15, h0⟩ := ob h0; have q := si h0; subst q
 refine sr (s1 (bxo (k := 2) rfl rfl rfl) (sa rfl (sn (sr (s1 (far (k := 0) rfl fo110_0 ts108 rfl) (s1 (lod rfl (ld_box ts108 ta108 rfl rfl)) (cq [0, 1] [] (pack_In_U8_ok p0 p1 p2 p3 _ hq15) wf rfl rfl rfl cb74 rfl rfl rfl rfl rfl rfl rfl rfl (s1 (cvo rfl (cv_u8_i64 un5 un3 r16)) (sa rfl ?_)))))))))
 exact sn (SC.ret (finR (wc (e' := [(2, .d (eI (r16.toNat : Int)))]) [0, 1] [0, 1] (by kernel_rfl) rfl (by kernel_rfl)) (lresT rfl lresN) rfl))
noncomputable def pack_In_Bad (p0 : List UInt8) (p1 : Nat) (p2 : Nat) (p3 : Bool) : Option Unit :=
 Option.bind (α := Unit)
 (some ())
 fun _ =>
 some ()
theorem pack_In_Bad_ok (p0 : List UInt8) (p1 : Nat) (p2 : Nat) (p3 : Bool) (r : Unit) (h0 : pack_In_Bad p0 p1 p2 p3 = some r) : CallAt Tryd.prog 76 [.ref 0 0 0] [.box (.agg [.slc 1 1 p1 p2 none, .d (eB p3)]), .row 1 (List.map eU8 p0) true] (.d (eB p3)) [.box (.agg [.slc 1 1 p1 p2 none, .d (eB p3)]), .row 1 (List.map eU8 p0) true] := by
 unfold pack_In_Bad at h0
 refine fn0 [0] Tryd.func76 rfl rfl rfl rfl rfl ?_
 refine sr (sa rfl (sn (SC.seqP h0 (fun y => ⟨mk 11 [(2, .d (eB p3))], [.box (.agg [.slc 1 1 p1 p2 none, .d (eB p3)]), .row 1 (List.map eU8 p0) true]⟩) ?_ ?_)))
 ·intro u1_3 h1
  have q := si h1; subst q
  refine SC.region (sm rfl (s1 (bi (v := .d (eB false)) rfl rfl (fun _ _ => nil_eql un108)) (sm rfl (gw rfl (mv rfl) (gw rfl (nkr rfl) (gw rfl (far (k := 1) rfl fo160_1 ts4 rfl) (gw rfl (lod rfl (ld_box ts4 ta4 rfl rfl)) (s1 (pkf rfl rfl) (sa rfl ?_)))))))))
  exact SO.nil ((wq rfl))
 ·intro _ h0
  have q := si h0; subst q
  exact SC.ret (finR (Wk.refl _) (lresT rfl lresN) rfl)
noncomputable def catalog_list_int_1 (p0 : Int) (p1 : List UInt8) (p2 : Nat) (p3 : Nat) (p4 : Bool) : Option ((List Int) × Nat × Nat × Bool) :=
 Option.bind (α := (List Int) × Nat × Nat × Bool)
 (Option.bind (α := (List Int) × Nat × Nat × Bool)
 (loop (Y := (List Int) × Int × Nat × Nat × Bool) (W := (List Int) × Nat × Nat × Bool) (fun (y245, y246, y247, y248, y249) =>
 Option.bind (α := Bool)
 (bif (decide (y246 < p0)) then
 Option.bind (pack_In_Bad p1 y247 y248 y249) fun _ =>
 some (!y249)
 else
 some false)
 fun y268 =>
 bif y268 then
 Option.bind (catalog_taker_place_1 p1 y247 y248 y249) fun (r272, r273, r274, r275) =>
 bif decide ((y245.length + [r272].length) * 8 ≤ room) then
 some (Sum.inl ((y245 ++ [r272]), (w64 (y246 + (1 : Int))), r273, r274, r275))
 else none
 else
 some (Sum.inr (y245, y247, y248, y249))) (([] : List Int), (0 : Int), p2, p3, p4))
 (fun e => some e))
 fun (y230, y231, y232, y233) =>
 some (y230, y231, y232, y233)
theorem catalog_list_int_1_ok (p0 : Int) (p1 : List UInt8) (p2 : Nat) (p3 : Nat) (p4 : Bool) (r : (List Int) × Nat × Nat × Bool) (h0 : catalog_list_int_1 p0 p1 p2 p3 p4 = some r) : CallAt Tryd.prog 75 [.agg [.ref 0 0 0], .d (eI p0), .fn (.func 44) [.agg [.ref 0 0 0]] []] [.box (.agg [.slc 1 1 p2 p3 none, .d (eB p4)]), .row 1 (List.map eU8 p1) true] (.d ((eL 1 eI) r.1)) [.box (.agg [.slc 1 1 r.2.1 r.2.2.1 none, .d (eB r.2.2.2)]), .row 1 (List.map eU8 p1) true] := by
 unfold catalog_list_int_1 at h0
 refine fn0 [0, 1, 2] Tryd.func75 rfl rfl rfl rfl rfl ?_
 refine sr (s1 (bxo (k := 2) rfl rfl rfl) (s1 (asg (v := .d .nils) rfl) (sn (sr (s1 (asg (v := .d .nils) rfl) (sn (SC.seqP h0 (fun y => ⟨mk 26 [(7, .slc 2 1 0 y.1.length none)], [.box (.agg [.slc 1 1 y.2.1 y.2.2.1 none, .d (eB y.2.2.2)]), .row 1 (List.map eU8 p1) true, .row 1 (List.map eI y.1) true]⟩) ?_ ?_)))))))
 ·intro u1_234 h1
  obtain ⟨u2_266, h2, h1⟩ := ob h1
  refine sr (sa rfl (sn (SC.blk (SC.loopB h2 (fun y => ⟨mk 26 [(1, .d (eI p0)), (2, .fn (.func 44) [.agg [.ref 0 0 0]] []), (3, .ref 2 0 0), (7, .slc 3 1 0 y.1.length none), (8, .d (eI y.2.1))], [.box (.agg [.slc 1 1 y.2.2.1 y.2.2.2.1 none, .d (eB y.2.2.2.2)]), .row 1 (List.map eU8 p1) true, .box (.agg [.ref 0 0 0]), .row 1 (List.map eI y.1) true]⟩) (Wk.trans (Wk.pushE (σ' := [.box (.agg [.slc 1 1 p2 p3 none, .d (eB p4)]), .row 1 (List.map eU8 p1) true, .box (.agg [.ref 0 0 0]), .row 1 (List.map eI ([] : List Int)) true]) (.row 1 [] true) (fun _ hh => by cases hh) rfl) (Wk.trans (Wk.env (e' := [(1, .d (eI p0)), (2, .fn (.func 44) [.agg [.ref 0 0 0]] []), (3, .ref 2 0 0), (7, .slc 3 1 0 (([] : List Int).length) none), (8, .d (eI (0 : Int)))]) (EW.cons (AW.refl _) (EW.cons (AW.refl _) (EW.cons (AW.refl _) (EW.cons (AW.slcn _ _ _) (EW.cons (AW.refl _) EW.nil)))))) (wq rfl))) ?_))))
  intro n277
  rintro ⟨y245, y246, y247, y248, y249⟩ w2_265 h3 hv3
  refine sq (SC.seqP h3 (fun y => ⟨mk 26 [(1, .d (eI p0)), (2, .fn (.func 44) [.agg [.ref 0 0 0]] []), (3, .ref 2 0 0), (7, .slc 3 1 0 y245.length none), (8, .d (eI y246)), (17, .d (eB y))], [.box (.agg [.slc 1 1 y247 y248 none, .d (eB y249)]), .row 1 (List.map eU8 p1) true, .box (.agg [.ref 0 0 0]), .row 1 (List.map eI y245) true]⟩) ?_ ?_)
  ·intro u4_269 h4
   refine SC.region (sm rfl (sm rfl (s1 (bi rfl rfl q_i64_lss) (sm rfl (sp h4 (fun h4 => ?_) (fun h4 => ?_))))))
   ·obtain ⟨_, hq270, h4⟩ := ob h4; have q := si h4; subst q
    exact gw rfl (far (k := 0) rfl fo110_0 ts108 rfl) (gw rfl (lod rfl (ld_box ts108 ta108 rfl rfl)) (cq [0, 1] [] (pack_In_Bad_ok p1 y247 y248 y249 _ hq270) (ww rfl) rfl rfl rfl cb76 rfl rfl rfl rfl rfl rfl rfl rfl (gw rfl (nt rfl) (s1 (pkt rfl rfl) (SO.nil ((wq rfl)))))))
   ·have q := si h4; subst q
    exact kw rfl (kw rfl (kw rfl (kw rfl (s1 (pkf rfl rfl) (SO.nil ((wq rfl)))))))
  ·rintro y268 h3
   refine cB h3 rfl (fun h3 => ?_) (fun h3 => ?_)
   ·obtain ⟨⟨r272, r273, r274, r275⟩, hq271, h3⟩ := ob h3; obtain ⟨hg276, h3⟩ := gd h3
    refine sk (sq (SC.blk (SC.region (sm rfl (sm rfl (cq [0, 1] [] (catalog_taker_place_1_ok p1 y247 y248 y249 _ hq271) wf rfl rfl rfl cb44 rfl rfl rfl rfl rfl rfl rfl rfl (s1 (bsn (k := 4) (ds := List.map eI [r272]) (off := 0) (l' := [r272].length) rfl un50 ei3 rfl rfl (by rfl) rfl rfl rfl) (s1 (app rfl rfl rfl rfl bc50 (aF (f := eI) (xs := y245) (k := 5) rfl un50 ei3 rfl (el_full (xs := [r272]) rfl) hg276 rfl)) (sa rfl ?_)))))))))
    refine SO.nil ?_
    change SC _ _ _ _ _
    have q := si h3; subst q
    exact SC.region (sm rfl (s1 (bi rfl rfl q_i64_add) (sa rfl (SO.nil (lf (wc [0, 1, 2, 5] [0, 1, 0, 2, 5] (by kernel_rfl) rfl (by kernel_rfl)))))))
   ·have q := si h3; subst q; have q : _ = _ := hv3; subst q; have q := si h1; subst q
    exact SC.exit ((wc [0, 1, 3] [0, 1, 3] (by kernel_rfl) rfl (by kernel_rfl)))
 ·rintro ⟨y230, y231, y232, y233⟩ h0
  have q := si h0; subst q
  exact sr (sm rfl (sa rfl (sn (SC.ret (finR (Wk.trans (Wk.frz (i := 6) (x := .slc 2 1 0 y230.length none) rfl rfl (fF rfl rfl rfl)) (wc (e' := [(6, .d ((eL 1 eI) y230))]) [0, 1] [0, 1] (by kernel_rfl) rfl (by kernel_rfl))) (lresT rfl lresN) rfl)))))
noncomputable def catalog_taker_places_1 (p0 : List UInt8) (p1 : Nat) (p2 : Nat) (p3 : Bool) : Option ((List Int) × Nat × Nat × Bool) :=
 Option.bind (catalog_taker_place_1 p0 p1 p2 p3) fun (r26, r27, r28, r29) =>
 Option.bind (catalog_list_int_1 r26 p0 r27 r28 r29) fun (r31, r32, r33, r34) =>
 some (r31, r32, r33, r34)
theorem catalog_taker_places_1_ok (p0 : List UInt8) (p1 : Nat) (p2 : Nat) (p3 : Bool) (r : (List Int) × Nat × Nat × Bool) (h0 : catalog_taker_places_1 p0 p1 p2 p3 = some r) : CallAt Tryd.prog 45 [.agg [.ref 0 0 0]] [.box (.agg [.slc 1 1 p1 p2 none, .d (eB p3)]), .row 1 (List.map eU8 p0) true] (.d ((eL 1 eI) r.1)) [.box (.agg [.slc 1 1 r.2.1 r.2.2.1 none, .d (eB r.2.2.2)]), .row 1 (List.map eU8 p0) true] := by
 unfold catalog_taker_places_1 at h0
 refine fn0 [0] Tryd.func45 rfl rfl rfl rfl rfl ?_
 obtain ⟨⟨r26, r27, r28, r29⟩, hq25, h0⟩ := ob h0; obtain ⟨⟨r31, r32, r33, r34⟩, hq30, h0⟩ := ob h0; have q := si h0; subst q
 refine sr (s1 (bxo (k := 2) rfl rfl rfl) (s1 (asg (v := .d .nils) rfl) (sn (sd (by kernel_rfl) (t1 ([2], false) (lod (v := .agg [.ref 0 0 0]) rfl (ld_box ts110 ta110 rfl rfl)) rfl (t1 ([2], false) (lod (v := .agg [.ref 0 0 0]) rfl (ld_box ts110 ta110 rfl rfl)) rfl (tq [0, 1] [] ([0, 1], true) (catalog_taker_place_1_ok p0 p1 p2 p3 _ hq25) wf rfl rfl rfl cb44 rfl rfl rfl rfl rfl rfl rfl rfl rfl (t1 ([2], false) (lod (v := .agg [.ref 0 0 0]) rfl (ld_box ts110 ta110 rfl rfl)) rfl (t1 ([], false) (mkf rfl rfl) rfl ?_)))))))))
 exact tq [0, 1] [] ([0, 1], true) (catalog_list_int_1_ok r26 p0 r27 r28 r29 _ hq30) wf rfl rfl rfl cb75 rfl rfl rfl rfl rfl rfl rfl rfl rfl (t1 ([], false) (asg rfl) rfl (tn (by decide +kernel) (SC.ret (finR (wc (e' := [(2, .d ((eL 1 eI) r31))]) [0, 1] [0, 1] (by kernel_rfl) rfl (by kernel_rfl)) (lresT rfl lresN) rfl))))
noncomputable def pack_In_Left (p0 : List UInt8) (p1 : Nat) (p2 : Nat) (p3 : Bool) : Option Unit :=
 some ()
theorem pack_In_Left_ok (p0 : List UInt8) (p1 : Nat) (p2 : Nat) (p3 : Bool) (r : Unit) (h0 : pack_In_Left p0 p1 p2 p3 = some r) : CallAt Tryd.prog 77 [.ref 0 0 0] [.box (.agg [.slc 1 1 p1 p2 none, .d (eB p3)]), .row 1 (List.map eU8 p0) true] (.d (eI (p2 : Int))) [.box (.agg [.slc 1 1 p1 p2 none, .d (eB p3)]), .row 1 (List.map eU8 p0) true] := by
 unfold pack_In_Left at h0
 refine fn0 [0] Tryd.func77 rfl rfl rfl rfl rfl ?_
 have q := si h0; subst q
 refine sr (sa rfl (sn (sq (sr (sm rfl (s1 (bi (v := .d (eB false)) rfl rfl (fun _ _ => nil_eql un108)) (sn (cF rfl (sk ?_)))))))))
 exact sr (sm rfl (s1 (nkr rfl) (s1 (far (k := 0) rfl fo160_0 ts72 rfl) (s1 (lod rfl (ld_box ts72 ta72 rfl rfl)) (s1 (len rfl rfl rfl (len_slc un72)) (sa rfl (sn (SC.ret (finR (Wk.refl _) (lresT rfl lresN) rfl)))))))))
noncomputable def pack_In_Done (p0 : List UInt8) (p1 : Nat) (p2 : Nat) (p3 : Bool) : Option Bool :=
 Option.bind (α := Bool)
 (Option.bind (pack_In_Bad p0 p1 p2 p3) fun _ =>
 bif (!p3) then
 Option.bind (pack_In_Left p0 p1 p2 p3) fun _ =>
 some ((p2 : Int) == (0 : Int))
 else
 some false)
 fun y16 =>
 some y16
theorem pack_In_Done_ok (p0 : List UInt8) (p1 : Nat) (p2 : Nat) (p3 : Bool) (r : Bool) (h0 : pack_In_Done p0 p1 p2 p3 = some r) : CallAt Tryd.prog 46 [.ref 0 0 0] [.box (.agg [.slc 1 1 p1 p2 none, .d (eB p3)]), .row 1 (List.map eU8 p0) true] (.d (eB r)) [.box (.agg [.slc 1 1 p1 p2 none, .d (eB p3)]), .row 1 (List.map eU8 p0) true] := by
 unfold pack_In_Done at h0
 refine fn0 [0] Tryd.func46 rfl rfl rfl rfl rfl ?_
 refine sr (sa rfl (sn (SC.seqP h0 (fun y => ⟨mk 11 [(2, .d (eB y))], [.box (.agg [.slc 1 1 p1 p2 none, .d (eB p3)]), .row 1 (List.map eU8 p0) true]⟩) ?_ ?_)))
 ·intro u1_17 h1
  obtain ⟨_, hq18, h1⟩ := ob h1
  refine SC.region (sm rfl (cq [0, 1] [] (pack_In_Bad_ok p0 p1 p2 p3 _ hq18) wf rfl rfl rfl cb76 rfl rfl rfl rfl rfl rfl rfl rfl (s1 (nt rfl) (sm rfl (sp h1 (fun h1 => ?_) (fun h1 => ?_))))))
  ·obtain ⟨_, hq19, h1⟩ := ob h1; have q := si h1; subst q
   exact gw rfl (mv rfl) (cq [0, 1] [] (pack_In_Left_ok p0 p1 p2 p3 _ hq19) (ww rfl) rfl rfl rfl cb77 rfl rfl rfl rfl rfl rfl rfl rfl (gw rfl (bi rfl rfl q_i64_eql) (s1 (pkt rfl rfl) (sa rfl (SO.nil ((wq rfl)))))))
  ·have q := si h1; subst q
   exact kw rfl (kw rfl (kw rfl (s1 (pkf rfl rfl) (sa rfl (SO.nil ((wq rfl)))))))
 ·rintro y16 h0
  have q := si h0; subst q
  exact SC.ret (finR (Wk.refl _) (lresT rfl lresN) rfl)
noncomputable def pack_In_long_1 (p0 : List UInt8) (p1 : Bool) : Option Int :=
 Option.bind (getI p0 (0 : Int)) fun v6 =>
 Option.bind (getI p0 (1 : Int)) fun v7 =>
 some (orI (w64 ((v6.toNat : Int) * 2 ^ min ((8 : UInt64).toNat : Int).toNat 64)) (v7.toNat : Int))
theorem pack_In_long_1_ok (p0 : List UInt8) (p1 : Bool) (r : Int) (h0 : pack_In_long_1 p0 p1 = some r) : CallAt Tryd.prog 97 [.ref 0 0 0] [.box (.agg [.slc 1 1 0 p0.length none, .d (eB p1)]), .row 1 (List.map eU8 p0) true] (.d (eI r)) [.box (.agg [.slc 1 1 0 p0.length none, .d (eB p1)]), .row 1 (List.map eU8 p0) true] := by
 unfold pack_In_long_1 at h0
 refine fn0 [0] Tryd.func97 rfl rfl rfl rfl rfl ?_
 obtain ⟨v6, hv6, h0⟩ := ob h0; obtain ⟨v7, hv7, h0⟩ := ob h0; have q := si h0; subst q
 refine sr (sa rfl (sn (sd (by kernel_rfl) (t1 ([], false) (mv rfl) rfl (t1 ([], false) (nkr rfl) rfl (t1 ([], false) (far (k := 0) rfl fo160_0 ts72 rfl) rfl (t1 ([0], false) (lod rfl (ld_box ts72 ta72 rfl rfl)) rfl (t1 ([], false) (iaz rfl rfl un72 ts5 (getI_lt hv6)) rfl (t1 ([1], false) (lod rfl (ld_row ts5 ta5 rfl (map_get (getI_some hv6).2) rfl)) rfl ?_)))))))))
 refine t1 ([], false) (cvo rfl (cv_u8_i64 un5 un3 v6)) rfl (t1 ([], false) (bi (v := .d (eI (w64 ((v6.toNat : Int) * 2 ^ min ((8 : UInt64).toNat : Int).toNat 64)))) rfl rfl (fun X Y => b_i64_shl _ X Y (v6.toNat : Int) _ (by decide))) rfl (t1 ([], false) (mv rfl) rfl (t1 ([], false) (nkr rfl) rfl (t1 ([], false) (far (k := 0) rfl fo160_0 ts72 rfl) rfl (t1 ([0], false) (lod rfl (ld_box ts72 ta72 rfl rfl)) rfl (t1 ([], false) (iaz rfl rfl un72 ts5 (getI_lt hv7)) rfl (t1 ([1], false) (lod rfl (ld_row ts5 ta5 rfl (map_get (getI_some hv7).2) rfl)) rfl (t1 ([], false) (cvo rfl (cv_u8_i64 un5 un3 v7)) rfl (t1 ([], false) (bi rfl rfl q_i64_or) rfl ?_)))))))))
 exact t1 ([], false) (asg rfl) rfl (tn (by decide +kernel) (SC.ret (finR (Wk.refl _) (lresT rfl lresN) rfl)))
noncomputable def pack_In_Text_1 (p0 : List UInt8) (p1 : Bool) : Option ((List UInt8) × Nat × Nat × Bool) :=
 Option.bind (α := Bool)
 (bif p1 then
 some true
 else
 bif (decide ((p0.length : Int) < (2 : Int))) then
 some true
 else
 Option.bind (pack_In_long_1 p0 p1) fun r42 =>
 some (decide ((p0.length : Int) < (w64 ((2 : Int) + r42)))))
 fun y39 =>
 bif y39 then
 Option.bind (α := Unit)
 (some ())
 fun _ =>
 some (([] : List UInt8), 0, p0.length, true)
 else
 Option.bind (pack_In_long_1 p0 p1) fun r45 =>
 Option.bind (pack_In_take (w64 ((2 : Int) + r45)) p0 p1) fun (r47, r48, r49, r50) =>
 bif decide (0 ≤ (2 : Int) ∧ (2 : Int) ≤ (r47 : Int)) then
 bif decide ((0 + (2 : Int).toNat) + (r47 - (2 : Int).toNat) ≤ p0.length) then
 some ((List.take (r47 - (2 : Int).toNat) (List.drop (0 + (2 : Int).toNat) p0)), r48, r49, r50)
 else none
 else none
theorem pack_In_Text_1_ok (p0 : List UInt8) (p1 : Bool) (r : (List UInt8) × Nat × Nat × Bool) (h0 : pack_In_Text_1 p0 p1 = some r) : CallAt Tryd.prog 78 [.ref 0 0 0] [.box (.agg [.slc 1 1 0 p0.length none, .d (eB p1)]), .row 1 (List.map eU8 p0) true] (.d (eS r.1)) [.box (.agg [.slc 1 1 r.2.1 r.2.2.1 none, .d (eB r.2.2.2)]), .row 1 (List.map eU8 p0) true] := by
 unfold pack_In_Text_1 at h0
 refine fn0 [0] Tryd.func78 rfl rfl rfl rfl rfl ?_
 refine sr (s1 (asg (v := .d (eS ([] : List UInt8))) rfl) (sn (sq (SC.seqP h0 (fun y => ⟨mk 42 [(0, .ref 0 0 0), (29, .d (eB y))], [.box (.agg [.slc 1 1 0 p0.length none, .d (eB p1)]), .row 1 (List.map eU8 p0) true]⟩) ?_ ?_))))
 ·intro u1_40 h1
  refine SC.draws (by kernel_rfl) (t1 ([], false) (mv rfl) rfl (t1 ([], false) (bi (v := .d (eB false)) rfl rfl (fun _ _ => nil_eql un108)) rfl (t1 ([], false) (mv rfl) rfl (u1 ([], false) (ww rfl) (mv rfl) rfl (u1 ([], false) (ww rfl) (nkr rfl) rfl (u1 ([], false) (ww rfl) (far (k := 1) rfl fo160_1 ts4 rfl) rfl (u1 ([0], false) (ww rfl) (lod rfl (ld_box ts4 ta4 rfl rfl)) rfl (t1 ([], false) (pkf rfl rfl) rfl (t1 ([], false) (mv rfl) rfl ?_)))))))))
  refine tp h1 (fun h1 => ?_) (fun h1 => ?_)
  ·have q := si h1; subst q
   refine jw rfl (jw rfl (jw rfl (jw rfl (jw rfl (jw rfl (t1 ([], false) (pkt rfl rfl) rfl (t1 ([], false) (mv rfl) rfl (jw rfl (jw rfl ?_)))))))))
   refine jw rfl (jw rfl (jw rfl (jw rfl (jw rfl (jw rfl (jw rfl (t1 ([], false) (pkt rfl rfl) rfl (ST.nil (And.intro (by decide +kernel) ?_)))))))))
   exact (wq rfl)
  ·refine u1 ([], false) (ww rfl) (mv rfl) rfl (u1 ([], false) (ww rfl) (nkr rfl) rfl (u1 ([], false) (ww rfl) (far (k := 0) rfl fo160_0 ts72 rfl) rfl (u1 ([0], false) (ww rfl) (lod rfl (ld_box ts72 ta72 rfl rfl)) rfl (u1 ([], false) (ww rfl) (len rfl rfl rfl (len_slc un72)) rfl (u1 ([], false) (ww rfl) (bi rfl rfl q_i64_lss) rfl (t1 ([], false) (pkf rfl rfl) rfl (t1 ([], false) (mv rfl) rfl (tp h1 (fun h1 => ?_) (fun h1 => ?_)))))))))
   ·have q := si h1; subst q
    refine jw rfl (jw rfl (jw rfl (jw rfl (jw rfl (jw rfl (jw rfl (jw rfl (jw rfl (t1 ([], false) (pkt rfl rfl) rfl ?_)))))))))
    refine ST.nil (And.intro (by decide +kernel) ?_)
    exact (wq rfl)
   ·obtain ⟨r42, hq41, h1⟩ := ob h1; have q := si h1; subst q
    refine u1 ([], false) (ww rfl) (mv rfl) rfl (u1 ([], false) (ww rfl) (nkr rfl) rfl (u1 ([], false) (ww rfl) (far (k := 0) rfl fo160_0 ts72 rfl) rfl (u1 ([0], false) (ww rfl) (lod rfl (ld_box ts72 ta72 rfl rfl)) rfl (u1 ([], false) (ww rfl) (len rfl rfl rfl (len_slc un72)) rfl (u1 ([], false) (ww rfl) (mv rfl) rfl (tqr [0, 1] [0, 1] (pack_In_long_1_ok p0 p1 _ hq41) (ww rfl) rfl rfl rfl cb97 rfl rfl rfl rfl rfl rfl rfl rfl (u1 ([], false) (ww rfl) (bi rfl rfl q_i64_add) rfl (u1 ([], false) (ww rfl) (bi rfl rfl q_i64_lss) rfl (t1 ([], false) (pkf rfl rfl) rfl ?_)))))))))
    refine ST.nil (And.intro (by decide +kernel) ?_)
    exact (wq rfl)
 ·rintro y39 h0
  refine cB h0 rfl (fun h0 => ?_) (fun h0 => ?_)
  ·refine SC.seqP h0 (fun y => ⟨mk 42 [], [.box (.agg [.slc 1 1 0 p0.length none, .d (eB true)]), .row 1 (List.map eU8 p0) true]⟩) ?_ ?_
   ·intro u1_43 h1
    have q := si h1; subst q
    refine sr (sm rfl (s1 (bi (v := .d (eB true)) rfl rfl (fun _ _ => nil_neq un108)) (sn (cT rfl (SC.region (sm rfl (s1 (nkr rfl) (s1 (far (k := 1) rfl fo160_1 ts4 rfl) (s0 (sto (b := .d (eB true)) rfl rfl (sB (d' := .agg [.slc 1 1 0 p0.length none, .d (eB true)]) ts4 rfl rfl rfl rfl rfl rfl rfl)) ?_)))))))))
    exact SO.nil ((wq rfl))
   ·intro _ h0
    have q := si h0; subst q
    exact sr (s1 (asg (v := .d (eS ([] : List UInt8))) rfl) (sn (SC.ret (finR (Wk.refl _) (lresT rfl lresN) rfl))))
  ·obtain ⟨r45, hq44, h0⟩ := ob h0; obtain ⟨⟨r47, r48, r49, r50⟩, hq46, h0⟩ := ob h0; obtain ⟨hg51, h0⟩ := gd h0; obtain ⟨hg52, h0⟩ := gd h0; have q := si h0; subst q
   refine sk (sr (sm rfl (sm rfl (cq [0, 1] [] (pack_In_long_1_ok p0 p1 _ hq44) wf rfl rfl rfl cb97 rfl rfl rfl rfl rfl rfl rfl rfl (s1 (bi rfl rfl q_i64_add) (cq [0, 1] [] (pack_In_take_ok (w64 ((2 : Int) + r45)) p0 p1 _ hq46) wf rfl rfl rfl cb96 rfl rfl rfl rfl rfl rfl rfl rfl (s1 (slo rfl rfl rfl rfl (sl_slc_lo un72 ts5 hg51)) (s1 (cvo (v := .d (eS (List.take (r47 - (2 : Int).toNat) (List.drop (0 + (2 : Int).toNat) p0)))) rfl (cv_bytes_str un72 un9 un5 (el_slc (xs := p0) rfl hg52) (fun _ hh => by cases hh))) (sa rfl ?_)))))))))
   exact sn (SC.ret (finR (Wk.refl _) (lresT rfl lresN) rfl))
noncomputable def pack_In_Flag_1 (p0 : List UInt8) (p1 : Nat) (p2 : Nat) (p3 : Bool) : Option (Bool × Nat × Nat × Bool) :=
 Option.bind (α := Bool)
 (bif (decide ((p2 : Int) > (0 : Int))) then
 Option.bind (getS p0 p1 p2 (0 : Int)) fun v28 =>
 some (decide ((1 : UInt8) < v28))
 else
 some false)
 fun y26 =>
 bif y26 then
 Option.bind (α := Unit)
 (some ())
 fun _ =>
 some (false, p1, p2, true)
 else
 Option.bind (pack_In_number_1 (1 : Int) p0 p1 p2 p3) fun (r31, r32, r33, r34) =>
 some ((r31 == (1 : UInt64)), r32, r33, r34)
theorem pack_In_Flag_1_ok (p0 : List UInt8) (p1 : Nat) (p2 : Nat) (p3 : Bool) (r : Bool × Nat × Nat × Bool) (h0 : pack_In_Flag_1 p0 p1 p2 p3 = some r) : CallAt Tryd.prog 79 [.ref 0 0 0] [.box (.agg [.slc 1 1 p1 p2 none, .d (eB p3)]), .row 1 (List.map eU8 p0) true] (.d (eB r.1)) [.box (.agg [.slc 1 1 r.2.1 r.2.2.1 none, .d (eB r.2.2.2)]), .row 1 (List.map eU8 p0) true] := by
 unfold pack_In_Flag_1 at h0
 refine fn0 [0] Tryd.func79 rfl rfl rfl rfl rfl ?_
 refine sr (sa rfl (sn (sq (SC.seqP h0 (fun y => ⟨mk 30 [(0, .ref 0 0 0), (21, .d (eB y))], [.box (.agg [.slc 1 1 p1 p2 none, .d (eB p3)]), .row 1 (List.map eU8 p0) true]⟩) ?_ ?_))))
 ·intro u1_27 h1
  refine SC.region (sm rfl (s1 (bi (v := .d (eB false)) rfl rfl (fun _ _ => nil_eql un108)) (sm rfl (gw rfl (mv rfl) (gw rfl (nkr rfl) (gw rfl (far (k := 0) rfl fo160_0 ts72 rfl) (gw rfl (lod rfl (ld_box ts72 ta72 rfl rfl)) (gw rfl (len rfl rfl rfl (len_slc un72)) (gw rfl (bi rfl rfl q_i64_gtr) ?_)))))))))
  refine gw rfl (mv rfl) (sp h1 (fun h1 => ?_) (fun h1 => ?_))
  ·obtain ⟨v28, hv28, h1⟩ := ob h1; have q := si h1; subst q
   refine gw rfl (mv rfl) (gw rfl (nkr rfl) (gw rfl (far (k := 0) rfl fo160_0 ts72 rfl) (gw rfl (lod rfl (ld_box ts72 ta72 rfl rfl)) (gw rfl (ias rfl rfl un72 ts5 (getS_some hv28).1) (gw rfl (lod rfl (ld_row ts5 ta5 rfl (map_get (getS_some hv28).2) rfl)) (gw rfl (bi rfl rfl (q_u8_gtr (b := (1 : UInt8)))) (gw rfl (pkt rfl rfl) (s1 (pkf rfl rfl) (SO.nil ?_)))))))))
   exact (wq rfl)
  ·have q := si h1; subst q
   refine kw rfl (kw rfl (kw rfl (kw rfl (kw rfl (kw rfl (kw rfl (gw rfl (pkf rfl rfl) (s1 (pkf rfl rfl) (SO.nil ?_)))))))))
   exact (wq rfl)
 ·rintro y26 h0
  refine cB h0 rfl (fun h0 => ?_) (fun h0 => ?_)
  ·refine SC.seqP h0 (fun y => ⟨mk 30 [], [.box (.agg [.slc 1 1 p1 p2 none, .d (eB true)]), .row 1 (List.map eU8 p0) true]⟩) ?_ ?_
   ·intro u1_29 h1
    have q := si h1; subst q
    refine sr (sm rfl (s1 (bi (v := .d (eB true)) rfl rfl (fun _ _ => nil_neq un108)) (sn (cT rfl (SC.region (sm rfl (s1 (nkr rfl) (s1 (far (k := 1) rfl fo160_1 ts4 rfl) (s0 (sto (b := .d (eB true)) rfl rfl (sB (d' := .agg [.slc 1 1 p1 p2 none, .d (eB true)]) ts4 rfl rfl rfl rfl rfl rfl rfl)) ?_)))))))))
    exact SO.nil ((wq rfl))
   ·intro _ h0
    have q := si h0; subst q
    exact sr (sa rfl (sn (SC.ret (finR (Wk.refl _) (lresT rfl lresN) rfl))))
  ·obtain ⟨⟨r31, r32, r33, r34⟩, hq30, h0⟩ := ob h0; have q := si h0; subst q
   exact sk (sr (sm rfl (cq [0, 1] [] (pack_In_number_1_ok (1 : Int) p0 p1 p2 p3 _ hq30) wf rfl rfl rfl cb73 rfl rfl rfl rfl rfl rfl rfl rfl (s1 (bi rfl rfl (q_u64_eql (b := (1 : UInt64)))) (sa rfl (sn (SC.ret (finR (Wk.refl _) (lresT rfl lresN) rfl))))))))
noncomputable def pack_In_U64 (p0 : List UInt8) (p1 : Nat) (p2 : Nat) (p3 : Bool) : Option (UInt64 × Nat × Nat × Bool) :=
 Option.bind (pack_In_number_1 (8 : Int) p0 p1 p2 p3) fun (r16, r17, r18, r19) =>
 some (r16, r17, r18, r19)
theorem pack_In_U64_ok (p0 : List UInt8) (p1 : Nat) (p2 : Nat) (p3 : Bool) (r : UInt64 × Nat × Nat × Bool) (h0 : pack_In_U64 p0 p1 p2 p3 = some r) : CallAt Tryd.prog 80 [.ref 0 0 0] [.box (.agg [.slc 1 1 p1 p2 none, .d (eB p3)]), .row 1 (List.map eU8 p0) true] (.d (eU64 r.1)) [.box (.agg [.slc 1 1 r.2.1 r.2.2.1 none, .d (eB r.2.2.2)]), .row 1 (List.map eU8 p0) true] := by
 unfold pack_In_U64 at h0
 refine fn0 [0] Tryd.func80 rfl rfl rfl rfl rfl ?_
 obtain ⟨⟨r16, r17, r18, r19⟩, hq15, h0⟩ := ob h0; have q := si h0; subst q
 exact sr (s1 (asg (v := .d (eU64 (0 : UInt64))) rfl) (sn (sr (sm rfl (cq [0, 1] [] (pack_In_number_1_ok (8 : Int) p0 p1 p2 p3 _ hq15) wf rfl rfl rfl cb73 rfl rfl rfl rfl rfl rfl rfl rfl (sa rfl (sn (SC.ret (finR (Wk.refl _) (lresT rfl lresN) rfl)))))))))
noncomputable def pack_In_long (p0 : List UInt8) (p1 : Nat) (p2 : Nat) (p3 : Bool) : Option Int :=
 Option.bind (getS p0 p1 p2 (0 : Int)) fun v6 =>
 Option.bind (getS p0 p1 p2 (1 : Int)) fun v7 =>
 some (orI (w64 ((v6.toNat : Int) * 2 ^ min ((8 : UInt64).toNat : Int).toNat 64)) (v7.toNat : Int))
theorem pack_In_long_ok (p0 : List UInt8) (p1 : Nat) (p2 : Nat) (p3 : Bool) (r : Int) (h0 : pack_In_long p0 p1 p2 p3 = some r) : CallAt Tryd.prog 97 [.ref 0 0 0] [.box (.agg [.slc 1 1 p1 p2 none, .d (eB p3)]), .row 1 (List.map eU8 p0) true] (.d (eI r)) [.box (.agg [.slc 1 1 p1 p2 none, .d (eB p3)]), .row 1 (List.map eU8 p0) true] := by
 unfold pack_In_long at h0
 refine fn0 [0] Tryd.func97 rfl rfl rfl rfl rfl ?_
 obtain ⟨v6, hv6, h0⟩ := ob h0; obtain ⟨v7, hv7, h0⟩ := ob h0; have q := si h0; subst q
 refine sr (sa rfl (sn (sd (by kernel_rfl) (t1 ([], false) (mv rfl) rfl (t1 ([], false) (nkr rfl) rfl (t1 ([], false) (far (k := 0) rfl fo160_0 ts72 rfl) rfl (t1 ([0], false) (lod rfl (ld_box ts72 ta72 rfl rfl)) rfl (t1 ([], false) (ias rfl rfl un72 ts5 (getS_some hv6).1) rfl (t1 ([1], false) (lod rfl (ld_row ts5 ta5 rfl (map_get (getS_some hv6).2) rfl)) rfl ?_)))))))))
 refine t1 ([], false) (cvo rfl (cv_u8_i64 un5 un3 v6)) rfl (t1 ([], false) (bi (v := .d (eI (w64 ((v6.toNat : Int) * 2 ^ min ((8 : UInt64).toNat : Int).toNat 64)))) rfl rfl (fun X Y => b_i64_shl _ X Y (v6.toNat : Int) _ (by decide))) rfl (t1 ([], false) (mv rfl) rfl (t1 ([], false) (nkr rfl) rfl (t1 ([], false) (far (k := 0) rfl fo160_0 ts72 rfl) rfl (t1 ([0], false) (lod rfl (ld_box ts72 ta72 rfl rfl)) rfl (t1 ([], false) (ias rfl rfl un72 ts5 (getS_some hv7).1) rfl (t1 ([1], false) (lod rfl (ld_row ts5 ta5 rfl (map_get (getS_some hv7).2) rfl)) rfl (t1 ([], false) (cvo rfl (cv_u8_i64 un5 un3 v7)) rfl (t1 ([], false) (bi rfl rfl q_i64_or) rfl ?_)))))))))
 exact t1 ([], false) (asg rfl) rfl (tn (by decide +kernel) (SC.ret (finR (Wk.refl _) (lresT rfl lresN) rfl)))
noncomputable def pack_In_Text (p0 : List UInt8) (p1 : Nat) (p2 : Nat) (p3 : Bool) : Option ((List UInt8) × Nat × Nat × Bool) :=
 Option.bind (α := Bool)
 (bif p3 then
 some true
 else
 bif (decide ((p2 : Int) < (2 : Int))) then
 some true
 else
 Option.bind (pack_In_long p0 p1 p2 p3) fun r44 =>
 some (decide ((p2 : Int) < (w64 ((2 : Int) + r44)))))
 fun y41 =>
 bif y41 then
 Option.bind (α := Unit)
 (some ())
 fun _ =>
 some (([] : List UInt8), p1, p2, true)
 else
 Option.bind (pack_In_long p0 p1 p2 p3) fun r47 =>
 Option.bind (pack_In_take_1 (w64 ((2 : Int) + r47)) p0 p1 p2 p3) fun (r49, r50, r51, r52, r53) =>
 bif decide (0 ≤ (2 : Int) ∧ (2 : Int) ≤ (r50 : Int)) then
 bif decide ((r49 + (2 : Int).toNat) + (r50 - (2 : Int).toNat) ≤ p0.length) then
 some ((List.take (r50 - (2 : Int).toNat) (List.drop (r49 + (2 : Int).toNat) p0)), r51, r52, r53)
 else none
 else none
theorem pack_In_Text_ok (p0 : List UInt8) (p1 : Nat) (p2 : Nat) (p3 : Bool) (r : (List UInt8) × Nat × Nat × Bool) (h0 : pack_In_Text p0 p1 p2 p3 = some r) : CallAt Tryd.prog 78 [.ref 0 0 0] [.box (.agg [.slc 1 1 p1 p2 none, .d (eB p3)]), .row 1 (List.map eU8 p0) true] (.d (eS r.1)) [.box (.agg [.slc 1 1 r.2.1 r.2.2.1 none, .d (eB r.2.2.2)]), .row 1 (List.map eU8 p0) true] := by
 unfold pack_In_Text at h0
 refine fn0 [0] Tryd.func78 rfl rfl rfl rfl rfl ?_
 refine sr (s1 (asg (v := .d (eS ([] : List UInt8))) rfl) (sn (sq (SC.seqP h0 (fun y => ⟨mk 42 [(0, .ref 0 0 0), (29, .d (eB y))], [.box (.agg [.slc 1 1 p1 p2 none, .d (eB p3)]), .row 1 (List.map eU8 p0) true]⟩) ?_ ?_))))
 ·intro u1_42 h1
  refine SC.draws (by kernel_rfl) (t1 ([], false) (mv rfl) rfl (t1 ([], false) (bi (v := .d (eB false)) rfl rfl (fun _ _ => nil_eql un108)) rfl (t1 ([], false) (mv rfl) rfl (u1 ([], false) (ww rfl) (mv rfl) rfl (u1 ([], false) (ww rfl) (nkr rfl) rfl (u1 ([], false) (ww rfl) (far (k := 1) rfl fo160_1 ts4 rfl) rfl (u1 ([0], false) (ww rfl) (lod rfl (ld_box ts4 ta4 rfl rfl)) rfl (t1 ([], false) (pkf rfl rfl) rfl (t1 ([], false) (mv rfl) rfl ?_)))))))))
  refine tp h1 (fun h1 => ?_) (fun h1 => ?_)
  ·have q := si h1; subst q
   refine jw rfl (jw rfl (jw rfl (jw rfl (jw rfl (jw rfl (t1 ([], false) (pkt rfl rfl) rfl (t1 ([], false) (mv rfl) rfl (jw rfl (jw rfl ?_)))))))))
   refine jw rfl (jw rfl (jw rfl (jw rfl (jw rfl (jw rfl (jw rfl (t1 ([], false) (pkt rfl rfl) rfl (ST.nil (And.intro (by decide +kernel) ?_)))))))))
   exact (wq rfl)
  ·refine u1 ([], false) (ww rfl) (mv rfl) rfl (u1 ([], false) (ww rfl) (nkr rfl) rfl (u1 ([], false) (ww rfl) (far (k := 0) rfl fo160_0 ts72 rfl) rfl (u1 ([0], false) (ww rfl) (lod rfl (ld_box ts72 ta72 rfl rfl)) rfl (u1 ([], false) (ww rfl) (len rfl rfl rfl (len_slc un72)) rfl (u1 ([], false) (ww rfl) (bi rfl rfl q_i64_lss) rfl (t1 ([], false) (pkf rfl rfl) rfl (t1 ([], false) (mv rfl) rfl (tp h1 (fun h1 => ?_) (fun h1 => ?_)))))))))
   ·have q := si h1; subst q
    refine jw rfl (jw rfl (jw rfl (jw rfl (jw rfl (jw rfl (jw rfl (jw rfl (jw rfl (t1 ([], false) (pkt rfl rfl) rfl ?_)))))))))
    refine ST.nil (And.intro (by decide +kernel) ?_)
    exact (wq rfl)
   ·obtain ⟨r44, hq43, h1⟩ := ob h1; have q := si h1; subst q
    refine u1 ([], false) (ww rfl) (mv rfl) rfl (u1 ([], false) (ww rfl) (nkr rfl) rfl (u1 ([], false) (ww rfl) (far (k := 0) rfl fo160_0 ts72 rfl) rfl (u1 ([0], false) (ww rfl) (lod rfl (ld_box ts72 ta72 rfl rfl)) rfl (u1 ([], false) (ww rfl) (len rfl rfl rfl (len_slc un72)) rfl (u1 ([], false) (ww rfl) (mv rfl) rfl (tqr [0, 1] [0, 1] (pack_In_long_ok p0 p1 p2 p3 _ hq43) (ww rfl) rfl rfl rfl cb97 rfl rfl rfl rfl rfl rfl rfl rfl (u1 ([], false) (ww rfl) (bi rfl rfl q_i64_add) rfl (u1 ([], false) (ww rfl) (bi rfl rfl q_i64_lss) rfl (t1 ([], false) (pkf rfl rfl) rfl ?_)))))))))
    refine ST.nil (And.intro (by decide +kernel) ?_)
    exact (wq rfl)
 ·rintro y41 h0
  refine cB h0 rfl (fun h0 => ?_) (fun h0 => ?_)
  ·refine SC.seqP h0 (fun y => ⟨mk 42 [], [.box (.agg [.slc 1 1 p1 p2 none, .d (eB true)]), .row 1 (List.map eU8 p0) true]⟩) ?_ ?_
   ·intro u1_45 h1
    have q := si h1; subst q
    refine sr (sm rfl (s1 (bi (v := .d (eB true)) rfl rfl (fun _ _ => nil_neq un108)) (sn (cT rfl (SC.region (sm rfl (s1 (nkr rfl) (s1 (far (k := 1) rfl fo160_1 ts4 rfl) (s0 (sto (b := .d (eB true)) rfl rfl (sB (d' := .agg [.slc 1 1 p1 p2 none, .d (eB true)]) ts4 rfl rfl rfl rfl rfl rfl rfl)) ?_)))))))))
    exact SO.nil ((wq rfl))
   ·intro _ h0
    have q := si h0; subst q
    exact sr (s1 (asg (v := .d (eS ([] : List UInt8))) rfl) (sn (SC.ret (finR (Wk.refl _) (lresT rfl lresN) rfl))))
  ·obtain ⟨r47, hq46, h0⟩ := ob h0; obtain ⟨⟨r49, r50, r51, r52, r53⟩, hq48, h0⟩ := ob h0; obtain ⟨hg54, h0⟩ := gd h0; obtain ⟨hg55, h0⟩ := gd h0; have q := si h0; subst q
   refine sk (sr (sm rfl (sm rfl (cq [0, 1] [] (pack_In_long_ok p0 p1 p2 p3 _ hq46) wf rfl rfl rfl cb97 rfl rfl rfl rfl rfl rfl rfl rfl (s1 (bi rfl rfl q_i64_add) (cq [0, 1] [] (pack_In_take_1_ok (w64 ((2 : Int) + r47)) p0 p1 p2 p3 _ hq48) wf rfl rfl rfl cb96 rfl rfl rfl rfl rfl rfl rfl rfl (s1 (slo rfl rfl rfl rfl (sl_slc_lo un72 ts5 hg54)) (s1 (cvo (v := .d (eS (List.take (r50 - (2 : Int).toNat) (List.drop (r49 + (2 : Int).toNat) p0)))) rfl (cv_bytes_str un72 un9 un5 (el_slc (xs := p0) rfl hg55) (fun _ hh => by cases hh))) (sa rfl ?_)))))))))
   exact sn (SC.ret (finR (Wk.refl _) (lresT rfl lresN) rfl))
noncomputable def catalog_taker_column (p0 : List UInt8) (p1 : Bool) : Option (Nat × Nat × Bool × ApiColumn) :=
 Option.bind (pack_In_Text_1 p0 p1) fun (r76, r77, r78, r79) =>
 Option.bind (catalog_taker_place_1 p0 r77 r78 r79) fun (r81, r82, r83, r84) =>
 Option.bind (catalog_taker_place_1 p0 r82 r83 r84) fun (r86, r87, r88, r89) =>
 Option.bind (pack_In_Flag_1 p0 r87 r88 r89) fun (r91, r92, r93, r94) =>
 Option.bind (catalog_taker_place_1 p0 r92 r93 r94) fun (r96, r97, r98, r99) =>
 Option.bind (pack_In_U64 p0 r97 r98 r99) fun (r101, r102, r103, r104) =>
 Option.bind (pack_In_Text p0 r102 r103 r104) fun (r106, r107, r108, r109) =>
 some (r107, r108, r109, (ApiColumn.mk r76 r81 r86 r91 (ApiValue.mk r96 r101 r106)))
theorem catalog_taker_column_ok (p0 : List UInt8) (p1 : Bool) (r : Nat × Nat × Bool × ApiColumn) (h0 : catalog_taker_column p0 p1 = some r) : CallAt Tryd.prog 47 [.agg [.ref 0 0 0]] [.box (.agg [.slc 1 1 0 p0.length none, .d (eB p1)]), .row 1 (List.map eU8 p0) true] (.d (eApiColumn r.2.2.2)) [.box (.agg [.slc 1 1 r.1 r.2.1 none, .d (eB r.2.2.1)]), .row 1 (List.map eU8 p0) true, .box (.d (eApiColumn r.2.2.2))] := by
 unfold catalog_taker_column at h0
 refine fn0 [0] Tryd.func47 rfl rfl rfl rfl rfl ?_
 obtain ⟨⟨r76, r77, r78, r79⟩, hq75, h0⟩ := ob h0
 obtain ⟨⟨r81, r82, r83, r84⟩, hq80, h0⟩ := ob h0
 obtain ⟨⟨r86, r87, r88, r89⟩, hq85, h0⟩ := ob h0
 obtain ⟨⟨r91, r92, r93, r94⟩, hq90, h0⟩ := ob h0
 obtain ⟨⟨r96, r97, r98, r99⟩, hq95, h0⟩ := ob h0
 obtain ⟨⟨r101, r102, r103, r104⟩, hq100, h0⟩ := ob h0
 obtain ⟨⟨r106, r107, r108, r109⟩, hq105, h0⟩ := ob h0
 have q := si h0; subst q
 refine sr (s1 (bxo (k := 2) rfl rfl rfl) (s1 (alo (k := 3) zo62 rfl) (sn (sd (by kernel_rfl) (t1 ([], false) (far (k := 0) rfl fo110_0 ts108 rfl) rfl (t1 ([2], false) (lod rfl (ld_box ts108 ta108 rfl rfl)) rfl (tq [0, 1] [] ([0, 1], true) (pack_In_Text_1_ok p0 p1 _ hq75) wf rfl rfl rfl cb78 rfl rfl rfl rfl rfl rfl rfl rfl rfl (t1 ([2], false) (lod (v := .agg [.ref 0 0 0]) rfl (ld_box ts110 ta110 rfl rfl)) rfl (tq [0, 1] [] ([0, 1], true) (catalog_taker_place_1_ok p0 r77 r78 r79 _ hq80) wf rfl rfl rfl cb44 rfl rfl rfl rfl rfl rfl rfl rfl rfl ?_)))))))))
 refine t1 ([2], false) (lod (v := .agg [.ref 0 0 0]) rfl (ld_box ts110 ta110 rfl rfl)) rfl (tq [0, 1] [] ([0, 1], true) (catalog_taker_place_1_ok p0 r82 r83 r84 _ hq85) wf rfl rfl rfl cb44 rfl rfl rfl rfl rfl rfl rfl rfl rfl (t1 ([], false) (far (k := 0) rfl fo110_0 ts108 rfl) rfl (t1 ([2], false) (lod rfl (ld_box ts108 ta108 rfl rfl)) rfl (tq [0, 1] [] ([0, 1], true) (pack_In_Flag_1_ok p0 r87 r88 r89 _ hq90) wf rfl rfl rfl cb79 rfl rfl rfl rfl rfl rfl rfl rfl rfl (t1 ([], false) (bld rfl (bd62_0_1_2_3 r76 r81 r86 r91)) rfl (t1 ([4], true) (alo (k := 4) zo62 rfl) rfl (t0 ([4], true) (sto rfl rfl (sB (d' := .d (eApiColumn (ApiColumn.mk r76 r81 r86 r91 (ApiValue.mk (0 : Int) (0 : UInt64) ([] : List UInt8))))) ts62 rfl rfl rfl rfl rfl rfl rfl)) rfl (tn (by decide +kernel) (sd (by kernel_rfl) ?_)))))))))
 refine t1 ([2], false) (lod (v := .agg [.ref 0 0 0]) rfl (ld_box ts110 ta110 rfl rfl)) rfl (tq [0, 1] [] ([0, 1], true) (catalog_taker_place_1_ok p0 r92 r93 r94 _ hq95) wf rfl rfl rfl cb44 rfl rfl rfl rfl rfl rfl rfl rfl rfl (t1 ([], false) (far (k := 0) rfl fo110_0 ts108 rfl) rfl (t1 ([2], false) (lod rfl (ld_box ts108 ta108 rfl rfl)) rfl (tq [0, 1] [] ([0, 1], true) (pack_In_U64_ok p0 r97 r98 r99 _ hq100) wf rfl rfl rfl cb80 rfl rfl rfl rfl rfl rfl rfl rfl rfl (t1 ([], false) (far (k := 0) rfl fo110_0 ts108 rfl) rfl (t1 ([2], false) (lod rfl (ld_box ts108 ta108 rfl rfl)) rfl (tq [0, 1] [] ([0, 1], true) (pack_In_Text_ok p0 r102 r103 r104 _ hq105) wf rfl rfl rfl cb78 rfl rfl rfl rfl rfl rfl rfl rfl rfl (t1 ([], false) (bld rfl (bd60_0_1_2 r96 r101 r106)) rfl (t1 ([], false) (far (k := 4) rfl fo62_4 ts60 rfl) rfl ?_)))))))))
 exact t0 ([4], true) (sto rfl rfl (sB (d' := .d (eApiColumn (ApiColumn.mk r76 r81 r86 r91 (ApiValue.mk r96 r101 r106)))) ts60 rfl rfl rfl rfl rfl rfl rfl)) rfl (tn (by decide +kernel) (sr (s1 (lod (v := .d (eApiColumn (ApiColumn.mk r76 r81 r86 r91 (ApiValue.mk r96 r101 r106)))) rfl (ld_box ts62 ta62 rfl rfl)) (s0 (sto rfl rfl (sB (d' := .d (eApiColumn (ApiColumn.mk r76 r81 r86 r91 (ApiValue.mk r96 r101 r106)))) ts62 rfl rfl rfl rfl rfl rfl rfl)) (sn (SC.ret (finR (wc (e' := [(2, .ref 2 0 0)]) [0, 1, 3] [0, 1, 3] (by kernel_rfl) rfl (by kernel_rfl)) (lresC rfl (ld_box ts62 ta62 rfl rfl) lresN) rfl)))))))
noncomputable def catalog_taker_part (p0 : List UInt8) (p1 : Nat) (p2 : Nat) (p3 : Bool) : Option (Nat × Nat × Bool × ApiPart) :=
 Option.bind (catalog_taker_place_1 p0 p1 p2 p3) fun (r26, r27, r28, r29) =>
 Option.bind (pack_In_Flag_1 p0 r27 r28 r29) fun (r31, r32, r33, r34) =>
 some (r32, r33, r34, (ApiPart.mk r26 r31))
theorem catalog_taker_part_ok (p0 : List UInt8) (p1 : Nat) (p2 : Nat) (p3 : Bool) (r : Nat × Nat × Bool × ApiPart) (h0 : catalog_taker_part p0 p1 p2 p3 = some r) : CallAt Tryd.prog 82 [.agg [.ref 0 0 0]] [.box (.agg [.slc 1 1 p1 p2 none, .d (eB p3)]), .row 1 (List.map eU8 p0) true] (.d (eApiPart r.2.2.2)) [.box (.agg [.slc 1 1 r.1 r.2.1 none, .d (eB r.2.2.1)]), .row 1 (List.map eU8 p0) true, .box (.d (eApiPart r.2.2.2))] := by
 unfold catalog_taker_part at h0
 refine fn0 [0] Tryd.func82 rfl rfl rfl rfl rfl ?_
 obtain ⟨⟨r26, r27, r28, r29⟩, hq25, h0⟩ := ob h0; obtain ⟨⟨r31, r32, r33, r34⟩, hq30, h0⟩ := ob h0; have q := si h0; subst q
 refine sr (s1 (bxo (k := 2) rfl rfl rfl) (s1 (alo (k := 3) zo92 rfl) (sn (sr (s1 (lod (v := .agg [.ref 0 0 0]) rfl (ld_box ts110 ta110 rfl rfl)) (cq [0, 1] [] (catalog_taker_place_1_ok p0 p1 p2 p3 _ hq25) wf rfl rfl rfl cb44 rfl rfl rfl rfl rfl rfl rfl rfl (s1 (bld rfl (bd92_0 r26)) (s1 (alo (k := 4) zo92 rfl) (s0 (sto rfl rfl (sB (d' := .d (eApiPart (ApiPart.mk r26 false))) ts92 rfl rfl rfl rfl rfl rfl rfl)) ?_)))))))))
 refine sn (sr (s1 (far (k := 0) rfl fo110_0 ts108 rfl) (s1 (lod rfl (ld_box ts108 ta108 rfl rfl)) (cq [0, 1] [] (pack_In_Flag_1_ok p0 r27 r28 r29 _ hq30) wf rfl rfl rfl cb79 rfl rfl rfl rfl rfl rfl rfl rfl (s1 (far (k := 1) rfl fo92_1 ts4 rfl) (s0 (sto rfl rfl (sB (d' := .d (eApiPart (ApiPart.mk r26 r31))) ts4 rfl rfl rfl rfl rfl rfl rfl)) (sn (sr (s1 (lod (v := .d (eApiPart (ApiPart.mk r26 r31))) rfl (ld_box ts92 ta92 rfl rfl)) ?_)))))))))
 exact s0 (sto rfl rfl (sB (d' := .d (eApiPart (ApiPart.mk r26 r31))) ts92 rfl rfl rfl rfl rfl rfl rfl)) (sn (SC.ret (finR (wc (e' := [(2, .ref 2 0 0)]) [0, 1, 3] [0, 1, 3] (by kernel_rfl) rfl (by kernel_rfl)) (lresC rfl (ld_box ts92 ta92 rfl rfl) lresN) rfl)))
noncomputable def catalog_list_api_Part (p0 : Int) (p1 : List UInt8) (p2 : Nat) (p3 : Nat) (p4 : Bool) : Option ((List ApiPart) × Nat × Nat × Bool) :=
 Option.bind (α := (List ApiPart) × Nat × Nat × Bool)
 (Option.bind (α := (List ApiPart) × Nat × Nat × Bool)
 (loop (Y := (List ApiPart) × Int × Nat × Nat × Bool) (W := (List ApiPart) × Nat × Nat × Bool) (fun (y245, y246, y247, y248, y249) =>
 Option.bind (α := Bool)
 (bif (decide (y246 < p0)) then
 Option.bind (pack_In_Bad p1 y247 y248 y249) fun _ =>
 some (!y249)
 else
 some false)
 fun y268 =>
 bif y268 then
 Option.bind (catalog_taker_part p1 y247 y248 y249) fun (r272, r273, r274, r275) =>
 bif decide ((y245.length + [r275].length) * 16 ≤ room) then
 some (Sum.inl ((y245 ++ [r275]), (w64 (y246 + (1 : Int))), r272, r273, r274))
 else none
 else
 some (Sum.inr (y245, y247, y248, y249))) (([] : List ApiPart), (0 : Int), p2, p3, p4))
 (fun e => some e))
 fun (y230, y231, y232, y233) =>
 some (y230, y231, y232, y233)
theorem catalog_list_api_Part_ok (p0 : Int) (p1 : List UInt8) (p2 : Nat) (p3 : Nat) (p4 : Bool) (r : (List ApiPart) × Nat × Nat × Bool) (h0 : catalog_list_api_Part p0 p1 p2 p3 p4 = some r) : CallAt Tryd.prog 81 [.agg [.ref 0 0 0], .d (eI p0), .fn (.func 82) [.agg [.ref 0 0 0]] []] [.box (.agg [.slc 1 1 p2 p3 none, .d (eB p4)]), .row 1 (List.map eU8 p1) true] (.d ((eL 2 eApiPart) r.1)) [.box (.agg [.slc 1 1 r.2.1 r.2.2.1 none, .d (eB r.2.2.2)]), .row 1 (List.map eU8 p1) true] := by
 unfold catalog_list_api_Part at h0
 refine fn0 [0, 1, 2] Tryd.func81 rfl rfl rfl rfl rfl ?_
 refine sr (s1 (bxo (k := 2) rfl rfl rfl) (s1 (asg (v := .d .nils) rfl) (sn (sr (s1 (asg (v := .d .nils) rfl) (sn (SC.seqP h0 (fun y => ⟨mk 26 [(7, .slc 2 2 0 y.1.length none)], [.box (.agg [.slc 1 1 y.2.1 y.2.2.1 none, .d (eB y.2.2.2)]), .row 1 (List.map eU8 p1) true, .row 2 (List.map eApiPart y.1) true]⟩) ?_ ?_)))))))
 ·intro u1_234 h1
  obtain ⟨u2_266, h2, h1⟩ := ob h1
  refine sr (sa rfl (sn (SC.blk (SC.loopB h2 (fun y => ⟨mk 26 [(1, .d (eI p0)), (2, .fn (.func 82) [.agg [.ref 0 0 0]] []), (3, .ref 2 0 0), (7, .slc 3 2 0 y.1.length none), (8, .d (eI y.2.1))], [.box (.agg [.slc 1 1 y.2.2.1 y.2.2.2.1 none, .d (eB y.2.2.2.2)]), .row 1 (List.map eU8 p1) true, .box (.agg [.ref 0 0 0]), .row 2 (List.map eApiPart y.1) true]⟩) (Wk.trans (Wk.pushE (σ' := [.box (.agg [.slc 1 1 p2 p3 none, .d (eB p4)]), .row 1 (List.map eU8 p1) true, .box (.agg [.ref 0 0 0]), .row 2 (List.map eApiPart ([] : List ApiPart)) true]) (.row 2 [] true) (fun _ hh => by cases hh) rfl) (Wk.trans (Wk.env (e' := [(1, .d (eI p0)), (2, .fn (.func 82) [.agg [.ref 0 0 0]] []), (3, .ref 2 0 0), (7, .slc 3 2 0 (([] : List ApiPart).length) none), (8, .d (eI (0 : Int)))]) (EW.cons (AW.refl _) (EW.cons (AW.refl _) (EW.cons (AW.refl _) (EW.cons (AW.slcn _ _ _) (EW.cons (AW.refl _) EW.nil)))))) (wq rfl))) ?_))))
  intro n277
  rintro ⟨y245, y246, y247, y248, y249⟩ w2_265 h3 hv3
  refine sq (SC.seqP h3 (fun y => ⟨mk 26 [(1, .d (eI p0)), (2, .fn (.func 82) [.agg [.ref 0 0 0]] []), (3, .ref 2 0 0), (7, .slc 3 2 0 y245.length none), (8, .d (eI y246)), (17, .d (eB y))], [.box (.agg [.slc 1 1 y247 y248 none, .d (eB y249)]), .row 1 (List.map eU8 p1) true, .box (.agg [.ref 0 0 0]), .row 2 (List.map eApiPart y245) true]⟩) ?_ ?_)
  ·intro u4_269 h4
   refine SC.region (sm rfl (sm rfl (s1 (bi rfl rfl q_i64_lss) (sm rfl (sp h4 (fun h4 => ?_) (fun h4 => ?_))))))
   ·obtain ⟨_, hq270, h4⟩ := ob h4; have q := si h4; subst q
    exact gw rfl (far (k := 0) rfl fo110_0 ts108 rfl) (gw rfl (lod rfl (ld_box ts108 ta108 rfl rfl)) (cq [0, 1] [] (pack_In_Bad_ok p1 y247 y248 y249 _ hq270) (ww rfl) rfl rfl rfl cb76 rfl rfl rfl rfl rfl rfl rfl rfl (gw rfl (nt rfl) (s1 (pkt rfl rfl) (SO.nil ((wq rfl)))))))
   ·have q := si h4; subst q
    exact kw rfl (kw rfl (kw rfl (kw rfl (s1 (pkf rfl rfl) (SO.nil ((wq rfl)))))))
  ·rintro y268 h3
   refine cB h3 rfl (fun h3 => ?_) (fun h3 => ?_)
   ·obtain ⟨⟨r272, r273, r274, r275⟩, hq271, h3⟩ := ob h3; obtain ⟨hg276, h3⟩ := gd h3
    refine sk (sq (SC.blk (SC.region (sm rfl (sm rfl (cq [0, 1] [4] (catalog_taker_part_ok p1 y247 y248 y249 _ hq271) wf rfl rfl rfl cb82 rfl rfl rfl rfl rfl rfl rfl rfl (s1 (bsn (k := 5) (ds := List.map eApiPart [r275]) (off := 0) (l' := [r275].length) rfl un83 ei92 rfl rfl (by rfl) rfl rfl rfl) (s1 (app rfl rfl rfl rfl bc83 (aF (f := eApiPart) (xs := y245) (k := 6) rfl un83 ei92 rfl (el_full (xs := [r275]) rfl) hg276 rfl)) (sa rfl ?_)))))))))
    refine SO.nil ?_
    change SC _ _ _ _ _
    have q := si h3; subst q
    exact SC.region (sm rfl (s1 (bi rfl rfl q_i64_add) (sa rfl (SO.nil (lf (wc [0, 1, 2, 6] [0, 1, 0, 2, 6] (by kernel_rfl) rfl (by kernel_rfl)))))))
   ·have q := si h3; subst q; have q : _ = _ := hv3; subst q; have q := si h1; subst q
    exact SC.exit ((wc [0, 1, 3] [0, 1, 3] (by kernel_rfl) rfl (by kernel_rfl)))
 ·rintro ⟨y230, y231, y232, y233⟩ h0
  have q := si h0; subst q
  exact sr (sm rfl (sa rfl (sn (SC.ret (finR (Wk.trans (Wk.frz (i := 6) (x := .slc 2 2 0 y230.length none) rfl rfl (fF rfl rfl rfl)) (wc (e' := [(6, .d ((eL 2 eApiPart) y230))]) [0, 1] [0, 1] (by kernel_rfl) rfl (by kernel_rfl))) (lresT rfl lresN) rfl)))))
noncomputable def pack_In_U16_2 (p0 : List UInt8) (p1 : Nat) (p2 : Nat) (p3 : Bool) : Option (UInt16 × Nat × Nat × Bool) :=
 Option.bind (pack_In_number_1 (2 : Int) p0 p1 p2 p3) fun (r16, r17, r18, r19) =>
 some ((r16.toUInt16), r17, r18, r19)
theorem pack_In_U16_2_ok (p0 : List UInt8) (p1 : Nat) (p2 : Nat) (p3 : Bool) (r : UInt16 × Nat × Nat × Bool) (h0 : pack_In_U16_2 p0 p1 p2 p3 = some r) : CallAt Tryd.prog 43 [.ref 0 0 0] [.box (.agg [.slc 1 1 p1 p2 none, .d (eB p3)]), .row 1 (List.map eU8 p0) true] (.d (eU16 r.1)) [.box (.agg [.slc 1 1 r.2.1 r.2.2.1 none, .d (eB r.2.2.2)]), .row 1 (List.map eU8 p0) true] := by
 unfold pack_In_U16_2 at h0
 refine fn0 [0] Tryd.func43 rfl rfl rfl rfl rfl ?_
 obtain ⟨⟨r16, r17, r18, r19⟩, hq15, h0⟩ := ob h0; have q := si h0; subst q
 refine sr (s1 (asg (v := .d (eU16 (0 : UInt16))) rfl) (sn (sr (sm rfl (cq [0, 1] [] (pack_In_number_1_ok (2 : Int) p0 p1 p2 p3 _ hq15) wf rfl rfl rfl cb73 rfl rfl rfl rfl rfl rfl rfl rfl (s1 (cvo rfl (cv_u64_u16 un35 un76 r16)) (sa rfl (sn (SC.ret ?_)))))))))
 exact finR (Wk.refl _) (lresT rfl lresN) rfl
noncomputable def catalog_taker_index (p0 : List UInt8) (p1 : Bool) : Option (Nat × Nat × Bool × ApiIndex) :=
 Option.bind (pack_In_Text_1 p0 p1) fun (r76, r77, r78, r79) =>
 Option.bind (catalog_taker_place_1 p0 r77 r78 r79) fun (r81, r82, r83, r84) =>
 Option.bind (catalog_list_api_Part r81 p0 r82 r83 r84) fun (r86, r87, r88, r89) =>
 Option.bind (catalog_taker_places_1 p0 r87 r88 r89) fun (r91, r92, r93, r94) =>
 Option.bind (pack_In_Flag_1 p0 r92 r93 r94) fun (r96, r97, r98, r99) =>
 Option.bind (pack_In_Flag_1 p0 r97 r98 r99) fun (r101, r102, r103, r104) =>
 Option.bind (pack_In_U16_2 p0 r102 r103 r104) fun (r106, r107, r108, r109) =>
 some (r107, r108, r109, (ApiIndex.mk r76 r86 r91 r96 r101 (r106.toNat : Int)))
theorem catalog_taker_index_ok (p0 : List UInt8) (p1 : Bool) (r : Nat × Nat × Bool × ApiIndex) (h0 : catalog_taker_index p0 p1 = some r) : CallAt Tryd.prog 48 [.agg [.ref 0 0 0]] [.box (.agg [.slc 1 1 0 p0.length none, .d (eB p1)]), .row 1 (List.map eU8 p0) true] (.d (eApiIndex r.2.2.2)) [.box (.agg [.slc 1 1 r.1 r.2.1 none, .d (eB r.2.2.1)]), .row 1 (List.map eU8 p0) true, .box (.d (eApiIndex r.2.2.2))] := by
 unfold catalog_taker_index at h0
 refine fn0 [0] Tryd.func48 rfl rfl rfl rfl rfl ?_
 obtain ⟨⟨r76, r77, r78, r79⟩, hq75, h0⟩ := ob h0
 obtain ⟨⟨r81, r82, r83, r84⟩, hq80, h0⟩ := ob h0
 obtain ⟨⟨r86, r87, r88, r89⟩, hq85, h0⟩ := ob h0
 obtain ⟨⟨r91, r92, r93, r94⟩, hq90, h0⟩ := ob h0
 obtain ⟨⟨r96, r97, r98, r99⟩, hq95, h0⟩ := ob h0
 obtain ⟨⟨r101, r102, r103, r104⟩, hq100, h0⟩ := ob h0
 obtain ⟨⟨r106, r107, r108, r109⟩, hq105, h0⟩ := ob h0
 have q := si h0; subst q
 refine sr (s1 (bxo (k := 2) rfl rfl rfl) (s1 (alo (k := 3) zo85 rfl) (sn (sr (s1 (far (k := 0) rfl fo110_0 ts108 rfl) (s1 (lod rfl (ld_box ts108 ta108 rfl rfl)) (cq [0, 1] [] (pack_In_Text_1_ok p0 p1 _ hq75) wf rfl rfl rfl cb78 rfl rfl rfl rfl rfl rfl rfl rfl (s1 (bld rfl (bd85_0 r76)) (s1 (alo (k := 4) zo85 rfl) ?_)))))))))
 refine s0 (sto rfl rfl (sB (d' := .d (.agg [(eS r76), .nils, .nils, (eB false), (eB false), (eI (0 : Int))])) ts85 rfl rfl rfl rfl rfl rfl rfl)) (sn (sd (by kernel_rfl) (t1 ([2], false) (lod (v := .agg [.ref 0 0 0]) rfl (ld_box ts110 ta110 rfl rfl)) rfl (t1 ([2], false) (lod (v := .agg [.ref 0 0 0]) rfl (ld_box ts110 ta110 rfl rfl)) rfl (tq [0, 1] [] ([0, 1], true) (catalog_taker_place_1_ok p0 r77 r78 r79 _ hq80) wf rfl rfl rfl cb44 rfl rfl rfl rfl rfl rfl rfl rfl rfl (t1 ([2], false) (lod (v := .agg [.ref 0 0 0]) rfl (ld_box ts110 ta110 rfl rfl)) rfl (t1 ([], false) (mkf rfl rfl) rfl (tq [0, 1] [] ([0, 1], true) (catalog_list_api_Part_ok r81 p0 r82 r83 r84 _ hq85) wf rfl rfl rfl cb81 rfl rfl rfl rfl rfl rfl rfl rfl rfl (t1 ([], false) (far (k := 1) rfl fo85_1 ts83 rfl) rfl ?_)))))))))
 refine t0 ([4], true) (sto rfl rfl (sB (d' := .d (.agg [(eS r76), ((eL 2 eApiPart) r86), .nils, (eB false), (eB false), (eI (0 : Int))])) ts83 rfl rfl rfl rfl rfl rfl rfl)) rfl (tn (by decide +kernel) (sr (s1 (lod (v := .agg [.ref 0 0 0]) rfl (ld_box ts110 ta110 rfl rfl)) (cq [0, 1] [] (catalog_taker_places_1_ok p0 r87 r88 r89 _ hq90) wf rfl rfl rfl cb45 rfl rfl rfl rfl rfl rfl rfl rfl (s1 (far (k := 2) rfl fo85_2 ts50 rfl) (s0 (sto rfl rfl (sB (d' := .d (eApiIndex (ApiIndex.mk r76 r86 r91 false false (0 : Int)))) ts50 rfl rfl rfl rfl rfl rfl rfl)) (sn (sd (by kernel_rfl) (t1 ([], false) (far (k := 0) rfl fo110_0 ts108 rfl) rfl ?_)))))))))
 refine t1 ([2], false) (lod rfl (ld_box ts108 ta108 rfl rfl)) rfl (tq [0, 1] [] ([0, 1], true) (pack_In_Flag_1_ok p0 r92 r93 r94 _ hq95) wf rfl rfl rfl cb79 rfl rfl rfl rfl rfl rfl rfl rfl rfl (t1 ([], false) (far (k := 0) rfl fo110_0 ts108 rfl) rfl (t1 ([2], false) (lod rfl (ld_box ts108 ta108 rfl rfl)) rfl (tq [0, 1] [] ([0, 1], true) (pack_In_Flag_1_ok p0 r97 r98 r99 _ hq100) wf rfl rfl rfl cb79 rfl rfl rfl rfl rfl rfl rfl rfl rfl (t1 ([], false) (far (k := 0) rfl fo110_0 ts108 rfl) rfl (t1 ([2], false) (lod rfl (ld_box ts108 ta108 rfl rfl)) rfl (tq [0, 1] [] ([0, 1], true) (pack_In_U16_2_ok p0 r102 r103 r104 _ hq105) wf rfl rfl rfl cb43 rfl rfl rfl rfl rfl rfl rfl rfl rfl (t1 ([], false) (cvo rfl (cv_u16_i64 un76 un3 r106)) rfl (t1 ([], false) (far (k := 3) rfl fo85_3 ts4 rfl) rfl ?_)))))))))
 refine t0 ([4], true) (sto rfl rfl (sB (d' := .d (eApiIndex (ApiIndex.mk r76 r86 r91 r96 false (0 : Int)))) ts4 rfl rfl rfl rfl rfl rfl rfl)) rfl (t1 ([], false) (far (k := 4) rfl fo85_4 ts4 rfl) rfl (t0 ([4], true) (sto rfl rfl (sB (d' := .d (eApiIndex (ApiIndex.mk r76 r86 r91 r96 r101 (0 : Int)))) ts4 rfl rfl rfl rfl rfl rfl rfl)) rfl (t1 ([], false) (far (k := 5) rfl fo85_5 ts3 rfl) rfl (t0 ([4], true) (sto rfl rfl (sB (d' := .d (eApiIndex (ApiIndex.mk r76 r86 r91 r96 r101 (r106.toNat : Int)))) ts3 rfl rfl rfl rfl rfl rfl rfl)) rfl (tn (by decide +kernel) (sr (s1 (lod (v := .d (eApiIndex (ApiIndex.mk r76 r86 r91 r96 r101 (r106.toNat : Int)))) rfl (ld_box ts85 ta85 rfl rfl)) (s0 (sto rfl rfl (sB (d' := .d (eApiIndex (ApiIndex.mk r76 r86 r91 r96 r101 (r106.toNat : Int)))) ts85 rfl rfl rfl rfl rfl rfl rfl)) (sn ?_)))))))))
 exact SC.ret (finR (wc (e' := [(2, .ref 2 0 0)]) [0, 1, 3] [0, 1, 3] (by kernel_rfl) rfl (by kernel_rfl)) (lresC rfl (ld_box ts85 ta85 rfl rfl) lresN) rfl)
noncomputable def catalog_table (p0 : List ApiPair) : Option (Bool × (List ApiPair) × (List UInt8) × (List ApiColumn) × (List Int) × (List ApiIndex) × Int) :=
 Option.bind (getI p0 (0 : Int)) fun v454 =>
 Option.bind (cutF v454.Key ([116] : List UInt8)) fun (r456, r457) =>
 bif (!r457) then
 some (false, p0, ([] : List UInt8), ([] : List ApiColumn), ([] : List Int), ([] : List ApiIndex), (0 : Int))
 else
 Option.bind (getI p0 (0 : Int)) fun v458 =>
 Option.bind (catalog_take v458.Key p0) fun r460 =>
 (Sum.elim (fun _ =>
 Option.bind pack_In_U16 fun _ =>
 Option.bind catalog_taker_place fun _ =>
 Option.bind catalog_taker_places fun _ =>
 Option.bind catalog_taker_place fun _ =>
 Option.bind pack_In_Done_1 fun _ =>
 some (false, p0, r456, ([] : List ApiColumn), ([] : List Int), ([] : List ApiIndex), (((0 : UInt64).toUInt16).toNat : Int))) (fun r461 =>
 Option.bind (pack_In_U16_1 r461 false) fun (r468, r469, r470, r471) =>
 Option.bind (catalog_taker_place_1 r461 r469 r470 r471) fun (r473, r474, r475, r476) =>
 Option.bind (catalog_taker_places_1 r461 r474 r475 r476) fun (r478, r479, r480, r481) =>
 Option.bind (catalog_taker_place_1 r461 r479 r480 r481) fun (r483, r484, r485, r486) =>
 Option.bind (pack_In_Done r461 r484 r485 r486) fun r488 =>
 bif (!r488) then
 some (false, (List.drop (1 : Int).toNat p0), r456, ([] : List ApiColumn), r478, ([] : List ApiIndex), (r468.toNat : Int))
 else
 bindE (Y := (List ApiPair) × (List ApiColumn)) (E := Bool × (List ApiPair) × (List UInt8) × (List ApiColumn) × (List Int) × (List ApiIndex) × Int)
 (Option.bind (α := ((List ApiPair) × (List ApiColumn)) ⊕ (Bool × (List ApiPair) × (List UInt8) × (List ApiColumn) × (List Int) × (List ApiIndex) × Int))
 (loop (Y := Int × (List ApiPair) × (List ApiColumn)) (W := ((List ApiPair) × (List ApiColumn)) ⊕ (Bool × (List ApiPair) × (List UInt8) × (List ApiColumn) × (List Int) × (List ApiIndex) × Int)) (fun (y549, y550, y551) =>
 bif (decide (y549 < r473)) then
 Option.bind (catalog_sub r456 (99 : UInt8) y549) fun _ =>
 Option.bind (catalog_take ((([116] : List UInt8) ++ r456) ++ [(0 : UInt8), (99 : UInt8), (u8i y549)]) y550) fun r571 =>
 (Sum.elim (fun _ =>
 some (Sum.inr (Sum.inr (false, y550, r456, y551, r478, ([] : List ApiIndex), (r468.toNat : Int))))) (fun r572 =>
 Option.bind (catalog_taker_column r572 false) fun (r574, r575, r576, r577) =>
 bif decide ((y551.length + [r577].length) * 72 ≤ room) then
 Option.bind (pack_In_Done r572 r574 r575 r576) fun r580 =>
 bif (!r580) then
 some (Sum.inr (Sum.inr (false, (List.drop (1 : Int).toNat y550), r456, (y551 ++ [r577]), r478, ([] : List ApiIndex), (r468.toNat : Int))))
 else
 some (Sum.inl ((w64 (y549 + (1 : Int))), (List.drop (1 : Int).toNat y550), (y551 ++ [r577])))
 else none)) r571
 else
 some (Sum.inr (Sum.inl (y550, y551)))) ((0 : Int), (List.drop (1 : Int).toNat p0), ([] : List ApiColumn)))
 (Sum.elim (fun e => some (Sum.inl e)) (fun e => some (Sum.inr e))))
 (fun (y534, y535) =>
 bindE (Y := (List ApiPair) × (List ApiIndex)) (E := Bool × (List ApiPair) × (List UInt8) × (List ApiColumn) × (List Int) × (List ApiIndex) × Int)
 (Option.bind (α := ((List ApiPair) × (List ApiIndex)) ⊕ (Bool × (List ApiPair) × (List UInt8) × (List ApiColumn) × (List Int) × (List ApiIndex) × Int))
 (loop (Y := Int × (List ApiPair) × (List ApiIndex)) (W := ((List ApiPair) × (List ApiIndex)) ⊕ (Bool × (List ApiPair) × (List UInt8) × (List ApiColumn) × (List Int) × (List ApiIndex) × Int)) (fun (y642, y643, y644) =>
 bif (decide (y642 < r483)) then
 Option.bind (catalog_sub r456 (105 : UInt8) y642) fun _ =>
 Option.bind (catalog_take ((([116] : List UInt8) ++ r456) ++ [(0 : UInt8), (105 : UInt8), (u8i y642)]) y643) fun r664 =>
 (Sum.elim (fun _ =>
 some (Sum.inr (Sum.inr (false, y643, r456, y535, r478, y644, (r468.toNat : Int))))) (fun r665 =>
 Option.bind (catalog_taker_index r665 false) fun (r667, r668, r669, r670) =>
 bif decide ((y644.length + [r670].length) * 80 ≤ room) then
 Option.bind (pack_In_Done r665 r667 r668 r669) fun r673 =>
 bif (!r673) then
 some (Sum.inr (Sum.inr (false, (List.drop (1 : Int).toNat y643), r456, y535, r478, (y644 ++ [r670]), (r468.toNat : Int))))
 else
 some (Sum.inl ((w64 (y642 + (1 : Int))), (List.drop (1 : Int).toNat y643), (y644 ++ [r670])))
 else none)) r664
 else
 some (Sum.inr (Sum.inl (y643, y644)))) ((0 : Int), y534, ([] : List ApiIndex)))
 (Sum.elim (fun e => some (Sum.inl e)) (fun e => some (Sum.inr e))))
 (fun (y627, y628) =>
 Option.bind (catalog_right (ApiTable.mk r456 y535 r478 y628 (r468.toNat : Int))) fun r676 =>
 some (r676, y627, r456, y535, r478, y628, (r468.toNat : Int)))
 (fun e => some e))
 (fun e => some e))) r460
theorem catalog_table_ok (p0 : List ApiPair) (r : Bool × (List ApiPair) × (List UInt8) × (List ApiColumn) × (List Int) × (List ApiIndex) × Int) (h0 : catalog_table p0 = some r) : CallAt Tryd.prog 28 [.ref 0 0 0] [.box (.d ((eL 2 eApiPair) p0))] (.tuple [.agg [.d (eS r.2.2.1), .slc 2 7 0 r.2.2.2.1.length none, .d ((eL 1 eI) r.2.2.2.2.1), .slc 3 6 0 r.2.2.2.2.2.1.length none, .d (eI r.2.2.2.2.2.2)], .d (eB r.1)]) [.box (.d ((eL 2 eApiPair) r.2.1)), .box (.agg [.d (eS r.2.2.1), .slc 2 7 0 r.2.2.2.1.length none, .d ((eL 1 eI) r.2.2.2.2.1), .slc 3 6 0 r.2.2.2.2.2.1.length none, .d (eI r.2.2.2.2.2.2)]), .row 7 (List.map eApiColumn r.2.2.2.1) false, .row 6 (List.map eApiIndex r.2.2.2.2.2.1) false] := by
 unfold catalog_table at h0
 refine fn0 [0] Tryd.func28 rfl rfl rfl rfl rfl ?_
 obtain ⟨v454, hv454, h0⟩ := ob h0; obtain ⟨⟨r456, r457⟩, hq455, h0⟩ := ob h0
 refine sr (s1 (alo (k := 1) zo53 rfl) (sa rfl (sn (sr (sm rfl (s1 (nkr rfl) (s1 (lod rfl (ld_box ts22 ta22 rfl rfl)) (s1 (ial rfl rfl un22 ts25 (getI_some hv454).1 (map_get (getI_some hv454).2) rfl) (s1 (fap rfl fo25_0 ts9 rfl) ?_)))))))))
 refine s1 (lod rfl (ld_rop ts9 ta9 rfl)) (c0 (cut_ok v454.Key ([116] : List UInt8) _ hq455) wf rfl rfl rfl cb41 rfl (fun _ => rfl) (fun _ => rfl) (sm rfl (s1 (ext rfl rfl) (s1 (ext rfl rfl) (sa rfl (sa rfl (sn (sq (sr ?_)))))))))
 refine sm rfl (s1 (nt rfl) (sn (cB h0 rfl (fun h0 => ?_) (fun h0 => ?_))))
 ·have q := si h0; subst q
  exact sr (s1 (bld rfl (bd53_ )) (s0 (sto rfl rfl (sB (d' := .d (.agg [(eS ([] : List UInt8)), .nils, .nils, .nils, (eI (0 : Int))])) ts53 rfl rfl rfl rfl rfl rfl rfl)) (sa rfl (sn (SC.ret (finR (Wk.trans (Wk.pushE (σ' := [.box (.d ((eL 2 eApiPair) p0)), .box (.d (.agg [(eS ([] : List UInt8)), .nils, .nils, .nils, (eI (0 : Int))])), .row 7 (List.map eApiColumn ([] : List ApiColumn)) true]) (.row 7 [] true) (fun _ hh => by cases hh) rfl) (Wk.trans (Wk.boxE (id := 1) (y := .agg [.d (eS ([] : List UInt8)), .slc 2 7 0 (([] : List ApiColumn).length) none, .d .nils, .d .nils, .d (eI (0 : Int))]) (σ' := [.box (.d ((eL 2 eApiPair) p0)), .box (.agg [.d (eS ([] : List UInt8)), .slc 2 7 0 (([] : List ApiColumn).length) none, .d .nils, .d .nils, .d (eI (0 : Int))]), .row 7 (List.map eApiColumn ([] : List ApiColumn)) true]) rfl (AWs.cons (AW.refl _) (AWs.cons (AW.slcn _ _ _) (AWs.cons (AW.refl _) (AWs.cons (AW.refl _) (AWs.cons (AW.refl _) AWs.nil))))) rfl) (Wk.trans (Wk.pushE (σ' := [.box (.d ((eL 2 eApiPair) p0)), .box (.agg [.d (eS ([] : List UInt8)), .slc 2 7 0 (([] : List ApiColumn).length) none, .d .nils, .d .nils, .d (eI (0 : Int))]), .row 7 (List.map eApiColumn ([] : List ApiColumn)) true, .row 6 (List.map eApiIndex ([] : List ApiIndex)) true]) (.row 6 [] true) (fun _ hh => by cases hh) rfl) (Wk.trans (Wk.boxE (id := 1) (y := .agg [.d (eS ([] : List UInt8)), .slc 2 7 0 (([] : List ApiColumn).length) none, .d .nils, .slc 3 6 0 (([] : List ApiIndex).length) none, .d (eI (0 : Int))]) (σ' := [.box (.d ((eL 2 eApiPair) p0)), .box (.agg [.d (eS ([] : List UInt8)), .slc 2 7 0 (([] : List ApiColumn).length) none, .d .nils, .slc 3 6 0 (([] : List ApiIndex).length) none, .d (eI (0 : Int))]), .row 7 (List.map eApiColumn ([] : List ApiColumn)) true, .row 6 (List.map eApiIndex ([] : List ApiIndex)) true]) rfl (AWs.cons (AW.refl _) (AWs.cons (AW.refl _) (AWs.cons (AW.refl _) (AWs.cons (AW.slcn _ _ _) (AWs.cons (AW.refl _) AWs.nil))))) rfl) (Wk.trans (wq (e' := [(2, .ref 1 0 0), (3, .d (eB false))]) rfl) (Wk.trans (Wk.boxE (id := 1) (y := .agg [.d (eS ([] : List UInt8)), .slc 2 7 0 (([] : List ApiColumn).length) none, .d ((eL 1 eI) ([] : List Int)), .slc 3 6 0 (([] : List ApiIndex).length) none, .d (eI (0 : Int))]) (σ' := [.box (.d ((eL 2 eApiPair) p0)), .box (.agg [.d (eS ([] : List UInt8)), .slc 2 7 0 (([] : List ApiColumn).length) none, .d ((eL 1 eI) ([] : List Int)), .slc 3 6 0 (([] : List ApiIndex).length) none, .d (eI (0 : Int))]), .row 7 (List.map eApiColumn ([] : List ApiColumn)) true, .row 6 (List.map eApiIndex ([] : List ApiIndex)) true]) rfl (AWs.cons (AW.refl _) (AWs.cons (AW.refl _) (AWs.cons (AW.nl _) (AWs.cons (AW.refl _) (AWs.cons (AW.refl _) AWs.nil))))) rfl) (Wk.trans (fro 2 rfl rfl) (fro 3 rfl rfl)))))))) (lresC rfl (ld_box ts53 ta53 rfl rfl) (lresT rfl lresN)) rfl))))))
 ·obtain ⟨v458, hv458, h0⟩ := ob h0; obtain ⟨r460, hq459, h0⟩ := ob h0
  refine sk (sr (sm rfl (s1 (bld rfl (bd53_0 r456)) (s1 (alo (k := 2) zo53 rfl) (s0 (sto rfl rfl (sB (d' := .d (.agg [(eS r456), .nils, .nils, .nils, (eI (0 : Int))])) ts53 rfl rfl rfl rfl rfl rfl rfl)) (sn (sr (sm rfl (sm rfl ?_)))))))))
  refine s1 (nkr rfl) (s1 (lod rfl (ld_box ts22 ta22 rfl rfl)) (s1 (ial rfl rfl un22 ts25 (getI_some hv458).1 (map_get (getI_some hv458).2) rfl) (s1 (fap rfl fo25_0 ts9 rfl) (s1 (lod rfl (ld_rop ts9 ta9 rfl)) ?_))))
  rcases r460 with _ | r461
  ·obtain ⟨_, hq462, h0⟩ := ob h0; obtain ⟨_, hq463, h0⟩ := ob h0; obtain ⟨_, hq464, h0⟩ := ob h0; obtain ⟨_, hq465, h0⟩ := ob h0; obtain ⟨_, hq466, h0⟩ := ob h0; have q := si h0; subst q
   refine cq [0] [3] (catalog_take_ok_a v458.Key p0 _ hq459) wf rfl rfl rfl cb42 rfl rfl rfl rfl rfl rfl rfl rfl (sm rfl (s1 (ext rfl rfl) (s1 (ext rfl rfl) (s1 (alo (k := 4) zo110 rfl) (s0 (sto rfl rfl (sB (d' := .d (.agg [.nilp])) ts110 rfl rfl rfl rfl rfl rfl rfl)) (sa rfl (sn (sr (s1 (far (k := 0) rfl fo110_0 ts108 rfl) ?_)))))))))
   refine s1 (lod rfl (ld_box ts108 ta108 rfl rfl)) (c0 (pack_In_U16_ok _ hq462) wf rfl rfl rfl cb43 rfl (fun _ => rfl) (fun _ => rfl) (s1 (cvo rfl (cv_u16_i64 un76 un3 ((0 : UInt64).toUInt16))) (s1 (far (k := 4) rfl fo53_4 ts3 rfl) (s0 (sto rfl rfl (sB (d' := .d (.agg [(eS r456), .nils, .nils, .nils, (eI (((0 : UInt64).toUInt16).toNat : Int))])) ts3 rfl rfl rfl rfl rfl rfl rfl)) (sn (sr (s1 (lod (v := .d (.agg [.nilp])) rfl (ld_box ts110 ta110 rfl rfl)) (c0 (catalog_taker_place_ok _ hq463) wf rfl rfl rfl cb44 rfl (fun _ => rfl) (fun _ => rfl) (sa rfl ?_)))))))))
   refine sn (sr (s1 (lod (v := .d (.agg [.nilp])) rfl (ld_box ts110 ta110 rfl rfl)) (c0 (catalog_taker_places_ok _ hq464) wf rfl rfl rfl cb45 rfl (fun _ => rfl) (fun _ => rfl) (s1 (far (k := 2) rfl fo53_2 ts50 rfl) (s0 (sto rfl rfl (sB (d' := .d (.agg [(eS r456), .nils, .nils, .nils, (eI (((0 : UInt64).toUInt16).toNat : Int))])) ts50 rfl rfl rfl rfl rfl rfl rfl)) (sn (sr (s1 (lod (v := .d (.agg [.nilp])) rfl (ld_box ts110 ta110 rfl rfl)) (c0 (catalog_taker_place_ok _ hq465) wf rfl rfl rfl cb44 rfl (fun _ => rfl) (fun _ => rfl) ?_)))))))))
   refine sa rfl (sn (sq (sr (s1 (far (k := 0) rfl fo110_0 ts108 rfl) (s1 (lod rfl (ld_box ts108 ta108 rfl rfl)) (c0 (pack_In_Done_1_ok _ hq466) wf rfl rfl rfl cb46 rfl (fun _ => rfl) (fun _ => rfl) (s1 (uo (v := .d (eB true)) rfl rfl rfl) (sn (cT rfl ?_)))))))))
   exact sr (s1 (lod (v := .d (.agg [(eS r456), .nils, .nils, .nils, (eI (((0 : UInt64).toUInt16).toNat : Int))])) rfl (ld_box ts53 ta53 rfl rfl)) (s0 (sto rfl rfl (sB (d' := .d (.agg [(eS r456), .nils, .nils, .nils, (eI (((0 : UInt64).toUInt16).toNat : Int))])) ts53 rfl rfl rfl rfl rfl rfl rfl)) (sa rfl (sn (SC.ret (finR (Wk.trans (Wk.pushE (σ' := [.box (.d ((eL 2 eApiPair) p0)), .box (.d (.agg [(eS r456), .nils, .nils, .nils, (eI (((0 : UInt64).toUInt16).toNat : Int))])), .box (.d (.agg [(eS r456), .nils, .nils, .nils, (eI (((0 : UInt64).toUInt16).toNat : Int))])), .box (.d (.agg [.nilp])), .box (.d (.agg [.nilp])), .row 7 (List.map eApiColumn ([] : List ApiColumn)) true]) (.row 7 [] true) (fun _ hh => by cases hh) rfl) (Wk.trans (Wk.boxE (id := 1) (y := .agg [.d (eS r456), .slc 5 7 0 (([] : List ApiColumn).length) none, .d .nils, .d .nils, .d (eI (((0 : UInt64).toUInt16).toNat : Int))]) (σ' := [.box (.d ((eL 2 eApiPair) p0)), .box (.agg [.d (eS r456), .slc 5 7 0 (([] : List ApiColumn).length) none, .d .nils, .d .nils, .d (eI (((0 : UInt64).toUInt16).toNat : Int))]), .box (.d (.agg [(eS r456), .nils, .nils, .nils, (eI (((0 : UInt64).toUInt16).toNat : Int))])), .box (.d (.agg [.nilp])), .box (.d (.agg [.nilp])), .row 7 (List.map eApiColumn ([] : List ApiColumn)) true]) rfl (AWs.cons (AW.refl _) (AWs.cons (AW.slcn _ _ _) (AWs.cons (AW.refl _) (AWs.cons (AW.refl _) (AWs.cons (AW.refl _) AWs.nil))))) rfl) (Wk.trans (Wk.pushE (σ' := [.box (.d ((eL 2 eApiPair) p0)), .box (.agg [.d (eS r456), .slc 5 7 0 (([] : List ApiColumn).length) none, .d .nils, .d .nils, .d (eI (((0 : UInt64).toUInt16).toNat : Int))]), .box (.d (.agg [(eS r456), .nils, .nils, .nils, (eI (((0 : UInt64).toUInt16).toNat : Int))])), .box (.d (.agg [.nilp])), .box (.d (.agg [.nilp])), .row 7 (List.map eApiColumn ([] : List ApiColumn)) true, .row 6 (List.map eApiIndex ([] : List ApiIndex)) true]) (.row 6 [] true) (fun _ hh => by cases hh) rfl) (Wk.trans (Wk.boxE (id := 1) (y := .agg [.d (eS r456), .slc 5 7 0 (([] : List ApiColumn).length) none, .d .nils, .slc 6 6 0 (([] : List ApiIndex).length) none, .d (eI (((0 : UInt64).toUInt16).toNat : Int))]) (σ' := [.box (.d ((eL 2 eApiPair) p0)), .box (.agg [.d (eS r456), .slc 5 7 0 (([] : List ApiColumn).length) none, .d .nils, .slc 6 6 0 (([] : List ApiIndex).length) none, .d (eI (((0 : UInt64).toUInt16).toNat : Int))]), .box (.d (.agg [(eS r456), .nils, .nils, .nils, (eI (((0 : UInt64).toUInt16).toNat : Int))])), .box (.d (.agg [.nilp])), .box (.d (.agg [.nilp])), .row 7 (List.map eApiColumn ([] : List ApiColumn)) true, .row 6 (List.map eApiIndex ([] : List ApiIndex)) true]) rfl (AWs.cons (AW.refl _) (AWs.cons (AW.refl _) (AWs.cons (AW.refl _) (AWs.cons (AW.slcn _ _ _) (AWs.cons (AW.refl _) AWs.nil))))) rfl) (Wk.trans (wq (e' := [(2, .ref 1 0 0), (3, .d (eB false))]) rfl) (Wk.trans (Wk.boxE (id := 1) (y := .agg [.d (eS r456), .slc 5 7 0 (([] : List ApiColumn).length) none, .d ((eL 1 eI) ([] : List Int)), .slc 6 6 0 (([] : List ApiIndex).length) none, .d (eI (((0 : UInt64).toUInt16).toNat : Int))]) (σ' := [.box (.d ((eL 2 eApiPair) p0)), .box (.agg [.d (eS r456), .slc 5 7 0 (([] : List ApiColumn).length) none, .d ((eL 1 eI) ([] : List Int)), .slc 6 6 0 (([] : List ApiIndex).length) none, .d (eI (((0 : UInt64).toUInt16).toNat : Int))]), .box (.d (.agg [(eS r456), .nils, .nils, .nils, (eI (((0 : UInt64).toUInt16).toNat : Int))])), .box (.d (.agg [.nilp])), .box (.d (.agg [.nilp])), .row 7 (List.map eApiColumn ([] : List ApiColumn)) true, .row 6 (List.map eApiIndex ([] : List ApiIndex)) true]) rfl (AWs.cons (AW.refl _) (AWs.cons (AW.refl _) (AWs.cons (AW.nl _) (AWs.cons (AW.refl _) (AWs.cons (AW.refl _) AWs.nil))))) rfl) (Wk.trans (fro 5 rfl rfl) (Wk.trans (fro 6 rfl rfl) (wc (e' := [(2, .ref 1 0 0), (3, .d (eB false))]) [0, 1, 5, 6] [0, 1] (by kernel_rfl) rfl (by kernel_rfl)))))))))) (lresC rfl (ld_box ts53 ta53 rfl rfl) (lresT rfl lresN)) rfl))))))
  ·obtain ⟨⟨r468, r469, r470, r471⟩, hq467, h0⟩ := ob h0; obtain ⟨⟨r473, r474, r475, r476⟩, hq472, h0⟩ := ob h0; obtain ⟨⟨r478, r479, r480, r481⟩, hq477, h0⟩ := ob h0; obtain ⟨⟨r483, r484, r485, r486⟩, hq482, h0⟩ := ob h0; obtain ⟨r488, hq487, h0⟩ := ob h0
   refine cq [0] [3, 4, 5] (catalog_take_ok_b v458.Key p0 _ hq459) wf rfl rfl rfl cb42 rfl rfl rfl rfl rfl rfl rfl rfl (sm rfl (s1 (ext rfl rfl) (s1 (ext rfl rfl) (s1 (alo (k := 6) zo110 rfl) (s0 (sto rfl rfl (sB (d' := .agg [.ref 4 0 0]) ts110 rfl rfl rfl rfl rfl rfl rfl)) (sa rfl (sn (sr (s1 (far (k := 0) rfl fo110_0 ts108 rfl) ?_)))))))))
   refine s1 (lod rfl (ld_box ts108 ta108 rfl rfl)) (cq [4, 5] [] (pack_In_U16_1_ok r461 false _ hq467) wf rfl rfl rfl cb43 rfl rfl rfl rfl rfl rfl rfl rfl (s1 (cvo rfl (cv_u16_i64 un76 un3 r468)) (s1 (far (k := 4) rfl fo53_4 ts3 rfl) (s0 (sto rfl rfl (sB (d' := .d (.agg [(eS r456), .nils, .nils, .nils, (eI (r468.toNat : Int))])) ts3 rfl rfl rfl rfl rfl rfl rfl)) (sn (sr (s1 (lod (v := .agg [.ref 4 0 0]) rfl (ld_box ts110 ta110 rfl rfl)) (cq [4, 5] [] (catalog_taker_place_1_ok r461 r469 r470 r471 _ hq472) wf rfl rfl rfl cb44 rfl rfl rfl rfl rfl rfl rfl rfl (sa rfl ?_)))))))))
   refine sn (sr (s1 (lod (v := .agg [.ref 4 0 0]) rfl (ld_box ts110 ta110 rfl rfl)) (cq [4, 5] [] (catalog_taker_places_1_ok r461 r474 r475 r476 _ hq477) wf rfl rfl rfl cb45 rfl rfl rfl rfl rfl rfl rfl rfl (s1 (far (k := 2) rfl fo53_2 ts50 rfl) (s0 (sto rfl rfl (sB (d' := .d (.agg [(eS r456), .nils, ((eL 1 eI) r478), .nils, (eI (r468.toNat : Int))])) ts50 rfl rfl rfl rfl rfl rfl rfl)) (sn (sr (s1 (lod (v := .agg [.ref 4 0 0]) rfl (ld_box ts110 ta110 rfl rfl)) (cq [4, 5] [] (catalog_taker_place_1_ok r461 r479 r480 r481 _ hq482) wf rfl rfl rfl cb44 rfl rfl rfl rfl rfl rfl rfl rfl ?_)))))))))
   refine sa rfl (sn (sq (sr (s1 (far (k := 0) rfl fo110_0 ts108 rfl) (s1 (lod rfl (ld_box ts108 ta108 rfl rfl)) (cq [4, 5] [] (pack_In_Done_ok r461 r484 r485 r486 _ hq487) wf rfl rfl rfl cb46 rfl rfl rfl rfl rfl rfl rfl rfl (s1 (nt rfl) (sn (cB h0 rfl (fun h0 => ?_) (fun h0 => ?_))))))))))
   ·have q := si h0; subst q
    exact sr (s1 (lod (v := .d (.agg [(eS r456), .nils, ((eL 1 eI) r478), .nils, (eI (r468.toNat : Int))])) rfl (ld_box ts53 ta53 rfl rfl)) (s0 (sto rfl rfl (sB (d' := .d (.agg [(eS r456), .nils, ((eL 1 eI) r478), .nils, (eI (r468.toNat : Int))])) ts53 rfl rfl rfl rfl rfl rfl rfl)) (sa rfl (sn (SC.ret (finR (Wk.trans (Wk.pushE (σ' := [.box (.d ((eL 2 eApiPair) (List.drop (1 : Int).toNat p0))), .box (.d (.agg [(eS r456), .nils, ((eL 1 eI) r478), .nils, (eI (r468.toNat : Int))])), .box (.d (.agg [(eS r456), .nils, ((eL 1 eI) r478), .nils, (eI (r468.toNat : Int))])), .box (.agg [.ref 4 0 0]), .box (.agg [.slc 5 1 r484 r485 none, .d (eB r486)]), .row 1 (List.map eU8 r461) true, .box (.agg [.ref 4 0 0]), .row 7 (List.map eApiColumn ([] : List ApiColumn)) true]) (.row 7 [] true) (fun _ hh => by cases hh) rfl) (Wk.trans (Wk.boxE (id := 1) (y := .agg [.d (eS r456), .slc 7 7 0 (([] : List ApiColumn).length) none, .d ((eL 1 eI) r478), .d .nils, .d (eI (r468.toNat : Int))]) (σ' := [.box (.d ((eL 2 eApiPair) (List.drop (1 : Int).toNat p0))), .box (.agg [.d (eS r456), .slc 7 7 0 (([] : List ApiColumn).length) none, .d ((eL 1 eI) r478), .d .nils, .d (eI (r468.toNat : Int))]), .box (.d (.agg [(eS r456), .nils, ((eL 1 eI) r478), .nils, (eI (r468.toNat : Int))])), .box (.agg [.ref 4 0 0]), .box (.agg [.slc 5 1 r484 r485 none, .d (eB r486)]), .row 1 (List.map eU8 r461) true, .box (.agg [.ref 4 0 0]), .row 7 (List.map eApiColumn ([] : List ApiColumn)) true]) rfl (AWs.cons (AW.refl _) (AWs.cons (AW.slcn _ _ _) (AWs.cons (AW.refl _) (AWs.cons (AW.refl _) (AWs.cons (AW.refl _) AWs.nil))))) rfl) (Wk.trans (Wk.pushE (σ' := [.box (.d ((eL 2 eApiPair) (List.drop (1 : Int).toNat p0))), .box (.agg [.d (eS r456), .slc 7 7 0 (([] : List ApiColumn).length) none, .d ((eL 1 eI) r478), .d .nils, .d (eI (r468.toNat : Int))]), .box (.d (.agg [(eS r456), .nils, ((eL 1 eI) r478), .nils, (eI (r468.toNat : Int))])), .box (.agg [.ref 4 0 0]), .box (.agg [.slc 5 1 r484 r485 none, .d (eB r486)]), .row 1 (List.map eU8 r461) true, .box (.agg [.ref 4 0 0]), .row 7 (List.map eApiColumn ([] : List ApiColumn)) true, .row 6 (List.map eApiIndex ([] : List ApiIndex)) true]) (.row 6 [] true) (fun _ hh => by cases hh) rfl) (Wk.trans (Wk.boxE (id := 1) (y := .agg [.d (eS r456), .slc 7 7 0 (([] : List ApiColumn).length) none, .d ((eL 1 eI) r478), .slc 8 6 0 (([] : List ApiIndex).length) none, .d (eI (r468.toNat : Int))]) (σ' := [.box (.d ((eL 2 eApiPair) (List.drop (1 : Int).toNat p0))), .box (.agg [.d (eS r456), .slc 7 7 0 (([] : List ApiColumn).length) none, .d ((eL 1 eI) r478), .slc 8 6 0 (([] : List ApiIndex).length) none, .d (eI (r468.toNat : Int))]), .box (.d (.agg [(eS r456), .nils, ((eL 1 eI) r478), .nils, (eI (r468.toNat : Int))])), .box (.agg [.ref 4 0 0]), .box (.agg [.slc 5 1 r484 r485 none, .d (eB r486)]), .row 1 (List.map eU8 r461) true, .box (.agg [.ref 4 0 0]), .row 7 (List.map eApiColumn ([] : List ApiColumn)) true, .row 6 (List.map eApiIndex ([] : List ApiIndex)) true]) rfl (AWs.cons (AW.refl _) (AWs.cons (AW.refl _) (AWs.cons (AW.refl _) (AWs.cons (AW.slcn _ _ _) (AWs.cons (AW.refl _) AWs.nil))))) rfl) (Wk.trans (wq (e' := [(2, .ref 1 0 0), (3, .d (eB false))]) rfl) (Wk.trans (fro 7 rfl rfl) (Wk.trans (fro 8 rfl rfl) (wc (e' := [(2, .ref 1 0 0), (3, .d (eB false))]) [0, 1, 7, 8] [0, 1] (by kernel_rfl) rfl (by kernel_rfl))))))))) (lresC rfl (ld_box ts53 ta53 rfl rfl) (lresT rfl lresN)) rfl))))))
   ·refine sk (SC.seqB h0 (fun y => ⟨mk 119 [(0, .ref 0 0 0), (2, .ref 1 0 0), (4, .d (eS r456)), (6, .ref 2 0 0), (10, .d (eI r483))], [.box (.d ((eL 2 eApiPair) y.1)), .box (.d (.agg [(eS ([] : List UInt8)), .nils, .nils, .nils, (eI (0 : Int))])), .box (.agg [.d (eS r456), .slc 3 7 0 y.2.length none, .d ((eL 1 eI) r478), .d .nils, .d (eI (r468.toNat : Int))]), .row 7 (List.map eApiColumn y.2) true]⟩) ?_ ?_)
    ·intro u1_536 h1 h0
     obtain ⟨u2_568, h2, h1⟩ := ob h1
     refine sr (sm rfl (sm rfl (sn (SC.blk (SC.loopB h2 (fun y => ⟨mk 119 [(0, .ref 0 0 0), (2, .ref 1 0 0), (4, .d (eS r456)), (6, .ref 2 0 0), (10, .d (eI r483)), (60, .d (eI r473)), (61, .d (eI y.1))], [.box (.d ((eL 2 eApiPair) y.2.1)), .box (.d (.agg [(eS ([] : List UInt8)), .nils, .nils, .nils, (eI (0 : Int))])), .box (.agg [.d (eS r456), .slc 3 7 0 y.2.2.length none, .d ((eL 1 eI) r478), .d .nils, .d (eI (r468.toNat : Int))]), .row 7 (List.map eApiColumn y.2.2) true]⟩) (Wk.trans (Wk.pushE (σ' := [.box (.d ((eL 2 eApiPair) (List.drop (1 : Int).toNat p0))), .box (.d (.agg [(eS ([] : List UInt8)), .nils, .nils, .nils, (eI (0 : Int))])), .box (.d (.agg [(eS r456), .nils, ((eL 1 eI) r478), .nils, (eI (r468.toNat : Int))])), .box (.agg [.ref 4 0 0]), .box (.agg [.slc 5 1 r484 r485 none, .d (eB r486)]), .row 1 (List.map eU8 r461) true, .box (.agg [.ref 4 0 0]), .row 7 (List.map eApiColumn ([] : List ApiColumn)) true]) (.row 7 [] true) (fun _ hh => by cases hh) rfl) (Wk.trans (Wk.boxE (id := 2) (y := .agg [.d (eS r456), .slc 7 7 0 (([] : List ApiColumn).length) none, .d ((eL 1 eI) r478), .d .nils, .d (eI (r468.toNat : Int))]) (σ' := [.box (.d ((eL 2 eApiPair) (List.drop (1 : Int).toNat p0))), .box (.d (.agg [(eS ([] : List UInt8)), .nils, .nils, .nils, (eI (0 : Int))])), .box (.agg [.d (eS r456), .slc 7 7 0 (([] : List ApiColumn).length) none, .d ((eL 1 eI) r478), .d .nils, .d (eI (r468.toNat : Int))]), .box (.agg [.ref 4 0 0]), .box (.agg [.slc 5 1 r484 r485 none, .d (eB r486)]), .row 1 (List.map eU8 r461) true, .box (.agg [.ref 4 0 0]), .row 7 (List.map eApiColumn ([] : List ApiColumn)) true]) rfl (AWs.cons (AW.refl _) (AWs.cons (AW.slcn _ _ _) (AWs.cons (AW.refl _) (AWs.cons (AW.refl _) (AWs.cons (AW.refl _) AWs.nil))))) rfl) (wc [0, 1, 2, 7] [0, 0, 1, 2] (by kernel_rfl) rfl (by kernel_rfl)))) ?_)))))
     intro n581
     rintro ⟨y549, y550, y551⟩ w2_567 h3 hv3
     refine sr (s1 (bi rfl rfl q_i64_lss) (sn (sq (cB h3 rfl (fun h3 => ?_) (fun h3 => ?_)))))
     ·obtain ⟨_, hq569, h3⟩ := ob h3; obtain ⟨r571, hq570, h3⟩ := ob h3
      refine sk (sq (SC.blk (sr (sm rfl (sa rfl (sn (sr (sm rfl (sm rfl ?_)))))))))
      refine sm rfl (c0 (catalog_sub_ok r456 (99 : UInt8) y549 _ hq569) wf rfl rfl rfl cb25 rfl (fun _ => rfl) (fun _ => rfl) ?_)
      rcases r571 with _ | r572
      ·have q := si h3; subst q; have q : _ = _ := hv3; subst q; have q := si h1; subst q; have q := si h0; subst q
       refine cq [0] [4] (catalog_take_ok_a ((([116] : List UInt8) ++ r456) ++ [(0 : UInt8), (99 : UInt8), (u8i y549)]) y550 _ hq570) wf rfl rfl rfl cb42 rfl rfl rfl rfl rfl rfl rfl rfl (sm rfl (s1 (ext rfl rfl) (s1 (ext rfl rfl) (s1 (alo (k := 5) zo110 rfl) (s0 (sto rfl rfl (sB (d' := .d (.agg [.nilp])) ts110 rfl rfl rfl rfl rfl rfl rfl)) (sa rfl (sn (sq (sr ?_)))))))))
       refine sm rfl (s1 (uo (v := .d (eB true)) rfl rfl rfl) (sn (cT rfl (sr (s1 (lod (v := .agg [.d (eS r456), .slc 3 7 0 y551.length none, .d ((eL 1 eI) r478), .d .nils, .d (eI (r468.toNat : Int))]) rfl (ld_box ts53 ta53 rfl rfl)) (s0 (sto rfl rfl (sB (d' := .agg [.d (eS r456), .slc 3 7 0 y551.length none, .d ((eL 1 eI) r478), .d .nils, .d (eI (r468.toNat : Int))]) ts53 rfl rfl rfl rfl rfl rfl rfl)) (sa rfl (sn (SC.ret ?_)))))))))
       exact finR (Wk.trans (Wk.pushE (σ' := [.box (.d ((eL 2 eApiPair) y550)), .box (.agg [.d (eS r456), .slc 3 7 0 y551.length none, .d ((eL 1 eI) r478), .d .nils, .d (eI (r468.toNat : Int))]), .box (.agg [.d (eS r456), .slc 3 7 0 y551.length none, .d ((eL 1 eI) r478), .d .nils, .d (eI (r468.toNat : Int))]), .row 7 (List.map eApiColumn y551) true, .box (.d (.agg [.nilp])), .box (.d (.agg [.nilp])), .row 6 (List.map eApiIndex ([] : List ApiIndex)) true]) (.row 6 [] true) (fun _ hh => by cases hh) rfl) (Wk.trans (Wk.boxE (id := 1) (y := .agg [.d (eS r456), .slc 3 7 0 y551.length none, .d ((eL 1 eI) r478), .slc 6 6 0 (([] : List ApiIndex).length) none, .d (eI (r468.toNat : Int))]) (σ' := [.box (.d ((eL 2 eApiPair) y550)), .box (.agg [.d (eS r456), .slc 3 7 0 y551.length none, .d ((eL 1 eI) r478), .slc 6 6 0 (([] : List ApiIndex).length) none, .d (eI (r468.toNat : Int))]), .box (.agg [.d (eS r456), .slc 3 7 0 y551.length none, .d ((eL 1 eI) r478), .d .nils, .d (eI (r468.toNat : Int))]), .row 7 (List.map eApiColumn y551) true, .box (.d (.agg [.nilp])), .box (.d (.agg [.nilp])), .row 6 (List.map eApiIndex ([] : List ApiIndex)) true]) rfl (AWs.cons (AW.refl _) (AWs.cons (AW.refl _) (AWs.cons (AW.refl _) (AWs.cons (AW.slcn _ _ _) (AWs.cons (AW.refl _) AWs.nil))))) rfl) (Wk.trans (wq (e' := [(2, .ref 1 0 0), (3, .d (eB false))]) rfl) (Wk.trans (fro 3 rfl rfl) (Wk.trans (fro 6 rfl rfl) (wc (e' := [(2, .ref 1 0 0), (3, .d (eB false))]) [0, 1, 3, 6] [0, 1] (by kernel_rfl) rfl (by kernel_rfl))))))) (lresC rfl (ld_box ts53 ta53 rfl rfl) (lresT rfl lresN)) rfl
      ·obtain ⟨⟨r574, r575, r576, r577⟩, hq573, h3⟩ := ob h3; obtain ⟨hg578, h3⟩ := gd h3; obtain ⟨r580, hq579, h3⟩ := ob h3
       refine cq [0] [4, 5, 6] (catalog_take_ok_b ((([116] : List UInt8) ++ r456) ++ [(0 : UInt8), (99 : UInt8), (u8i y549)]) y550 _ hq570) wf rfl rfl rfl cb42 rfl rfl rfl rfl rfl rfl rfl rfl (sm rfl (s1 (ext rfl rfl) (s1 (ext rfl rfl) (s1 (alo (k := 7) zo110 rfl) (s0 (sto rfl rfl (sB (d' := .agg [.ref 5 0 0]) ts110 rfl rfl rfl rfl rfl rfl rfl)) (sa rfl (sn (sq (sr ?_)))))))))
       refine sm rfl (s1 (uo (v := .d (eB false)) rfl rfl rfl) (sn (cF rfl (sk (sd (by kernel_rfl) (t1 ([], false) (far (k := 1) rfl fo53_1 ts49 rfl) rfl (t1 ([2], false) (lod rfl (ld_box ts49 ta49 rfl rfl)) rfl (t1 ([7], false) (lod (v := .agg [.ref 5 0 0]) rfl (ld_box ts110 ta110 rfl rfl)) rfl (tq [5, 6] [8] ([5, 6, 8], true) (catalog_taker_column_ok r572 false _ hq573) wf rfl rfl rfl cb47 rfl rfl rfl rfl rfl rfl rfl rfl rfl ?_)))))))))
       refine t1 ([9], true) (bsn (k := 9) (ds := List.map eApiColumn [r577]) (off := 0) (l' := [r577].length) rfl un49 ei62 rfl rfl (by rfl) rfl rfl rfl) rfl (t1 ([3, 9, 10], true) (app rfl rfl rfl rfl bc49 (aF (f := eApiColumn) (xs := y551) (k := 10) rfl un49 ei62 rfl (el_full (xs := [r577]) rfl) hg578 rfl)) rfl (t1 ([], false) (far (k := 1) rfl fo53_1 ts49 rfl) rfl (t0 ([2, 10], true) (sto rfl rfl (sB (d' := .agg [.d (eS r456), .slc 10 7 0 ((y551 ++ [r577]).length) none, .d ((eL 1 eI) r478), .d .nils, .d (eI (r468.toNat : Int))]) ts49 rfl rfl rfl rfl rfl rfl rfl)) rfl (tn (by decide +kernel) (sr (s1 (far (k := 0) rfl fo110_0 ts108 rfl) (s1 (lod rfl (ld_box ts108 ta108 rfl rfl)) (cq [5, 6] [] (pack_In_Done_ok r572 r574 r575 r576 _ hq579) wf rfl rfl rfl cb46 rfl rfl rfl rfl rfl rfl rfl rfl (s1 (nt rfl) ?_)))))))))
       refine sn (cB h3 rfl (fun h3 => ?_) (fun h3 => ?_))
       ·have q := si h3; subst q; have q : _ = _ := hv3; subst q; have q := si h1; subst q; have q := si h0; subst q
        exact sr (s1 (lod (v := .agg [.d (eS r456), .slc 10 7 0 ((y551 ++ [r577]).length) none, .d ((eL 1 eI) r478), .d .nils, .d (eI (r468.toNat : Int))]) rfl (ld_box ts53 ta53 rfl rfl)) (s0 (sto rfl rfl (sB (d' := .agg [.d (eS r456), .slc 10 7 0 ((y551 ++ [r577]).length) none, .d ((eL 1 eI) r478), .d .nils, .d (eI (r468.toNat : Int))]) ts53 rfl rfl rfl rfl rfl rfl rfl)) (sa rfl (sn (SC.ret (finR (Wk.trans (Wk.pushE (σ' := [.box (.d ((eL 2 eApiPair) (List.drop (1 : Int).toNat y550))), .box (.agg [.d (eS r456), .slc 10 7 0 ((y551 ++ [r577]).length) none, .d ((eL 1 eI) r478), .d .nils, .d (eI (r468.toNat : Int))]), .box (.agg [.d (eS r456), .slc 10 7 0 ((y551 ++ [r577]).length) none, .d ((eL 1 eI) r478), .d .nils, .d (eI (r468.toNat : Int))]), .dead, .box (.agg [.ref 5 0 0]), .box (.agg [.slc 6 1 r574 r575 none, .d (eB r576)]), .row 1 (List.map eU8 r572) true, .box (.agg [.ref 5 0 0]), .box (.d (eApiColumn r577)), .row 7 (List.map eApiColumn [r577]) true, .row 7 (List.map eApiColumn (y551 ++ [r577])) true, .row 6 (List.map eApiIndex ([] : List ApiIndex)) true]) (.row 6 [] true) (fun _ hh => by cases hh) rfl) (Wk.trans (Wk.boxE (id := 1) (y := .agg [.d (eS r456), .slc 10 7 0 ((y551 ++ [r577]).length) none, .d ((eL 1 eI) r478), .slc 11 6 0 (([] : List ApiIndex).length) none, .d (eI (r468.toNat : Int))]) (σ' := [.box (.d ((eL 2 eApiPair) (List.drop (1 : Int).toNat y550))), .box (.agg [.d (eS r456), .slc 10 7 0 ((y551 ++ [r577]).length) none, .d ((eL 1 eI) r478), .slc 11 6 0 (([] : List ApiIndex).length) none, .d (eI (r468.toNat : Int))]), .box (.agg [.d (eS r456), .slc 10 7 0 ((y551 ++ [r577]).length) none, .d ((eL 1 eI) r478), .d .nils, .d (eI (r468.toNat : Int))]), .dead, .box (.agg [.ref 5 0 0]), .box (.agg [.slc 6 1 r574 r575 none, .d (eB r576)]), .row 1 (List.map eU8 r572) true, .box (.agg [.ref 5 0 0]), .box (.d (eApiColumn r577)), .row 7 (List.map eApiColumn [r577]) true, .row 7 (List.map eApiColumn (y551 ++ [r577])) true, .row 6 (List.map eApiIndex ([] : List ApiIndex)) true]) rfl (AWs.cons (AW.refl _) (AWs.cons (AW.refl _) (AWs.cons (AW.refl _) (AWs.cons (AW.slcn _ _ _) (AWs.cons (AW.refl _) AWs.nil))))) rfl) (Wk.trans (wq (e' := [(2, .ref 1 0 0), (3, .d (eB false))]) rfl) (Wk.trans (fro 10 rfl rfl) (Wk.trans (fro 11 rfl rfl) (wc (e' := [(2, .ref 1 0 0), (3, .d (eB false))]) [0, 1, 10, 11] [0, 1] (by kernel_rfl) rfl (by kernel_rfl))))))) (lresC rfl (ld_box ts53 ta53 rfl rfl) (lresT rfl lresN)) rfl))))))
       ·refine SC.skip ?_
        change SC _ _ _ _ _
        have q := si h3; subst q
        exact SC.region (s1 (bi rfl rfl q_i64_add) (sm rfl (SO.nil (lf (wc [0, 1, 2, 10] [0, 0, 1, 2] (by kernel_rfl) rfl (by kernel_rfl))))))
     ·have q := si h3; subst q; have q : _ = _ := hv3; subst q; have q := si h1; subst q
      exact SC.exit (lf (wq rfl))
    ·rintro ⟨y534, y535⟩ h0
     refine SC.seqB h0 (fun y => ⟨mk 119 [(2, .ref 1 0 0), (6, .ref 2 0 0)], [.box (.d ((eL 2 eApiPair) y.1)), .box (.d (.agg [(eS ([] : List UInt8)), .nils, .nils, .nils, (eI (0 : Int))])), .box (.agg [.d (eS r456), .slc 3 7 0 y535.length none, .d ((eL 1 eI) r478), .slc 4 6 0 y.2.length none, .d (eI (r468.toNat : Int))]), .row 7 (List.map eApiColumn y535) true, .row 6 (List.map eApiIndex y.2) true]⟩) ?_ ?_
     ·intro u1_629 h1 h0
      obtain ⟨u2_661, h2, h1⟩ := ob h1
      refine sr (sm rfl (sm rfl (sn (SC.blk (SC.loopB h2 (fun y => ⟨mk 119 [(0, .ref 0 0 0), (2, .ref 1 0 0), (4, .d (eS r456)), (6, .ref 2 0 0), (88, .d (eI r483)), (89, .d (eI y.1))], [.box (.d ((eL 2 eApiPair) y.2.1)), .box (.d (.agg [(eS ([] : List UInt8)), .nils, .nils, .nils, (eI (0 : Int))])), .box (.agg [.d (eS r456), .slc 3 7 0 y535.length none, .d ((eL 1 eI) r478), .slc 4 6 0 y.2.2.length none, .d (eI (r468.toNat : Int))]), .row 7 (List.map eApiColumn y535) true, .row 6 (List.map eApiIndex y.2.2) true]⟩) (Wk.trans (Wk.pushE (σ' := [.box (.d ((eL 2 eApiPair) y534)), .box (.d (.agg [(eS ([] : List UInt8)), .nils, .nils, .nils, (eI (0 : Int))])), .box (.agg [.d (eS r456), .slc 3 7 0 y535.length none, .d ((eL 1 eI) r478), .d .nils, .d (eI (r468.toNat : Int))]), .row 7 (List.map eApiColumn y535) true, .row 6 (List.map eApiIndex ([] : List ApiIndex)) true]) (.row 6 [] true) (fun _ hh => by cases hh) rfl) (Wk.trans (Wk.boxE (id := 2) (y := .agg [.d (eS r456), .slc 3 7 0 y535.length none, .d ((eL 1 eI) r478), .slc 4 6 0 (([] : List ApiIndex).length) none, .d (eI (r468.toNat : Int))]) (σ' := [.box (.d ((eL 2 eApiPair) y534)), .box (.d (.agg [(eS ([] : List UInt8)), .nils, .nils, .nils, (eI (0 : Int))])), .box (.agg [.d (eS r456), .slc 3 7 0 y535.length none, .d ((eL 1 eI) r478), .slc 4 6 0 (([] : List ApiIndex).length) none, .d (eI (r468.toNat : Int))]), .row 7 (List.map eApiColumn y535) true, .row 6 (List.map eApiIndex ([] : List ApiIndex)) true]) rfl (AWs.cons (AW.refl _) (AWs.cons (AW.refl _) (AWs.cons (AW.refl _) (AWs.cons (AW.slcn _ _ _) (AWs.cons (AW.refl _) AWs.nil))))) rfl) (wq rfl))) ?_)))))
      intro n674
      rintro ⟨y642, y643, y644⟩ w2_660 h3 hv3
      refine sr (s1 (bi rfl rfl q_i64_lss) (sn (sq (cB h3 rfl (fun h3 => ?_) (fun h3 => ?_)))))
      ·obtain ⟨_, hq662, h3⟩ := ob h3; obtain ⟨r664, hq663, h3⟩ := ob h3
       refine sk (sq (SC.blk (sr (sm rfl (sa rfl (sn (sr (sm rfl (sm rfl ?_)))))))))
       refine sm rfl (c0 (catalog_sub_ok r456 (105 : UInt8) y642 _ hq662) wf rfl rfl rfl cb25 rfl (fun _ => rfl) (fun _ => rfl) ?_)
       rcases r664 with _ | r665
       ·have q := si h3; subst q; have q : _ = _ := hv3; subst q; have q := si h1; subst q; have q := si h0; subst q
        refine cq [0] [5] (catalog_take_ok_a ((([116] : List UInt8) ++ r456) ++ [(0 : UInt8), (105 : UInt8), (u8i y642)]) y643 _ hq663) wf rfl rfl rfl cb42 rfl rfl rfl rfl rfl rfl rfl rfl (sm rfl (s1 (ext rfl rfl) (s1 (ext rfl rfl) (s1 (alo (k := 6) zo110 rfl) (s0 (sto rfl rfl (sB (d' := .d (.agg [.nilp])) ts110 rfl rfl rfl rfl rfl rfl rfl)) (sa rfl (sn (sq (sr ?_)))))))))
        refine sm rfl (s1 (uo (v := .d (eB true)) rfl rfl rfl) (sn (cT rfl (sr (s1 (lod (v := .agg [.d (eS r456), .slc 3 7 0 y535.length none, .d ((eL 1 eI) r478), .slc 4 6 0 y644.length none, .d (eI (r468.toNat : Int))]) rfl (ld_box ts53 ta53 rfl rfl)) (s0 (sto rfl rfl (sB (d' := .agg [.d (eS r456), .slc 3 7 0 y535.length none, .d ((eL 1 eI) r478), .slc 4 6 0 y644.length none, .d (eI (r468.toNat : Int))]) ts53 rfl rfl rfl rfl rfl rfl rfl)) (sa rfl (sn (SC.ret ?_)))))))))
        exact finR (Wk.trans (wq (e' := [(2, .ref 1 0 0), (3, .d (eB false))]) rfl) (Wk.trans (fro 3 rfl rfl) (Wk.trans (fro 4 rfl rfl) (wc (e' := [(2, .ref 1 0 0), (3, .d (eB false))]) [0, 1, 3, 4] [0, 1] (by kernel_rfl) rfl (by kernel_rfl))))) (lresC rfl (ld_box ts53 ta53 rfl rfl) (lresT rfl lresN)) rfl
       ·obtain ⟨⟨r667, r668, r669, r670⟩, hq666, h3⟩ := ob h3; obtain ⟨hg671, h3⟩ := gd h3; obtain ⟨r673, hq672, h3⟩ := ob h3
        refine cq [0] [5, 6, 7] (catalog_take_ok_b ((([116] : List UInt8) ++ r456) ++ [(0 : UInt8), (105 : UInt8), (u8i y642)]) y643 _ hq663) wf rfl rfl rfl cb42 rfl rfl rfl rfl rfl rfl rfl rfl (sm rfl (s1 (ext rfl rfl) (s1 (ext rfl rfl) (s1 (alo (k := 8) zo110 rfl) (s0 (sto rfl rfl (sB (d' := .agg [.ref 6 0 0]) ts110 rfl rfl rfl rfl rfl rfl rfl)) (sa rfl (sn (sq (sr ?_)))))))))
        refine sm rfl (s1 (uo (v := .d (eB false)) rfl rfl rfl) (sn (cF rfl (sk (sd (by kernel_rfl) (t1 ([], false) (far (k := 3) rfl fo53_3 ts51 rfl) rfl (t1 ([2], false) (lod rfl (ld_box ts51 ta51 rfl rfl)) rfl (t1 ([8], false) (lod (v := .agg [.ref 6 0 0]) rfl (ld_box ts110 ta110 rfl rfl)) rfl (tq [6, 7] [9] ([6, 7, 9], true) (catalog_taker_index_ok r665 false _ hq666) wf rfl rfl rfl cb48 rfl rfl rfl rfl rfl rfl rfl rfl rfl ?_)))))))))
        refine t1 ([10], true) (bsn (k := 10) (ds := List.map eApiIndex [r670]) (off := 0) (l' := [r670].length) rfl un51 ei85 rfl rfl (by rfl) rfl rfl rfl) rfl (t1 ([4, 10, 11], true) (app rfl rfl rfl rfl bc51 (aF (f := eApiIndex) (xs := y644) (k := 11) rfl un51 ei85 rfl (el_full (xs := [r670]) rfl) hg671 rfl)) rfl (t1 ([], false) (far (k := 3) rfl fo53_3 ts51 rfl) rfl (t0 ([2, 11], true) (sto rfl rfl (sB (d' := .agg [.d (eS r456), .slc 3 7 0 y535.length none, .d ((eL 1 eI) r478), .slc 11 6 0 ((y644 ++ [r670]).length) none, .d (eI (r468.toNat : Int))]) ts51 rfl rfl rfl rfl rfl rfl rfl)) rfl (tn (by decide +kernel) (sr (s1 (far (k := 0) rfl fo110_0 ts108 rfl) (s1 (lod rfl (ld_box ts108 ta108 rfl rfl)) (cq [6, 7] [] (pack_In_Done_ok r665 r667 r668 r669 _ hq672) wf rfl rfl rfl cb46 rfl rfl rfl rfl rfl rfl rfl rfl (s1 (nt rfl) ?_)))))))))
        refine sn (cB h3 rfl (fun h3 => ?_) (fun h3 => ?_))
        ·have q := si h3; subst q; have q : _ = _ := hv3; subst q; have q := si h1; subst q; have q := si h0; subst q
         exact sr (s1 (lod (v := .agg [.d (eS r456), .slc 3 7 0 y535.length none, .d ((eL 1 eI) r478), .slc 11 6 0 ((y644 ++ [r670]).length) none, .d (eI (r468.toNat : Int))]) rfl (ld_box ts53 ta53 rfl rfl)) (s0 (sto rfl rfl (sB (d' := .agg [.d (eS r456), .slc 3 7 0 y535.length none, .d ((eL 1 eI) r478), .slc 11 6 0 ((y644 ++ [r670]).length) none, .d (eI (r468.toNat : Int))]) ts53 rfl rfl rfl rfl rfl rfl rfl)) (sa rfl (sn (SC.ret (finR (Wk.trans (wq (e' := [(2, .ref 1 0 0), (3, .d (eB false))]) rfl) (Wk.trans (fro 3 rfl rfl) (Wk.trans (fro 11 rfl rfl) (wc (e' := [(2, .ref 1 0 0), (3, .d (eB false))]) [0, 1, 3, 11] [0, 1] (by kernel_rfl) rfl (by kernel_rfl))))) (lresC rfl (ld_box ts53 ta53 rfl rfl) (lresT rfl lresN)) rfl))))))
        ·refine SC.skip ?_
         change SC _ _ _ _ _
         have q := si h3; subst q
         exact SC.region (s1 (bi rfl rfl q_i64_add) (sm rfl (SO.nil (lf (wc [0, 1, 2, 3, 11] [0, 0, 1, 2] (by kernel_rfl) rfl (by kernel_rfl))))))
      ·have q := si h3; subst q; have q : _ = _ := hv3; subst q; have q := si h1; subst q
       exact SC.exit (lf (wq rfl))
     ·rintro ⟨y627, y628⟩ h0
      obtain ⟨r676, hq675, h0⟩ := ob h0; have q := si h0; subst q
      refine sd (by kernel_rfl) (t1 ([2], false) (lod (v := .agg [.d (eS r456), .slc 3 7 0 y535.length none, .d ((eL 1 eI) r478), .slc 4 6 0 y628.length none, .d (eI (r468.toNat : Int))]) rfl (ld_box ts53 ta53 rfl rfl)) rfl (t1 ([2], false) (lod (v := .agg [.d (eS r456), .slc 3 7 0 y535.length none, .d ((eL 1 eI) r478), .slc 4 6 0 y628.length none, .d (eI (r468.toNat : Int))]) rfl (ld_box ts53 ta53 rfl rfl)) rfl (tq (args' := [.agg [.d (eS r456), .slc 0 7 0 y535.length none, .d ((eL 1 eI) r478), .slc 1 6 0 y628.length none, .d (eI (r468.toNat : Int))]]) (σc := [.row 7 (List.map eApiColumn y535) true, .row 6 (List.map eApiIndex y628) true]) [3, 4] [] ([3, 4], true) (CallAt.frz (ArgF.frzw (y := .d (eApiTable (ApiTable.mk r456 y535 r478 y628 (r468.toNat : Int)))) rfl (frzs_d rfl (frzs_slc (fF rfl rfl rfl) (frzs_d rfl (frzs_slc (fF rfl rfl rfl) (frzs_d rfl frzs_nil))))) (AW.aggd rfl (AWs.cons (AW.refl _) (AWs.cons (AW.refl _) (AWs.cons (AW.refl _) (AWs.cons (AW.refl _) (AWs.cons (AW.refl _) AWs.nil)))))) (ArgF.nil _)) (fq [] [] (catalog_right_ok (ApiTable.mk r456 y535 r478 y628 (r468.toNat : Int)) _ hq675) rfl rfl rfl rfl rfl rfl rfl rfl)) wf rfl rfl rfl cb20 rfl rfl rfl rfl rfl rfl rfl rfl rfl (t0 ([1, 3, 4], true) (sto rfl rfl (sB (d' := .agg [.d (eS r456), .slc 3 7 0 y535.length none, .d ((eL 1 eI) r478), .slc 4 6 0 y628.length none, .d (eI (r468.toNat : Int))]) ts53 rfl rfl rfl rfl rfl rfl rfl)) rfl (t1 ([], false) (asg rfl) rfl (tn (by decide +kernel) ?_))))))
      exact SC.ret (finR (wc (e' := [(2, .ref 1 0 0), (3, .d (eB r676))]) [0, 1, 3, 4] [0, 1] (by kernel_rfl) rfl (by kernel_rfl)) (lresC rfl (ld_box ts53 ta53 rfl rfl) (lresT rfl lresN)) rfl)
noncomputable def catalog_Read (p0 : List ApiPair) : Option ((List ApiTable) × Int) :=
 bindE (Y := (List ApiTable)) (E := (List ApiTable) × Int)
 (Option.bind (α := ((List ApiTable)) ⊕ ((List ApiTable) × Int))
 (loop (Y := (List ApiTable) × (List ApiPair)) (W := ((List ApiTable)) ⊕ ((List ApiTable) × Int)) (fun (y240, y241) =>
 bif (decide ((y241.length : Int) > (0 : Int))) then
 Option.bind (catalog_table y241) fun (r260, r261, r262, r263, r264, r265, r266) =>
 Option.bind (α := Bool)
 (bif (!r260) then
 some true
 else
 bif (decide ((y240.length : Int) > (0 : Int))) then
 Option.bind (getI y240 (w64 ((y240.length : Int) - (1 : Int)))) fun v270 =>
 some (!(ltS v270.Name r262))
 else
 some false)
 fun y268 =>
 bif y268 then
 some (Sum.inr (Sum.inr (([] : List ApiTable), (2 : Int))))
 else
 bif decide ((y240.length + [(ApiTable.mk r262 r263 r264 r265 r266)].length) * 96 ≤ room) then
 some (Sum.inl ((y240 ++ [(ApiTable.mk r262 r263 r264 r265 r266)]), r261))
 else none
 else
 some (Sum.inr (Sum.inl y240))) (([] : List ApiTable), p0))
 (Sum.elim (fun e => some (Sum.inl e)) (fun e => some (Sum.inr e))))
 (fun y227 =>
 some (y227, (0 : Int)))
 (fun e => some e)
theorem catalog_Read_ok (p0 : List ApiPair) (r : (List ApiTable) × Int) (h0 : catalog_Read p0 = some r) : CallAt Tryd.prog 12 [.d ((eL 2 eApiPair) p0)] [] (.tuple [.d ((eL 5 eApiTable) r.1), .d (eI r.2)]) [] := by
 unfold catalog_Read at h0
 refine fn0 [0] Tryd.func12 rfl rfl rfl rfl rfl ?_
 refine sr (s1 (bxo (k := 0) rfl rfl rfl) (s1 (asg (v := .d .nils) rfl) (sa rfl (sn (sr (s1 (asg (v := .d .nils) rfl) (sn (SC.seqB h0 (fun y => ⟨mk 38 [(4, .slc 0 5 0 y.length none)], [.row 5 (List.map eApiTable y) true]⟩) ?_ ?_))))))))
 ·intro u1_228 h1 h0
  obtain ⟨u2_258, h2, h1⟩ := ob h1
  refine SC.blk (SC.loopB h2 (fun y => ⟨mk 38 [(1, .ref 0 0 0), (4, .slc 1 5 0 y.1.length none)], [.box (.d ((eL 2 eApiPair) y.2)), .row 5 (List.map eApiTable y.1) true]⟩) (Wk.trans (Wk.pushE (σ' := [.box (.d ((eL 2 eApiPair) p0)), .row 5 (List.map eApiTable ([] : List ApiTable)) true]) (.row 5 [] true) (fun _ hh => by cases hh) rfl) (Wk.trans (Wk.env (e' := [(1, .ref 0 0 0), (4, .slc 1 5 0 (([] : List ApiTable).length) none)]) (EW.cons (AW.refl _) (EW.cons (AW.slcn _ _ _) EW.nil))) (wq rfl))) ?_)
  intro n272
  rintro ⟨y240, y241⟩ w2_257 h3 hv3
  refine sq (sr (s1 (lod rfl (ld_box ts22 ta22 rfl rfl)) (s1 (len rfl rfl rfl (len_lst un22)) (s1 (bi rfl rfl q_i64_gtr) (sn (cB h3 rfl (fun h3 => ?_) (fun h3 => ?_)))))))
  ·obtain ⟨⟨r260, r261, r262, r263, r264, r265, r266⟩, hq259, h3⟩ := ob h3
   refine sk (SC.blk (sr (cq [0] [2, 3, 4] (catalog_table_ok y241 _ hq259) wf rfl rfl rfl cb28 rfl rfl rfl rfl rfl rfl rfl rfl (sm rfl (s1 (ext rfl rfl) (s1 (ext rfl rfl) (s1 (alo (k := 5) zo53 rfl) (s0 (sto rfl rfl (sB (d' := .agg [.d (eS r262), .slc 3 7 0 r263.length none, .d ((eL 1 eI) r264), .slc 4 6 0 r265.length none, .d (eI r266)]) ts53 rfl rfl rfl rfl rfl rfl rfl)) (sa rfl ?_)))))))))
   refine sn (sq (SC.seqP h3 (fun y => ⟨mk 38 [(1, .ref 0 0 0), (4, .slc 1 5 0 y240.length none), (5, .ref 2 0 0), (32, .d (eB y))], [.box (.d ((eL 2 eApiPair) r261)), .row 5 (List.map eApiTable y240) true, .box (.agg [.d (eS r262), .slc 3 7 0 r263.length none, .d ((eL 1 eI) r264), .slc 4 6 0 r265.length none, .d (eI r266)]), .row 7 (List.map eApiColumn r263) false, .row 6 (List.map eApiIndex r265) false]⟩) ?_ ?_))
   ·intro u4_269 h4
    refine SC.draws (by kernel_rfl) (t1 ([], false) (mv rfl) rfl (t1 ([], false) (nt rfl) rfl (t1 ([], false) (mv rfl) rfl (tp h4 (fun h4 => ?_) (fun h4 => ?_)))))
    ·have q := si h4; subst q
     refine jw rfl (jw rfl (jw rfl (jw rfl (jw rfl (jw rfl (jw rfl (jw rfl (jw rfl (jw rfl ?_)))))))))
     refine jw rfl (jw rfl (jw rfl (jw rfl (jw rfl (t1 ([], false) (pkt rfl rfl) rfl (ST.nil (And.intro (by decide +kernel) ?_)))))))
     exact (wc [0, 1, 5, 3, 4] [0, 1, 5] (by kernel_rfl) rfl (by kernel_rfl))
    ·refine u1 ([], false) (ww rfl) (mv rfl) rfl (u1 ([], false) (ww rfl) (len rfl rfl rfl (len_slc un45)) rfl (u1 ([], false) (ww rfl) (bi rfl rfl q_i64_gtr) rfl (u1 ([], false) (ww rfl) (mv rfl) rfl (tp h4 (fun h4 => ?_) (fun h4 => ?_)))))
     ·obtain ⟨v270, hv270, h4⟩ := ob h4; have q := si h4; subst q
      refine u1 ([], false) (ww rfl) (mv rfl) rfl (u1 ([], false) (ww rfl) (mv rfl) rfl (u1 ([], false) (ww rfl) (len rfl rfl rfl (len_slc un45)) rfl (u1 ([], false) (ww rfl) (bi rfl rfl q_i64_sub) rfl (u1 ([], false) (ww rfl) (iaz rfl rfl un45 ts53 (getI_lt hv270)) rfl (u1 ([], false) (ww rfl) (far (k := 0) rfl fo53_0 ts9 rfl) rfl (u1 ([1], false) (ww rfl) (lod rfl (ld_row ts9 ta9 rfl (map_get (getI_some hv270).2) rfl)) rfl (u1 ([], false) (ww rfl) (far (k := 0) rfl fo53_0 ts9 rfl) rfl (u1 ([5], false) (ww rfl) (lod rfl (ld_box ts9 ta9 rfl rfl)) rfl (u1 ([], false) (ww rfl) (bi rfl rfl q_str_geq) rfl ?_)))))))))
      refine u1 ([], false) (ww rfl) (pkt rfl rfl) rfl (t1 ([], false) (pkf rfl rfl) rfl (ST.nil (And.intro (by decide +kernel) ?_)))
      exact (wc [0, 1, 5, 3, 4] [0, 1, 5] (by kernel_rfl) rfl (by kernel_rfl))
     ·have q := si h4; subst q
      refine jw rfl (jw rfl (jw rfl (jw rfl (jw rfl (jw rfl (jw rfl (jw rfl (jw rfl (jw rfl ?_)))))))))
      refine u1 ([], false) (ww rfl) (pkf rfl rfl) rfl (t1 ([], false) (pkf rfl rfl) rfl (ST.nil (And.intro (by decide +kernel) ?_)))
      exact (wc [0, 1, 5, 3, 4] [0, 1, 5] (by kernel_rfl) rfl (by kernel_rfl))
   ·rintro y268 h3
    refine cB h3 rfl (fun h3 => ?_) (fun h3 => ?_)
    ·have q := si h3; subst q; have q : _ = _ := hv3; subst q; have q := si h1; subst q; have q := si h0; subst q
     exact sr (s1 (asg (v := .d .nils) rfl) (sa rfl (sn (SC.ret (finR (Wk.trans (Wk.env (e' := [(2, .d ((eL 5 eApiTable) ([] : List ApiTable))), (3, .d (eI (2 : Int)))]) (EW.cons (AW.nl _) (EW.cons (AW.refl _) EW.nil))) (wc (e' := [(2, .d ((eL 5 eApiTable) ([] : List ApiTable))), (3, .d (eI (2 : Int)))]) [] [] (by kernel_rfl) rfl (by kernel_rfl))) (lresT rfl (lresT rfl lresN)) rfl)))))
    ·obtain ⟨hg271, h3⟩ := gd h3; have q := si h3; subst q
     exact sk (SC.region (sm rfl (s1 (lod (v := .agg [.d (eS r262), .slc 3 7 0 r263.length none, .d ((eL 1 eI) r264), .slc 4 6 0 r265.length none, .d (eI r266)]) rfl (ld_box ts53 ta53 rfl rfl)) (SO.wk (Wk.frzs (i := 34) (x := .agg [.d (eS r262), .slc 3 7 0 r263.length none, .d ((eL 1 eI) r264), .slc 4 6 0 r265.length none, .d (eI r266)]) rfl rfl rfl (frzs_d rfl (frzs_slc (fF rfl rfl rfl) (frzs_d rfl (frzs_slc (fF rfl rfl rfl) (frzs_d rfl frzs_nil)))))) (s1 (bsn (k := 5) (ds := List.map eApiTable [(ApiTable.mk r262 r263 r264 r265 r266)]) (off := 0) (l' := [(ApiTable.mk r262 r263 r264 r265 r266)].length) rfl un45 ei53 rfl rfl (by rfl) rfl rfl rfl) (s1 (app rfl rfl rfl rfl bc45 (aF (f := eApiTable) (xs := y240) (k := 6) rfl un45 ei53 rfl (el_full (xs := [(ApiTable.mk r262 r263 r264 r265 r266)]) rfl) hg271 rfl)) (sa rfl (SO.nil (lf (wc [0, 6] [0, 6] (by kernel_rfl) rfl (by kernel_rfl)))))))))))
  ·have q := si h3; subst q; have q : _ = _ := hv3; subst q; have q := si h1; subst q
   exact SC.exit (lf (wc [1] [1] (by kernel_rfl) rfl (by kernel_rfl)))
 ·rintro y227 h0
  have q := si h0; subst q
  exact sr (sm rfl (sa rfl (sa rfl (sn (SC.ret (finR (Wk.trans (Wk.frz (i := 2) (x := .slc 0 5 0 y227.length none) rfl rfl (fF rfl rfl rfl)) (wc (e' := [(2, .d ((eL 5 eApiTable) y227)), (3, .d (eI (0 : Int)))]) [] [] (by kernel_rfl) rfl (by kernel_rfl))) (lresT rfl (lresT rfl lresN)) rfl))))))
end Lv
