/- Part of the proof of a law: functions and their walks. -/
import Derived.Test.YtjnpmmiacggffaaGreatDoorXFn2
namespace Lv
open Go Go.Proofs
set_option linter.unusedVariables false
set_option linter.unusedSimpArgs false
set_option linter.unusedSectionVars false
set_option maxRecDepth 100000
variable [BaseTab] [TabOk]
noncomputable def pred_Node_either (p0 : PredNode) (p1 : List Bool) (p2 : Nat) (p3 : Nat) (p4 : List ApiValue) : Option Bool :=
 Option.bind (α := Bool)
 (Option.bind (getS p1 p2 p3 (0 : Int)) fun v18 =>
 bif v18 then
 some true
 else
 Option.bind (getS p1 p2 p3 (1 : Int)) fun v19 =>
 some v19)
 fun y16 =>
 some y16
theorem pred_Node_either_ok (p0 : PredNode) (p1 : List Bool) (p2 : Nat) (p3 : Nat) (p4 : List ApiValue) (r : Bool) (h0 : pred_Node_either p0 p1 p2 p3 p4 = some r) : CallAt Tryz.prog 98 [.d (ePredNode p0), .slc 0 1 p2 p3 none, .d ((eL 3 eApiValue) p4)] [.row 1 (List.map eB p1) true] (.d (eB r)) [.row 1 (List.map eB p1) true] := by
 unfold pred_Node_either at h0
 refine fn0 [0, 1, 2] Tryz.func98 rfl rfl rfl rfl rfl ?_
 refine sr (s1 (bxo (k := 1) rfl rfl rfl) (sa rfl (sn (SC.seqP h0 (fun y => ⟨mk 15 [(6, .d (eB y))], [.row 1 (List.map eB p1) true]⟩) ?_ ?_))))
 ·intro u1_17 h1
  obtain ⟨v18, hv18, h1⟩ := ob h1
  refine SC.region (sm rfl (s1 (ias rfl rfl un57 ts4 (getS_some hv18).1) (s1 (lod rfl (ld_row ts4 ta4 rfl (map_get (getS_some hv18).2) rfl)) (sm rfl (sp h1 (fun h1 => ?_) (fun h1 => ?_))))))
  ·have q := si h1; subst q
   exact kw rfl (kw rfl (kw rfl (s1 (pkt rfl rfl) (sa rfl (SO.nil ((wc [0] [0] (by kernel_rfl) rfl (by kernel_rfl))))))))
  ·obtain ⟨v19, hv19, h1⟩ := ob h1; have q := si h1; subst q
   exact gw rfl (mv rfl) (gw rfl (ias rfl rfl un57 ts4 (getS_some hv19).1) (gw rfl (lod rfl (ld_row ts4 ta4 rfl (map_get (getS_some hv19).2) rfl)) (s1 (pkf rfl rfl) (sa rfl (SO.nil ((wc [0] [0] (by kernel_rfl) rfl (by kernel_rfl))))))))
 ·rintro y16 h0
  have q := si h0; subst q
  exact SC.ret (finR (Wk.refl _) (lresT rfl lresN) rfl)
noncomputable def pred_Node_both (p0 : PredNode) (p1 : List Bool) (p2 : Nat) (p3 : Nat) (p4 : List ApiValue) : Option Bool :=
 Option.bind (α := Bool)
 (Option.bind (getS p1 p2 p3 (0 : Int)) fun v18 =>
 bif v18 then
 Option.bind (getS p1 p2 p3 (1 : Int)) fun v19 =>
 some v19
 else
 some false)
 fun y16 =>
 some y16
theorem pred_Node_both_ok (p0 : PredNode) (p1 : List Bool) (p2 : Nat) (p3 : Nat) (p4 : List ApiValue) (r : Bool) (h0 : pred_Node_both p0 p1 p2 p3 p4 = some r) : CallAt Tryz.prog 97 [.d (ePredNode p0), .slc 0 1 p2 p3 none, .d ((eL 3 eApiValue) p4)] [.row 1 (List.map eB p1) true] (.d (eB r)) [.row 1 (List.map eB p1) true] := by
 unfold pred_Node_both at h0
 refine fn0 [0, 1, 2] Tryz.func97 rfl rfl rfl rfl rfl ?_
 refine sr (s1 (bxo (k := 1) rfl rfl rfl) (sa rfl (sn (SC.seqP h0 (fun y => ⟨mk 15 [(6, .d (eB y))], [.row 1 (List.map eB p1) true]⟩) ?_ ?_))))
 ·intro u1_17 h1
  obtain ⟨v18, hv18, h1⟩ := ob h1
  refine SC.region (sm rfl (s1 (ias rfl rfl un57 ts4 (getS_some hv18).1) (s1 (lod rfl (ld_row ts4 ta4 rfl (map_get (getS_some hv18).2) rfl)) (sm rfl (sp h1 (fun h1 => ?_) (fun h1 => ?_))))))
  ·obtain ⟨v19, hv19, h1⟩ := ob h1; have q := si h1; subst q
   exact gw rfl (mv rfl) (gw rfl (ias rfl rfl un57 ts4 (getS_some hv19).1) (gw rfl (lod rfl (ld_row ts4 ta4 rfl (map_get (getS_some hv19).2) rfl)) (s1 (pkt rfl rfl) (sa rfl (SO.nil ((wc [0] [0] (by kernel_rfl) rfl (by kernel_rfl))))))))
  ·have q := si h1; subst q
   exact kw rfl (kw rfl (kw rfl (s1 (pkf rfl rfl) (sa rfl (SO.nil ((wc [0] [0] (by kernel_rfl) rfl (by kernel_rfl))))))))
 ·rintro y16 h0
  have q := si h0; subst q
  exact SC.ret (finR (Wk.refl _) (lresT rfl lresN) rfl)
noncomputable def pred_Node_null_1 (p0 : PredNode) (p1 : List Bool) (p2 : Nat) (p3 : Nat) (p4 : List ApiValue) : Option Bool :=
 Option.bind (getI p4 p0.Col) fun v4 =>
 some (v4.Kind == (0 : Int))
theorem pred_Node_null_1_ok (p0 : PredNode) (p1 : List Bool) (p2 : Nat) (p3 : Nat) (p4 : List ApiValue) (r : Bool) (h0 : pred_Node_null_1 p0 p1 p2 p3 p4 = some r) : CallAt Tryz.prog 96 [.d (ePredNode p0), .slc 0 1 p2 p3 none, .d ((eL 3 eApiValue) p4)] [.row 1 (List.map eB p1) true] (.d (eB r)) [.row 1 (List.map eB p1) true] := by
 unfold pred_Node_null_1 at h0
 refine fn0 [0, 1, 2] Tryz.func96 rfl rfl rfl rfl rfl ?_
 obtain ⟨v4, hv4, h0⟩ := ob h0; have q := si h0; subst q
 refine sr (s1 (bxo (k := 1) rfl rfl rfl) (sa rfl (sn (sr (sm rfl (s1 (far (k := 1) rfl fo80_1 ts3 rfl) (s1 (lod rfl (ld_box ts3 ta3 rfl rfl)) (s1 (ial rfl rfl un61 ts74 (getI_some hv4).1 (map_get (getI_some hv4).2) rfl) (s1 (fap rfl fo74_0 ts3 rfl) ?_)))))))))
 exact s1 (lod rfl (ld_rop ts3 ta3 rfl)) (s1 (bi rfl rfl q_i64_eql) (sa rfl (sn (SC.ret (finR (wc (e' := [(6, .d (eB (v4.Kind == (0 : Int))))]) [0] [0] (by kernel_rfl) rfl (by kernel_rfl)) (lresT rfl lresN) rfl)))))
noncomputable def pred_Node_cmp_1 (p0 : PredNode) (p1 : List Bool) (p2 : Nat) (p3 : Nat) (p4 : List ApiValue) : Option Bool :=
 Option.bind (getI p4 p0.Col) fun v8 =>
 Option.bind (pred_Node_compares p0 v8) fun r10 =>
 some r10
theorem pred_Node_cmp_1_ok (p0 : PredNode) (p1 : List Bool) (p2 : Nat) (p3 : Nat) (p4 : List ApiValue) (r : Bool) (h0 : pred_Node_cmp_1 p0 p1 p2 p3 p4 = some r) : CallAt Tryz.prog 95 [.d (ePredNode p0), .slc 0 1 p2 p3 none, .d ((eL 3 eApiValue) p4)] [.row 1 (List.map eB p1) true] (.d (eB r)) [.row 1 (List.map eB p1) true] := by
 unfold pred_Node_cmp_1 at h0
 refine fn0 [0, 1, 2] Tryz.func95 rfl rfl rfl rfl rfl ?_
 obtain ⟨v8, hv8, h0⟩ := ob h0; obtain ⟨r10, hq9, h0⟩ := ob h0; have q := si h0; subst q
 refine sr (s1 (bxo (k := 1) rfl rfl rfl) (sa rfl (sn (sd (by kernel_rfl) (t1 ([1], false) (lod (v := .d (ePredNode p0)) rfl (ld_box ts80 ta80 rfl rfl)) rfl (t1 ([], false) (mv rfl) rfl (t1 ([], false) (far (k := 1) rfl fo80_1 ts3 rfl) rfl (t1 ([1], false) (lod rfl (ld_box ts3 ta3 rfl rfl)) rfl (t1 ([], false) (ial rfl rfl un61 ts74 (getI_some hv8).1 (map_get (getI_some hv8).2) rfl) rfl ?_)))))))))
 exact t1 ([], false) (lod (v := .d (eApiValue v8)) rfl (ld_rop ts74 ta74 rfl)) rfl (tc0 (pred_Node_compares_ok p0 v8 _ hq9) wf rfl rfl rfl cb124 rfl (fun _ => rfl) (fun _ => rfl) (t1 ([], false) (asg rfl) rfl (tn (by decide +kernel) (SC.ret (finR (wc (e' := [(6, .d (eB r10))]) [0] [0] (by kernel_rfl) rfl (by kernel_rfl)) (lresT rfl lresN) rfl)))))
noncomputable def pred_Node_yes_1 (p0 : PredNode) (p1 : List Bool) (p2 : Nat) (p3 : Nat) (p4 : List ApiValue) : Option Unit :=
 some ()
theorem pred_Node_yes_1_ok (p0 : PredNode) (p1 : List Bool) (p2 : Nat) (p3 : Nat) (p4 : List ApiValue) (r : Unit) (h0 : pred_Node_yes_1 p0 p1 p2 p3 p4 = some r) : CallAt Tryz.prog 94 [.d (ePredNode p0), .slc 0 1 p2 p3 none, .d ((eL 3 eApiValue) p4)] [.row 1 (List.map eB p1) true] (.d (eB true)) [.row 1 (List.map eB p1) true] := by
 unfold pred_Node_yes_1 at h0
 refine fn0 [0, 1, 2] Tryz.func94 rfl rfl rfl rfl rfl ?_
 have q := si h0; subst q
 exact sr (s1 (bxo (k := 1) rfl rfl rfl) (sa rfl (sn (sr (sa rfl (sn (SC.ret (finR (wc (e' := [(6, .d (eB true))]) [0] [0] (by kernel_rfl) rfl (by kernel_rfl)) (lresT rfl lresN) rfl))))))))
noncomputable def pred_Eval (p0 : List PredNode) (p1 : List ApiValue) : Option Bool :=
 Option.bind pred_workers fun _ =>
 Option.bind (α := (List Bool))
 (Option.bind (α := (List Bool))
 (loop (Y := (List Bool) × Int) (W := (List Bool)) (fun (y486, y487) =>
 bif (decide (y487 < (p0.length : Int))) then
 Option.bind (getI p0 y487) fun v525 =>
 Option.bind (pred_Node_takes v525) fun r527 =>
 bif decide (0 ≤ (w64 ((y486.length : Int) - r527)) ∧ (w64 ((y486.length : Int) - r527)) ≤ (y486.length : Int)) then
 bif (v525.Kind == (1 : Int)) then
 bif decide (0 ≤ (w64 ((y486.length : Int) - r527)) ∧ (w64 ((y486.length : Int) - r527)) ≤ (y486.length : Int)) then
 Option.bind (pred_Node_yes_1 v525 y486 (0 + (w64 ((y486.length : Int) - r527)).toNat) (y486.length - (w64 ((y486.length : Int) - r527)).toNat) p1) fun _ =>
 bif decide (0 + ((w64 ((y486.length : Int) - r527)).toNat) ≤ y486.length) then
 bif decide ((((w64 ((y486.length : Int) - r527)).toNat) + [true].length) * 1 ≤ room) then
 some (Sum.inl ((List.take ((w64 ((y486.length : Int) - r527)).toNat) (List.drop 0 y486) ++ [true]), (w64 (y487 + (1 : Int)))))
 else none
 else none
 else none
 else
 bif (v525.Kind == (2 : Int)) then
 bif decide (0 ≤ (w64 ((y486.length : Int) - r527)) ∧ (w64 ((y486.length : Int) - r527)) ≤ (y486.length : Int)) then
 Option.bind (pred_Node_cmp_1 v525 y486 (0 + (w64 ((y486.length : Int) - r527)).toNat) (y486.length - (w64 ((y486.length : Int) - r527)).toNat) p1) fun r551 =>
 bif decide (0 + ((w64 ((y486.length : Int) - r527)).toNat) ≤ y486.length) then
 bif decide ((((w64 ((y486.length : Int) - r527)).toNat) + [r551].length) * 1 ≤ room) then
 some (Sum.inl ((List.take ((w64 ((y486.length : Int) - r527)).toNat) (List.drop 0 y486) ++ [r551]), (w64 (y487 + (1 : Int)))))
 else none
 else none
 else none
 else
 bif (v525.Kind == (3 : Int)) then
 bif decide (0 ≤ (w64 ((y486.length : Int) - r527)) ∧ (w64 ((y486.length : Int) - r527)) ≤ (y486.length : Int)) then
 Option.bind (pred_Node_null_1 v525 y486 (0 + (w64 ((y486.length : Int) - r527)).toNat) (y486.length - (w64 ((y486.length : Int) - r527)).toNat) p1) fun r546 =>
 bif decide (0 + ((w64 ((y486.length : Int) - r527)).toNat) ≤ y486.length) then
 bif decide ((((w64 ((y486.length : Int) - r527)).toNat) + [r546].length) * 1 ≤ room) then
 some (Sum.inl ((List.take ((w64 ((y486.length : Int) - r527)).toNat) (List.drop 0 y486) ++ [r546]), (w64 (y487 + (1 : Int)))))
 else none
 else none
 else none
 else
 bif (v525.Kind == (4 : Int)) then
 bif decide (0 ≤ (w64 ((y486.length : Int) - r527)) ∧ (w64 ((y486.length : Int) - r527)) ≤ (y486.length : Int)) then
 Option.bind (pred_Node_both v525 y486 (0 + (w64 ((y486.length : Int) - r527)).toNat) (y486.length - (w64 ((y486.length : Int) - r527)).toNat) p1) fun r541 =>
 bif decide (0 + ((w64 ((y486.length : Int) - r527)).toNat) ≤ y486.length) then
 bif decide ((((w64 ((y486.length : Int) - r527)).toNat) + [r541].length) * 1 ≤ room) then
 some (Sum.inl ((List.take ((w64 ((y486.length : Int) - r527)).toNat) (List.drop 0 y486) ++ [r541]), (w64 (y487 + (1 : Int)))))
 else none
 else none
 else none
 else
 bif (v525.Kind == (5 : Int)) then
 bif decide (0 ≤ (w64 ((y486.length : Int) - r527)) ∧ (w64 ((y486.length : Int) - r527)) ≤ (y486.length : Int)) then
 Option.bind (pred_Node_either v525 y486 (0 + (w64 ((y486.length : Int) - r527)).toNat) (y486.length - (w64 ((y486.length : Int) - r527)).toNat) p1) fun r536 =>
 bif decide (0 + ((w64 ((y486.length : Int) - r527)).toNat) ≤ y486.length) then
 bif decide ((((w64 ((y486.length : Int) - r527)).toNat) + [r536].length) * 1 ≤ room) then
 some (Sum.inl ((List.take ((w64 ((y486.length : Int) - r527)).toNat) (List.drop 0 y486) ++ [r536]), (w64 (y487 + (1 : Int)))))
 else none
 else none
 else none
 else
 bif (v525.Kind == (6 : Int)) then
 bif decide (0 ≤ (w64 ((y486.length : Int) - r527)) ∧ (w64 ((y486.length : Int) - r527)) ≤ (y486.length : Int)) then
 Option.bind (pred_Node_turn v525 y486 (0 + (w64 ((y486.length : Int) - r527)).toNat) (y486.length - (w64 ((y486.length : Int) - r527)).toNat) p1) fun r531 =>
 bif decide (0 + ((w64 ((y486.length : Int) - r527)).toNat) ≤ y486.length) then
 bif decide ((((w64 ((y486.length : Int) - r527)).toNat) + [r531].length) * 1 ≤ room) then
 some (Sum.inl ((List.take ((w64 ((y486.length : Int) - r527)).toNat) (List.drop 0 y486) ++ [r531]), (w64 (y487 + (1 : Int)))))
 else none
 else none
 else none
 else
 none
 else none
 else
 some (Sum.inr y486)) (([] : List Bool), (0 : Int)))
 (fun e => some e))
 fun y466 =>
 Option.bind (getI y466 (0 : Int)) fun v559 =>
 some v559
theorem pred_Eval_ok (p0 : List PredNode) (p1 : List ApiValue) (r : Bool) (h0 : pred_Eval p0 p1 = some r) : CallAt Tryz.prog 22 [.d ((eL 6 ePredNode) p0), .d ((eL 3 eApiValue) p1)] [] (.d (eB r)) [] := by
 unfold pred_Eval at h0
 refine fn0 [0, 1] Tryz.func22 rfl rfl rfl rfl rfl ?_
 obtain ⟨_, hq374, h0⟩ := ob h0
 refine sr (sa rfl (sn (sr (cq [] [0] (pred_workers_ok _ hq374) wf rfl rfl rfl cb56 rfl rfl rfl rfl rfl rfl rfl rfl (s1 (alo (k := 1) zo117 rfl) (s0 (sto rfl rfl (sB (d' := .agg [.d .nilf, .fn (.func 94) [] [], .fn (.func 95) [] [], .fn (.func 96) [] [], .fn (.func 97) [] [], .fn (.func 98) [] [], .fn (.func 99) [] []]) ts117 rfl rfl rfl rfl rfl rfl rfl)) (sn (sr (s1 (asg (v := .d .nils) rfl) ?_)))))))))
 refine sn (SC.seqP h0 (fun y => ⟨mk 41 [(6, .slc 0 1 0 y.length none)], [.row 1 (List.map eB y) true]⟩) ?_ ?_)
 ·intro u1_467 h1
  obtain ⟨u2_524, h2, h1⟩ := ob h1
  refine sr (sm rfl (s1 (len rfl rfl rfl (len_lst un27)) (sm rfl (sn (SC.blk (SC.loopB h2 (fun y => ⟨mk 41 [(1, .d ((eL 3 eApiValue) p1)), (5, .ref 0 0 0), (6, .slc 1 1 0 y.1.length none), (11, .d ((eL 6 ePredNode) p0)), (12, .d (eI (p0.length : Int))), (13, .d (eI y.2))], [.box (.agg [.d .nilf, .fn (.func 94) [] [], .fn (.func 95) [] [], .fn (.func 96) [] [], .fn (.func 97) [] [], .fn (.func 98) [] [], .fn (.func 99) [] []]), .row 1 (List.map eB y.1) true]⟩) (Wk.trans (Wk.pushE (σ' := [.box (.agg [.d .nilf, .fn (.func 94) [] [], .fn (.func 95) [] [], .fn (.func 96) [] [], .fn (.func 97) [] [], .fn (.func 98) [] [], .fn (.func 99) [] []]), .box (.agg [.d .nilf, .fn (.func 94) [] [], .fn (.func 95) [] [], .fn (.func 96) [] [], .fn (.func 97) [] [], .fn (.func 98) [] [], .fn (.func 99) [] []]), .row 1 (List.map eB ([] : List Bool)) true]) (.row 1 [] true) (fun _ hh => by cases hh) rfl) (Wk.trans (Wk.env (e' := [(1, .d ((eL 3 eApiValue) p1)), (5, .ref 1 0 0), (6, .slc 2 1 0 (([] : List Bool).length) none), (11, .d ((eL 6 ePredNode) p0)), (12, .d (eI (p0.length : Int))), (13, .d (eI (0 : Int)))]) (EW.cons (AW.refl _) (EW.cons (AW.refl _) (EW.cons (AW.slcn _ _ _) (EW.cons (AW.refl _) (EW.cons (AW.refl _) (EW.cons (AW.refl _) EW.nil))))))) (wc [1, 2] [1, 2] (by kernel_rfl) rfl (by kernel_rfl)))) ?_))))))
  intro n558
  rintro ⟨y486, y487⟩ w2_523 h3 hv3
  refine sr (s1 (bi rfl rfl q_i64_lss) (sn (sq (cB h3 rfl (fun h3 => ?_) (fun h3 => ?_)))))
  ·obtain ⟨v525, hv525, h3⟩ := ob h3; obtain ⟨r527, hq526, h3⟩ := ob h3; obtain ⟨hg528, h3⟩ := gd h3
   refine sk (sq (SC.blk (sr (s1 (ial rfl rfl un27 ts80 (getI_some hv525).1 (map_get (getI_some hv525).2) rfl) (s1 (lod (v := .d (ePredNode v525)) rfl (ld_rop ts80 ta80 rfl)) (s1 (alo (k := 2) zo80 rfl) (s0 (sto rfl rfl (sB (d' := .d (ePredNode v525)) ts80 rfl rfl rfl rfl rfl rfl rfl)) (sn (sr ?_)))))))))
   refine sm rfl (s1 (len rfl rfl rfl (len_slc un57)) (s1 (lod (v := .d (ePredNode v525)) rfl (ld_box ts80 ta80 rfl rfl)) (c0 (pred_Node_takes_ok v525 _ hq526) wf rfl rfl rfl cb57 rfl (fun _ => rfl) (fun _ => rfl) (s1 (bi rfl rfl q_i64_sub) (sa rfl (sn (SC.draws (by kernel_rfl) (t1 ([], false) (mv rfl) rfl (t1 ([], false) (mv rfl) rfl ?_)))))))))
   refine t1 ([], false) (slo rfl rfl rfl rfl (sl_slc_hi un57 ts4 hg528)) rfl (t1 ([], false) (far (k := 0) rfl fo80_0 ts3 rfl) rfl (t1 ([2], false) (lod rfl (ld_box ts3 ta3 rfl rfl)) rfl (tE h3 (fun hb h3 => ?_) (fun h3 => ?_))))
   ·obtain ⟨hg554, h3⟩ := gd h3; obtain ⟨_, hq555, h3⟩ := ob h3; obtain ⟨hg557, h3⟩ := gd h3; obtain ⟨hg556, h3⟩ := gd h3
    refine t1 ([], false) (iar (off' := 1) 1 rfl rfl un117 ts116 (eq_of_beq hb) rfl rfl) rfl (t1 ([0], false) (lod rfl (ld_box ts116 ta116 rfl rfl)) rfl (t1 ([2], false) (lod (v := .d (ePredNode v525)) rfl (ld_box ts80 ta80 rfl rfl)) rfl (t1 ([], false) (mv rfl) rfl (t1 ([], false) (mv rfl) rfl (t1 ([], false) (slo rfl rfl rfl rfl (sl_slc_lo un57 ts4 hg554)) rfl (t1 ([], false) (mv rfl) rfl (tqr [1] [1] (pred_Node_yes_1_ok v525 y486 (0 + (w64 ((y486.length : Int) - r527)).toNat) (y486.length - (w64 ((y486.length : Int) - r527)).toNat) p1 _ hq555) wf rfl rfl rfl cb94 rfl rfl rfl rfl rfl rfl rfl rfl (t1 ([3], true) (bsn (k := 3) (ds := List.map eB [true]) (off := 0) (l' := [true].length) rfl un57 ei4 rfl rfl (by rfl) rfl rfl rfl) rfl (t1 ([1, 3, 4], true) (app rfl rfl rfl rfl bc57 (aS (f := eB) (xs := y486) (k := 4) un57 ei4 rfl hg557 (el_full (xs := [true]) rfl) hg556 rfl)) rfl ?_)))))))))
    refine t1 ([], false) (asg rfl) rfl (ST.nil (And.intro (by decide +kernel) ?_))
    change SC _ _ _ _ _
    have q := si h3; subst q
    exact SC.region (s1 (bi rfl rfl q_i64_add) (sm rfl (SO.nil (lf (wc [0, 4] [0, 4] (by kernel_rfl) rfl (by kernel_rfl))))))
   ·refine tE h3 (fun hb h3 => ?_) (fun h3 => ?_)
    ·obtain ⟨hg549, h3⟩ := gd h3; obtain ⟨r551, hq550, h3⟩ := ob h3; obtain ⟨hg553, h3⟩ := gd h3; obtain ⟨hg552, h3⟩ := gd h3
     refine t1 ([], false) (iar (off' := 2) 2 rfl rfl un117 ts116 (eq_of_beq hb) rfl rfl) rfl (t1 ([0], false) (lod rfl (ld_box ts116 ta116 rfl rfl)) rfl (t1 ([2], false) (lod (v := .d (ePredNode v525)) rfl (ld_box ts80 ta80 rfl rfl)) rfl (t1 ([], false) (mv rfl) rfl (t1 ([], false) (mv rfl) rfl (t1 ([], false) (slo rfl rfl rfl rfl (sl_slc_lo un57 ts4 hg549)) rfl (t1 ([], false) (mv rfl) rfl (tqr [1] [1] (pred_Node_cmp_1_ok v525 y486 (0 + (w64 ((y486.length : Int) - r527)).toNat) (y486.length - (w64 ((y486.length : Int) - r527)).toNat) p1 _ hq550) wf rfl rfl rfl cb95 rfl rfl rfl rfl rfl rfl rfl rfl (t1 ([3], true) (bsn (k := 3) (ds := List.map eB [r551]) (off := 0) (l' := [r551].length) rfl un57 ei4 rfl rfl (by rfl) rfl rfl rfl) rfl (t1 ([1, 3, 4], true) (app rfl rfl rfl rfl bc57 (aS (f := eB) (xs := y486) (k := 4) un57 ei4 rfl hg553 (el_full (xs := [r551]) rfl) hg552 rfl)) rfl ?_)))))))))
     refine t1 ([], false) (asg rfl) rfl (ST.nil (And.intro (by decide +kernel) ?_))
     change SC _ _ _ _ _
     have q := si h3; subst q
     exact SC.region (s1 (bi rfl rfl q_i64_add) (sm rfl (SO.nil (lf (wc [0, 4] [0, 4] (by kernel_rfl) rfl (by kernel_rfl))))))
    ·refine tE h3 (fun hb h3 => ?_) (fun h3 => ?_)
     ·obtain ⟨hg544, h3⟩ := gd h3; obtain ⟨r546, hq545, h3⟩ := ob h3; obtain ⟨hg548, h3⟩ := gd h3; obtain ⟨hg547, h3⟩ := gd h3
      refine t1 ([], false) (iar (off' := 3) 3 rfl rfl un117 ts116 (eq_of_beq hb) rfl rfl) rfl (t1 ([0], false) (lod rfl (ld_box ts116 ta116 rfl rfl)) rfl (t1 ([2], false) (lod (v := .d (ePredNode v525)) rfl (ld_box ts80 ta80 rfl rfl)) rfl (t1 ([], false) (mv rfl) rfl (t1 ([], false) (mv rfl) rfl (t1 ([], false) (slo rfl rfl rfl rfl (sl_slc_lo un57 ts4 hg544)) rfl (t1 ([], false) (mv rfl) rfl (tqr [1] [1] (pred_Node_null_1_ok v525 y486 (0 + (w64 ((y486.length : Int) - r527)).toNat) (y486.length - (w64 ((y486.length : Int) - r527)).toNat) p1 _ hq545) wf rfl rfl rfl cb96 rfl rfl rfl rfl rfl rfl rfl rfl (t1 ([3], true) (bsn (k := 3) (ds := List.map eB [r546]) (off := 0) (l' := [r546].length) rfl un57 ei4 rfl rfl (by rfl) rfl rfl rfl) rfl (t1 ([1, 3, 4], true) (app rfl rfl rfl rfl bc57 (aS (f := eB) (xs := y486) (k := 4) un57 ei4 rfl hg548 (el_full (xs := [r546]) rfl) hg547 rfl)) rfl ?_)))))))))
      refine t1 ([], false) (asg rfl) rfl (ST.nil (And.intro (by decide +kernel) ?_))
      change SC _ _ _ _ _
      have q := si h3; subst q
      exact SC.region (s1 (bi rfl rfl q_i64_add) (sm rfl (SO.nil (lf (wc [0, 4] [0, 4] (by kernel_rfl) rfl (by kernel_rfl))))))
     ·refine tE h3 (fun hb h3 => ?_) (fun h3 => ?_)
      ·obtain ⟨hg539, h3⟩ := gd h3; obtain ⟨r541, hq540, h3⟩ := ob h3; obtain ⟨hg543, h3⟩ := gd h3; obtain ⟨hg542, h3⟩ := gd h3
       refine t1 ([], false) (iar (off' := 4) 4 rfl rfl un117 ts116 (eq_of_beq hb) rfl rfl) rfl (t1 ([0], false) (lod rfl (ld_box ts116 ta116 rfl rfl)) rfl (t1 ([2], false) (lod (v := .d (ePredNode v525)) rfl (ld_box ts80 ta80 rfl rfl)) rfl (t1 ([], false) (mv rfl) rfl (t1 ([], false) (mv rfl) rfl (t1 ([], false) (slo rfl rfl rfl rfl (sl_slc_lo un57 ts4 hg539)) rfl (t1 ([], false) (mv rfl) rfl (tqr [1] [1] (pred_Node_both_ok v525 y486 (0 + (w64 ((y486.length : Int) - r527)).toNat) (y486.length - (w64 ((y486.length : Int) - r527)).toNat) p1 _ hq540) wf rfl rfl rfl cb97 rfl rfl rfl rfl rfl rfl rfl rfl (t1 ([3], true) (bsn (k := 3) (ds := List.map eB [r541]) (off := 0) (l' := [r541].length) rfl un57 ei4 rfl rfl (by rfl) rfl rfl rfl) rfl (t1 ([1, 3, 4], true) (app rfl rfl rfl rfl bc57 (aS (f := eB) (xs := y486) (k := 4) un57 ei4 rfl hg543 (el_full (xs := [r541]) rfl) hg542 rfl)) rfl ?_)))))))))
       refine t1 ([], false) (asg rfl) rfl (ST.nil (And.intro (by decide +kernel) ?_))
       change SC _ _ _ _ _
       have q := si h3; subst q
       exact SC.region (s1 (bi rfl rfl q_i64_add) (sm rfl (SO.nil (lf (wc [0, 4] [0, 4] (by kernel_rfl) rfl (by kernel_rfl))))))
      ·refine tE h3 (fun hb h3 => ?_) (fun h3 => ?_)
       ·obtain ⟨hg534, h3⟩ := gd h3; obtain ⟨r536, hq535, h3⟩ := ob h3; obtain ⟨hg538, h3⟩ := gd h3; obtain ⟨hg537, h3⟩ := gd h3
        refine t1 ([], false) (iar (off' := 5) 5 rfl rfl un117 ts116 (eq_of_beq hb) rfl rfl) rfl (t1 ([0], false) (lod rfl (ld_box ts116 ta116 rfl rfl)) rfl (t1 ([2], false) (lod (v := .d (ePredNode v525)) rfl (ld_box ts80 ta80 rfl rfl)) rfl (t1 ([], false) (mv rfl) rfl (t1 ([], false) (mv rfl) rfl (t1 ([], false) (slo rfl rfl rfl rfl (sl_slc_lo un57 ts4 hg534)) rfl (t1 ([], false) (mv rfl) rfl (tqr [1] [1] (pred_Node_either_ok v525 y486 (0 + (w64 ((y486.length : Int) - r527)).toNat) (y486.length - (w64 ((y486.length : Int) - r527)).toNat) p1 _ hq535) wf rfl rfl rfl cb98 rfl rfl rfl rfl rfl rfl rfl rfl (t1 ([3], true) (bsn (k := 3) (ds := List.map eB [r536]) (off := 0) (l' := [r536].length) rfl un57 ei4 rfl rfl (by rfl) rfl rfl rfl) rfl (t1 ([1, 3, 4], true) (app rfl rfl rfl rfl bc57 (aS (f := eB) (xs := y486) (k := 4) un57 ei4 rfl hg538 (el_full (xs := [r536]) rfl) hg537 rfl)) rfl ?_)))))))))
        refine t1 ([], false) (asg rfl) rfl (ST.nil (And.intro (by decide +kernel) ?_))
        change SC _ _ _ _ _
        have q := si h3; subst q
        exact SC.region (s1 (bi rfl rfl q_i64_add) (sm rfl (SO.nil (lf (wc [0, 4] [0, 4] (by kernel_rfl) rfl (by kernel_rfl))))))
       ·refine tE h3 (fun hb h3 => ?_) (fun h3 => ?_)
        ·obtain ⟨hg529, h3⟩ := gd h3; obtain ⟨r531, hq530, h3⟩ := ob h3; obtain ⟨hg533, h3⟩ := gd h3; obtain ⟨hg532, h3⟩ := gd h3
         refine t1 ([], false) (iar (off' := 6) 6 rfl rfl un117 ts116 (eq_of_beq hb) rfl rfl) rfl (t1 ([0], false) (lod rfl (ld_box ts116 ta116 rfl rfl)) rfl (t1 ([2], false) (lod (v := .d (ePredNode v525)) rfl (ld_box ts80 ta80 rfl rfl)) rfl (t1 ([], false) (mv rfl) rfl (t1 ([], false) (mv rfl) rfl (t1 ([], false) (slo rfl rfl rfl rfl (sl_slc_lo un57 ts4 hg529)) rfl (t1 ([], false) (mv rfl) rfl (tqr [1] [1] (pred_Node_turn_ok v525 y486 (0 + (w64 ((y486.length : Int) - r527)).toNat) (y486.length - (w64 ((y486.length : Int) - r527)).toNat) p1 _ hq530) wf rfl rfl rfl cb99 rfl rfl rfl rfl rfl rfl rfl rfl (t1 ([3], true) (bsn (k := 3) (ds := List.map eB [r531]) (off := 0) (l' := [r531].length) rfl un57 ei4 rfl rfl (by rfl) rfl rfl rfl) rfl (t1 ([1, 3, 4], true) (app rfl rfl rfl rfl bc57 (aS (f := eB) (xs := y486) (k := 4) un57 ei4 rfl hg533 (el_full (xs := [r531]) rfl) hg532 rfl)) rfl ?_)))))))))
         refine t1 ([], false) (asg rfl) rfl (ST.nil (And.intro (by decide +kernel) ?_))
         change SC _ _ _ _ _
         have q := si h3; subst q
         exact SC.region (s1 (bi rfl rfl q_i64_add) (sm rfl (SO.nil (lf (wc [0, 4] [0, 4] (by kernel_rfl) rfl (by kernel_rfl))))))
        ·cases h3
  ·have q := si h3; subst q; have q : _ = _ := hv3; subst q; have q := si h1; subst q
   exact SC.exit ((wc [1] [1] (by kernel_rfl) rfl (by kernel_rfl)))
 ·rintro y466 h0
  obtain ⟨v559, hv559, h0⟩ := ob h0; have q := si h0; subst q
  exact sr (sm rfl (s1 (iaz rfl rfl un57 ts4 (getI_lt hv559)) (s1 (lod rfl (ld_row ts4 ta4 rfl (map_get (getI_some hv559).2) rfl)) (sa rfl (sn (SC.ret (finR (wc (e' := [(4, .d (eB v559))]) [] [] (by kernel_rfl) rfl (by kernel_rfl)) (lresT rfl lresN) rfl)))))))
noncomputable def schema_up (p0 : List Int) : Option ((List ApiPart)) :=
 Option.bind (α := (List ApiPart))
 (Option.bind (α := (List ApiPart))
 (loop (Y := (List ApiPart) × Int) (W := (List ApiPart)) (fun (y75, y76) =>
 bif (decide (y76 < (p0.length : Int))) then
 Option.bind (getI p0 y76) fun v83 =>
 bif decide ((y75.length + [(ApiPart.mk v83 false)].length) * 16 ≤ room) then
 some (Sum.inl ((y75 ++ [(ApiPart.mk v83 false)]), (w64 (y76 + (1 : Int)))))
 else none
 else
 some (Sum.inr y75)) (([] : List ApiPart), (0 : Int)))
 (fun e => some e))
 fun y71 =>
 some y71
theorem schema_up_ok (p0 : List Int) (r : (List ApiPart)) (h0 : schema_up p0 = some r) : CallAt Tryz.prog 59 [.d ((eL 1 eI) p0)] [] (.d ((eL 2 eApiPart) r)) [] := by
 unfold schema_up at h0
 refine fn0 [0] Tryz.func59 rfl rfl rfl rfl rfl ?_
 refine sr (s1 (asg (v := .d .nils) rfl) (sn (sr (s1 (asg (v := .d .nils) rfl) (sn (SC.seqP h0 (fun y => ⟨mk 19 [(3, .slc 0 2 0 y.length none)], [.row 2 (List.map eApiPart y) true]⟩) ?_ ?_))))))
 ·intro u1_72 h1
  obtain ⟨u2_82, h2, h1⟩ := ob h1
  refine sr (sm rfl (s1 (len rfl rfl rfl (len_lst un23)) (sm rfl (sn (SC.blk (SC.loopB h2 (fun y => ⟨mk 19 [(3, .slc 0 2 0 y.1.length none), (6, .d ((eL 1 eI) p0)), (7, .d (eI (p0.length : Int))), (8, .d (eI y.2))], [.row 2 (List.map eApiPart y.1) true]⟩) (Wk.trans (Wk.pushE (σ' := [.row 2 (List.map eApiPart ([] : List ApiPart)) true]) (.row 2 [] true) (fun _ hh => by cases hh) rfl) (Wk.trans (Wk.env (e' := [(3, .slc 0 2 0 (([] : List ApiPart).length) none), (6, .d ((eL 1 eI) p0)), (7, .d (eI (p0.length : Int))), (8, .d (eI (0 : Int)))]) (EW.cons (AW.slcn _ _ _) (EW.cons (AW.refl _) (EW.cons (AW.refl _) (EW.cons (AW.refl _) EW.nil))))) (wq rfl))) ?_))))))
  intro n85
  rintro ⟨y75, y76⟩ w2_81 h3 hv3
  refine sr (s1 (bi rfl rfl q_i64_lss) (sn (sq (cB h3 rfl (fun h3 => ?_) (fun h3 => ?_)))))
  ·obtain ⟨v83, hv83, h3⟩ := ob h3; obtain ⟨hg84, h3⟩ := gd h3
   refine sk (sq (SC.blk (sr (s1 (ial rfl rfl un23 ts3 (getI_some hv83).1 (map_get (getI_some hv83).2) rfl) (s1 (lod rfl (ld_rop ts3 ta3 rfl)) (sa rfl (sn (SC.region (sm rfl ?_)))))))))
   refine sm rfl (s1 (bld rfl (bd78_0 v83)) (s1 (bsn (k := 1) (ds := List.map eApiPart [(ApiPart.mk v83 false)]) (off := 0) (l' := [(ApiPart.mk v83 false)].length) rfl un28 ei78 rfl rfl (by rfl) rfl rfl rfl) (s1 (app rfl rfl rfl rfl bc28 (aF (f := eApiPart) (xs := y75) (k := 2) rfl un28 ei78 rfl (el_full (xs := [(ApiPart.mk v83 false)]) rfl) hg84 rfl)) (sa rfl (SO.nil ?_)))))
   change SC _ _ _ _ _
   have q := si h3; subst q
   exact SC.region (s1 (bi rfl rfl q_i64_add) (sm rfl (SO.nil (lf (wc [2] [2] (by kernel_rfl) rfl (by kernel_rfl))))))
  ·have q := si h3; subst q; have q : _ = _ := hv3; subst q; have q := si h1; subst q
   exact SC.exit ((wq rfl))
 ·rintro y71 h0
  have q := si h0; subst q
  exact sr (sm rfl (sa rfl (sn (SC.ret (finR (Wk.trans (Wk.frz (i := 2) (x := .slc 0 2 0 y71.length none) rfl rfl (fF rfl rfl rfl)) (wc (e' := [(2, .d ((eL 2 eApiPart) y71))]) [] [] (by kernel_rfl) rfl (by kernel_rfl))) (lresT rfl lresN) rfl)))))
noncomputable def schema_keyed (p0 : ApiTable) (p1 : List ApiPart) (p2 : List ApiValue) : Option ((List UInt8) × Bool × Int) :=
 Option.bind (row_Fits p0.Cols p2) fun r127 =>
 bif (r127 != (0 : Int)) then
 some (([] : List UInt8), false, r127)
 else
 Option.bind (α := (List ApiValue) × (List Bool) × Bool)
 (Option.bind (α := (List ApiValue) × (List Bool) × Bool)
 (loop (Y := (List ApiValue) × (List Bool) × Bool × Int) (W := (List ApiValue) × (List Bool) × Bool) (fun (y163, y164, y165, y166) =>
 bif (decide (y166 < (p1.length : Int))) then
 Option.bind (getI p1 y166) fun v178 =>
 Option.bind (getI p2 v178.Col) fun v179 =>
 bif decide ((y163.length + [v179].length) * 32 ≤ room) then
 bif decide ((y164.length + [v178.Down].length) * 1 ≤ room) then
 bif y165 then
 some (Sum.inl ((y163 ++ [v179]), (y164 ++ [v178.Down]), true, (w64 (y166 + (1 : Int)))))
 else
 Option.bind (getI p2 v178.Col) fun v182 =>
 some (Sum.inl ((y163 ++ [v179]), (y164 ++ [v178.Down]), (v182.Kind == (0 : Int)), (w64 (y166 + (1 : Int)))))
 else none
 else none
 else
 some (Sum.inr (y163, y164, y165))) (([] : List ApiValue), ([] : List Bool), false, (0 : Int)))
 (fun e => some e))
 fun (y154, y155, y156) =>
 Option.bind (key_Encode y154 y155) fun (r185, r186) =>
 some (r185, y156, r186)
theorem schema_keyed_ok (p0 : ApiTable) (p1 : List ApiPart) (p2 : List ApiValue) (r : (List UInt8) × Bool × Int) (h0 : schema_keyed p0 p1 p2 = some r) : CallAt Tryz.prog 58 [.d (eApiTable p0), .d ((eL 2 eApiPart) p1), .d ((eL 3 eApiValue) p2)] [] (.tuple [.d (eS r.1), .d (eB r.2.1), .d (eI r.2.2)]) [] := by
 unfold schema_keyed at h0
 refine fn0 [0, 1, 2] Tryz.func58 rfl rfl rfl rfl rfl ?_
 obtain ⟨r127, hq126, h0⟩ := ob h0
 refine sr (s1 (bxo (k := 0) rfl rfl rfl) (s1 (asg (v := .d (eS ([] : List UInt8))) rfl) (sa rfl (sa rfl (sn (sq (sr (s1 (far (k := 1) rfl fo26_1 ts22 rfl) (s1 (lod rfl (ld_box ts22 ta22 rfl rfl)) ?_)))))))))
 refine sm rfl (c0 (row_Fits_ok p0.Cols p2 _ hq126) wf rfl rfl rfl cb21 rfl (fun _ => rfl) (fun _ => rfl) (sa rfl (sn (sr (sm rfl (s1 (bi rfl rfl q_i64_neq) (sn (cB h0 rfl (fun h0 => ?_) (fun h0 => ?_)))))))))
 ·have q := si h0; subst q
  exact sr (sm rfl (s1 (asg (v := .d (eS ([] : List UInt8))) rfl) (sa rfl (sa rfl (sn (SC.ret (finR (wc (e' := [(6, .d (eS ([] : List UInt8))), (7, .d (eB false)), (8, .d (eI r127))]) [] [] (by kernel_rfl) rfl (by kernel_rfl)) (lresT rfl (lresT rfl (lresT rfl lresN))) rfl)))))))
 ·refine sk (sr (s1 (asg (v := .d .nils) rfl) (sn (sr (s1 (asg (v := .d .nils) rfl) (sn (sr (sa rfl (sn ?_)))))))))
  refine SC.seqP h0 (fun y => ⟨mk 63 [(10, .slc 0 3 0 y.1.length none), (11, .slc 1 1 0 y.2.1.length none), (12, .d (eB y.2.2))], [.row 3 (List.map eApiValue y.1) true, .row 1 (List.map eB y.2.1) true]⟩) ?_ ?_
  ·intro u1_157 h1
   obtain ⟨u2_177, h2, h1⟩ := ob h1
   refine sr (sm rfl (s1 (len rfl rfl rfl (len_lst un28)) (sm rfl (sn (SC.blk (SC.loopB h2 (fun y => ⟨mk 63 [(2, .d ((eL 3 eApiValue) p2)), (10, .slc 0 3 0 y.1.length none), (11, .slc 1 1 0 y.2.1.length none), (12, .d (eB y.2.2.1)), (24, .d ((eL 2 eApiPart) p1)), (25, .d (eI (p1.length : Int))), (26, .d (eI y.2.2.2))], [.row 3 (List.map eApiValue y.1) true, .row 1 (List.map eB y.2.1) true]⟩) (Wk.trans (Wk.pushE (σ' := [.box (.d (eApiTable p0)), .row 3 (List.map eApiValue ([] : List ApiValue)) true]) (.row 3 [] true) (fun _ hh => by cases hh) rfl) (Wk.trans (Wk.env (e' := [(2, .d ((eL 3 eApiValue) p2)), (10, .slc 1 3 0 (([] : List ApiValue).length) none), (11, .d .nils), (12, .d (eB false)), (24, .d ((eL 2 eApiPart) p1)), (25, .d (eI (p1.length : Int))), (26, .d (eI (0 : Int)))]) (EW.cons (AW.refl _) (EW.cons (AW.slcn _ _ _) (EW.cons (AW.refl _) (EW.cons (AW.refl _) (EW.cons (AW.refl _) (EW.cons (AW.refl _) (EW.cons (AW.refl _) EW.nil)))))))) (Wk.trans (Wk.pushE (σ' := [.box (.d (eApiTable p0)), .row 3 (List.map eApiValue ([] : List ApiValue)) true, .row 1 (List.map eB ([] : List Bool)) true]) (.row 1 [] true) (fun _ hh => by cases hh) rfl) (Wk.trans (Wk.env (e' := [(2, .d ((eL 3 eApiValue) p2)), (10, .slc 1 3 0 (([] : List ApiValue).length) none), (11, .slc 2 1 0 (([] : List Bool).length) none), (12, .d (eB false)), (24, .d ((eL 2 eApiPart) p1)), (25, .d (eI (p1.length : Int))), (26, .d (eI (0 : Int)))]) (EW.cons (AW.refl _) (EW.cons (AW.refl _) (EW.cons (AW.slcn _ _ _) (EW.cons (AW.refl _) (EW.cons (AW.refl _) (EW.cons (AW.refl _) (EW.cons (AW.refl _) EW.nil)))))))) (wc [1, 2] [1, 2] (by kernel_rfl) rfl (by kernel_rfl)))))) ?_))))))
   intro n183
   rintro ⟨y163, y164, y165, y166⟩ w2_176 h3 hv3
   refine sr (s1 (bi rfl rfl q_i64_lss) (sn (sq (cB h3 rfl (fun h3 => ?_) (fun h3 => ?_)))))
   ·obtain ⟨v178, hv178, h3⟩ := ob h3; obtain ⟨v179, hv179, h3⟩ := ob h3; obtain ⟨hg180, h3⟩ := gd h3; obtain ⟨hg181, h3⟩ := gd h3
    refine sk (sq (SC.blk (sr (s1 (ial rfl rfl un28 ts78 (getI_some hv178).1 (map_get (getI_some hv178).2) rfl) (s1 (lod (v := .d (eApiPart v178)) rfl (ld_rop ts78 ta78 rfl)) (s1 (alo (k := 2) zo78 rfl) (s0 (sto rfl rfl (sB (d' := .d (eApiPart v178)) ts78 rfl rfl rfl rfl rfl rfl rfl)) (sn (sd (by kernel_rfl) ?_)))))))))
    refine t1 ([], false) (mv rfl) rfl (t1 ([], false) (mv rfl) rfl (t1 ([], false) (far (k := 0) rfl fo78_0 ts3 rfl) rfl (t1 ([2], false) (lod rfl (ld_box ts3 ta3 rfl rfl)) rfl (t1 ([], false) (ial rfl rfl un61 ts74 (getI_some hv179).1 (map_get (getI_some hv179).2) rfl) rfl (t1 ([], false) (lod (v := .d (eApiValue v179)) rfl (ld_rop ts74 ta74 rfl)) rfl (t1 ([3], true) (bsn (k := 3) (ds := List.map eApiValue [v179]) (off := 0) (l' := [v179].length) rfl un61 ei74 rfl rfl (by rfl) rfl rfl rfl) rfl (t1 ([0, 3, 4], true) (app rfl rfl rfl rfl bc61 (aF (f := eApiValue) (xs := y163) (k := 4) rfl un61 ei74 rfl (el_full (xs := [v179]) rfl) hg180 rfl)) rfl (t1 ([], false) (mv rfl) rfl (t1 ([], false) (far (k := 1) rfl fo78_1 ts4 rfl) rfl ?_)))))))))
    refine t1 ([2], false) (lod rfl (ld_box ts4 ta4 rfl rfl)) rfl (t1 ([5], true) (bsn (k := 5) (ds := List.map eB [v178.Down]) (off := 0) (l' := [v178.Down].length) rfl un57 ei4 rfl rfl (by rfl) rfl rfl rfl) rfl (t1 ([1, 5, 6], true) (app rfl rfl rfl rfl bc57 (aF (f := eB) (xs := y164) (k := 6) rfl un57 ei4 rfl (el_full (xs := [v178.Down]) rfl) hg181 rfl)) rfl (t1 ([], false) (asg rfl) rfl (t1 ([], false) (asg rfl) rfl (tn (by decide +kernel) (SC.region (sm rfl (sm rfl (sp h3 (fun h3 => ?_) (fun h3 => ?_))))))))))
    ·refine kw rfl (kw rfl (kw rfl (kw rfl (kw rfl (kw rfl (kw rfl (s1 (pkt rfl rfl) (sa rfl (SO.nil ?_)))))))))
     change SC _ _ _ _ _
     have q := si h3; subst q
     exact SC.region (s1 (bi rfl rfl q_i64_add) (sm rfl (SO.nil (lf (wc [4, 6] [4, 6] (by kernel_rfl) rfl (by kernel_rfl))))))
    ·obtain ⟨v182, hv182, h3⟩ := ob h3
     refine gw rfl (mv rfl) (gw rfl (far (k := 0) rfl fo78_0 ts3 rfl) (gw rfl (lod rfl (ld_box ts3 ta3 rfl rfl)) (gw rfl (ial rfl rfl un61 ts74 (getI_some hv182).1 (map_get (getI_some hv182).2) rfl) (gw rfl (fap rfl fo74_0 ts3 rfl) (gw rfl (lod rfl (ld_rop ts3 ta3 rfl)) (gw rfl (bi rfl rfl q_i64_eql) (s1 (pkf rfl rfl) (sa rfl (SO.nil ?_)))))))))
     change SC _ _ _ _ _
     have q := si h3; subst q
     exact SC.region (s1 (bi rfl rfl q_i64_add) (sm rfl (SO.nil (lf (wc [4, 6] [4, 6] (by kernel_rfl) rfl (by kernel_rfl))))))
   ·have q := si h3; subst q; have q : _ = _ := hv3; subst q; have q := si h1; subst q
    exact SC.exit ((wq rfl))
  ·rintro ⟨y154, y155, y156⟩ h0
   obtain ⟨⟨r185, r186⟩, hq184, h0⟩ := ob h0; have q := si h0; subst q
   refine sr (sm rfl (sm rfl (cq (args' := [.slc 0 3 0 y154.length none, .slc 1 1 0 y155.length none]) (σc := [.row 3 (List.map eApiValue y154) true, .row 1 (List.map eB y155) true]) [0, 1] [] (CallAt.frz (ArgF.frz (fF rfl rfl rfl) (ArgF.frz (fF rfl rfl rfl) (ArgF.nil _))) (fq [] [] (key_Encode_ok y154 y155 _ hq184) rfl rfl rfl rfl rfl rfl rfl rfl)) wf rfl rfl rfl cb100 rfl rfl rfl rfl rfl rfl rfl rfl (sm rfl (s1 (ext rfl rfl) (s1 (ext rfl rfl) (sa rfl (sa rfl (sn ?_)))))))))
   exact sr (sm rfl (sm rfl (sm rfl (sa rfl (sa rfl (sa rfl (sn (SC.ret (finR (wc (e' := [(6, .d (eS r185)), (7, .d (eB y156)), (8, .d (eI r186))]) [] [] (by kernel_rfl) rfl (by kernel_rfl)) (lresT rfl (lresT rfl (lresT rfl lresN))) rfl)))))))))
noncomputable def schema_Primary (p0 : ApiTable) (p1 : List ApiValue) : Option ((List UInt8) × Int) :=
 Option.bind (schema_up p0.Primary) fun r16 =>
 Option.bind (schema_keyed p0 r16 p1) fun (r18, r19, r20) =>
 some (r18, r20)
theorem schema_Primary_ok (p0 : ApiTable) (p1 : List ApiValue) (r : (List UInt8) × Int) (h0 : schema_Primary p0 p1 = some r) : CallAt Tryz.prog 23 [.d (eApiTable p0), .d ((eL 3 eApiValue) p1)] [] (.tuple [.d (eS r.1), .d (eI r.2)]) [] := by
 unfold schema_Primary at h0
 refine fn0 [0, 1] Tryz.func23 rfl rfl rfl rfl rfl ?_
 obtain ⟨r16, hq15, h0⟩ := ob h0; obtain ⟨⟨r18, r19, r20⟩, hq17, h0⟩ := ob h0; have q := si h0; subst q
 refine sr (s1 (bxo (k := 0) rfl rfl rfl) (s1 (asg (v := .d (eS ([] : List UInt8))) rfl) (sa rfl (sn (sd (by kernel_rfl) (t1 ([0], false) (lod (v := .d (eApiTable p0)) rfl (ld_box ts26 ta26 rfl rfl)) rfl (t1 ([], false) (far (k := 2) rfl fo26_2 ts23 rfl) rfl (t1 ([0], false) (lod rfl (ld_box ts23 ta23 rfl rfl)) rfl (tc0 (schema_up_ok p0.Primary _ hq15) wf rfl rfl rfl cb59 rfl (fun _ => rfl) (fun _ => rfl) ?_)))))))))
 refine t1 ([], false) (mv rfl) rfl (tc0 (schema_keyed_ok p0 r16 p1 _ hq17) wf rfl rfl rfl cb58 rfl (fun _ => rfl) (fun _ => rfl) (t1 ([], false) (mv rfl) rfl (t1 ([], false) (ext rfl rfl) rfl (t1 ([], false) (ext rfl rfl) rfl (t1 ([], false) (ext rfl rfl) rfl (t1 ([], false) (asg rfl) rfl (t1 ([], false) (asg rfl) rfl (t1 ([], false) (asg rfl) rfl (tn (by decide +kernel) ?_)))))))))
 exact sr (sm rfl (sm rfl (sa rfl (sa rfl (sn (SC.ret (finR (wc (e' := [(4, .d (eS r18)), (5, .d (eI r20))]) [] [] (by kernel_rfl) rfl (by kernel_rfl)) (lresT rfl (lresT rfl lresN)) rfl)))))))
noncomputable def schema_Front (p0 : ApiTable) (p1 : ApiIndex) (p2 : List ApiValue) : Option ((List UInt8) × Bool × Int) :=
 Option.bind (schema_keyed p0 p1.Parts p2) fun (r13, r14, r15) =>
 some (r13, r14, r15)
theorem schema_Front_ok (p0 : ApiTable) (p1 : ApiIndex) (p2 : List ApiValue) (r : (List UInt8) × Bool × Int) (h0 : schema_Front p0 p1 p2 = some r) : CallAt Tryz.prog 60 [.d (eApiTable p0), .d (eApiIndex p1), .d ((eL 3 eApiValue) p2)] [] (.tuple [.d (eS r.1), .d (eB r.2.1), .d (eI r.2.2)]) [] := by
 unfold schema_Front at h0
 refine fn0 [0, 1, 2] Tryz.func60 rfl rfl rfl rfl rfl ?_
 obtain ⟨⟨r13, r14, r15⟩, hq12, h0⟩ := ob h0; have q := si h0; subst q
 refine sr (s1 (bxo (k := 0) rfl rfl rfl) (s1 (bxo (k := 1) rfl rfl rfl) (s1 (asg (v := .d (eS ([] : List UInt8))) rfl) (sa rfl (sa rfl (sn (sr (s1 (lod (v := .d (eApiTable p0)) rfl (ld_box ts26 ta26 rfl rfl)) (s1 (far (k := 1) rfl fo60_1 ts28 rfl) ?_)))))))))
 refine s1 (lod rfl (ld_box ts28 ta28 rfl rfl)) (sm rfl (c0 (schema_keyed_ok p0 p1.Parts p2 _ hq12) wf rfl rfl rfl cb58 rfl (fun _ => rfl) (fun _ => rfl) (s1 (ext rfl rfl) (s1 (ext rfl rfl) (s1 (ext rfl rfl) (sa rfl (sa rfl (sa rfl (sn ?_)))))))))
 exact SC.ret (finR (wc (e' := [(6, .d (eS r13)), (7, .d (eB r14)), (8, .d (eI r15))]) [] [] (by kernel_rfl) rfl (by kernel_rfl)) (lresT rfl (lresT rfl (lresT rfl lresN))) rfl)
noncomputable def schema_extras (p0 : ApiTable) (p1 : ApiIndex) : Option ((List ApiColumn)) :=
 Option.bind (α := (List ApiColumn))
 (Option.bind (α := (List ApiColumn))
 (loop (Y := (List ApiColumn) × Int) (W := (List ApiColumn)) (fun (y91, y92) =>
 bif (decide (y92 < (p1.Extra.length : Int))) then
 Option.bind (getI p1.Extra y92) fun v100 =>
 Option.bind (getI p0.Cols v100) fun v101 =>
 bif decide ((y91.length + [v101].length) * 72 ≤ room) then
 some (Sum.inl ((y91 ++ [v101]), (w64 (y92 + (1 : Int)))))
 else none
 else
 some (Sum.inr y91)) (([] : List ApiColumn), (0 : Int)))
 (fun e => some e))
 fun y86 =>
 some y86
theorem schema_extras_ok (p0 : ApiTable) (p1 : ApiIndex) (r : (List ApiColumn)) (h0 : schema_extras p0 p1 = some r) : CallAt Tryz.prog 62 [.d (eApiTable p0), .d (eApiIndex p1)] [] (.d ((eL 7 eApiColumn) r)) [] := by
 unfold schema_extras at h0
 refine fn0 [0, 1] Tryz.func62 rfl rfl rfl rfl rfl ?_
 refine sr (s1 (bxo (k := 0) rfl rfl rfl) (s1 (bxo (k := 1) rfl rfl rfl) (s1 (asg (v := .d .nils) rfl) (sn (sr (s1 (asg (v := .d .nils) rfl) (sn (SC.seqP h0 (fun y => ⟨mk 25 [(5, .slc 0 7 0 y.length none)], [.row 7 (List.map eApiColumn y) true]⟩) ?_ ?_))))))))
 ·intro u1_87 h1
  obtain ⟨u2_99, h2, h1⟩ := ob h1
  refine sr (s1 (far (k := 2) rfl fo60_2 ts23 rfl) (s1 (lod rfl (ld_box ts23 ta23 rfl rfl)) (s1 (len rfl rfl rfl (len_lst un23)) (sm rfl (sn (SC.blk (SC.loopB h2 (fun y => ⟨mk 25 [(2, .ref 0 0 0), (5, .slc 1 7 0 y.1.length none), (9, .d ((eL 1 eI) p1.Extra)), (10, .d (eI (p1.Extra.length : Int))), (11, .d (eI y.2))], [.box (.d (eApiTable p0)), .row 7 (List.map eApiColumn y.1) true]⟩) (Wk.trans (Wk.pushE (σ' := [.box (.d (eApiTable p0)), .box (.d (eApiIndex p1)), .row 7 (List.map eApiColumn ([] : List ApiColumn)) true]) (.row 7 [] true) (fun _ hh => by cases hh) rfl) (Wk.trans (Wk.env (e' := [(2, .ref 0 0 0), (5, .slc 2 7 0 (([] : List ApiColumn).length) none), (9, .d ((eL 1 eI) p1.Extra)), (10, .d (eI (p1.Extra.length : Int))), (11, .d (eI (0 : Int)))]) (EW.cons (AW.refl _) (EW.cons (AW.slcn _ _ _) (EW.cons (AW.refl _) (EW.cons (AW.refl _) (EW.cons (AW.refl _) EW.nil)))))) (wc [0, 2] [0, 2] (by kernel_rfl) rfl (by kernel_rfl)))) ?_)))))))
  intro n103
  rintro ⟨y91, y92⟩ w2_98 h3 hv3
  refine sr (s1 (bi rfl rfl q_i64_lss) (sn (sq (cB h3 rfl (fun h3 => ?_) (fun h3 => ?_)))))
  ·obtain ⟨v100, hv100, h3⟩ := ob h3; obtain ⟨v101, hv101, h3⟩ := ob h3; obtain ⟨hg102, h3⟩ := gd h3
   refine sk (sq (SC.blk (sr (s1 (ial rfl rfl un23 ts3 (getI_some hv100).1 (map_get (getI_some hv100).2) rfl) (s1 (lod rfl (ld_rop ts3 ta3 rfl)) (sa rfl (sn (SC.region (sm rfl ?_)))))))))
   refine s1 (far (k := 1) rfl fo26_1 ts22 rfl) (s1 (lod rfl (ld_box ts22 ta22 rfl rfl)) (sm rfl (s1 (ial rfl rfl un22 ts76 (getI_some hv101).1 (map_get (getI_some hv101).2) rfl) (s1 (lod (v := .d (eApiColumn v101)) rfl (ld_rop ts76 ta76 rfl)) (s1 (bsn (k := 2) (ds := List.map eApiColumn [v101]) (off := 0) (l' := [v101].length) rfl un22 ei76 rfl rfl (by rfl) rfl rfl rfl) (s1 (app rfl rfl rfl rfl bc22 (aF (f := eApiColumn) (xs := y91) (k := 3) rfl un22 ei76 rfl (el_full (xs := [v101]) rfl) hg102 rfl)) (sa rfl (SO.nil ?_))))))))
   change SC _ _ _ _ _
   have q := si h3; subst q
   exact SC.region (s1 (bi rfl rfl q_i64_add) (sm rfl (SO.nil (lf (wc [0, 3] [0, 3] (by kernel_rfl) rfl (by kernel_rfl))))))
  ·have q := si h3; subst q; have q : _ = _ := hv3; subst q; have q := si h1; subst q
   exact SC.exit ((wc [1] [1] (by kernel_rfl) rfl (by kernel_rfl)))
 ·rintro y86 h0
  have q := si h0; subst q
  exact sr (sm rfl (sa rfl (sn (SC.ret (finR (Wk.trans (Wk.frz (i := 4) (x := .slc 0 7 0 y86.length none) rfl rfl (fF rfl rfl rfl)) (wc (e' := [(4, .d ((eL 7 eApiColumn) y86))]) [] [] (by kernel_rfl) rfl (by kernel_rfl))) (lresT rfl lresN) rfl)))))
noncomputable def pack_Out_U8_1 (p0 : UInt8) : Option Unit :=
 Option.bind (pack_Out_put [p0]) fun _ =>
 some ()
theorem pack_Out_U8_1_ok (p0 : UInt8) (r : Unit) (h0 : pack_Out_U8_1 p0 = some r) : CallAt Tryz.prog 101 [.ref 0 0 0, .d (eU8 p0)] [.box (.d (.agg [.nils]))] (.tuple []) [.box (.agg [.slc 1 1 0 ([p0].length) none]), .row 1 (List.map eU8 [p0]) true] := by
 unfold pack_Out_U8_1 at h0
 refine fn0 [0, 1] Tryz.func101 rfl rfl rfl rfl rfl ?_
 obtain ⟨_, hq3, h0⟩ := ob h0; have q := si h0; subst q
 exact SC.region (sm rfl (sm rfl (s1 (bsn (k := 1) (ds := List.map eU8 [p0]) (off := 0) (l' := [p0].length) rfl un156 ei5 rfl rfl (by rfl) rfl rfl rfl) (cq (args' := [.ref 0 0 0, .slc 1 1 0 ([p0].length) none]) (σc := [.box (.d (.agg [.nils])), .row 1 (List.map eU8 [p0]) true]) [0, 1] [2] (CallAt.frz (ArgF.keep (ArgF.frz (fF rfl rfl rfl) (ArgF.nil _))) (fq [0] [2] (pack_Out_put_ok [p0] _ hq3) rfl rfl rfl rfl rfl rfl rfl rfl)) wf rfl rfl rfl cb128 rfl rfl rfl rfl rfl rfl rfl rfl (SO.nil (finN (wc (e' := []) [0, 2] [0] (by kernel_rfl) rfl (by kernel_rfl)) lresN rfl))))))
noncomputable def pack_Out_Flag_1 (p0 : Bool) (p1 : List UInt8) : Option ((List UInt8)) :=
 bif p0 then
 Option.bind (pack_Out_put_1 [(1 : UInt8)] p1) fun _ =>
 some (p1 ++ [(1 : UInt8)])
 else
 Option.bind (pack_Out_put_1 [(0 : UInt8)] p1) fun _ =>
 some (p1 ++ [(0 : UInt8)])
theorem pack_Out_Flag_1_ok (p0 : Bool) (p1 : List UInt8) (r : (List UInt8)) (h0 : pack_Out_Flag_1 p0 p1 = some r) : CallAt Tryz.prog 129 [.ref 0 0 0, .d (eB p0)] [.box (.agg [.slc 1 1 0 p1.length none]), .row 1 (List.map eU8 p1) true] (.tuple []) [.box (.agg [.slc 2 1 0 r.length none]), .dead, .row 1 (List.map eU8 r) true] := by
 unfold pack_Out_Flag_1 at h0
 refine fn0 [0, 1] Tryz.func129 rfl rfl rfl rfl rfl ?_
 refine sr (sm rfl (sn (cB h0 rfl (fun h0 => ?_) (fun h0 => ?_))))
 ·obtain ⟨_, hq6, h0⟩ := ob h0; have q := si h0; subst q
  exact SC.region (sm rfl (s1 (bsn (k := 2) (ds := List.map eU8 [(1 : UInt8)]) (off := 0) (l' := [(1 : UInt8)].length) rfl un156 ei5 rfl rfl (by rfl) rfl rfl rfl) (cq (args' := [.ref 0 0 0, .slc 1 1 0 ([(1 : UInt8)].length) none]) (σc := [.box (.agg [.slc 2 1 0 p1.length none]), .row 1 (List.map eU8 [(1 : UInt8)]) true, .row 1 (List.map eU8 p1) true]) [0, 2, 1] [3] (CallAt.frz (ArgF.keep (ArgF.frz (fF rfl rfl rfl) (ArgF.nil _))) (fq [0, 2] [3] (pack_Out_put_1_ok [(1 : UInt8)] p1 _ hq6) rfl rfl rfl rfl rfl rfl rfl rfl)) wf rfl rfl rfl cb128 rfl rfl rfl rfl rfl rfl rfl rfl (SO.nil (finN (wc (e' := []) [0, 1, 3] [0, 1] (by kernel_rfl) rfl (by kernel_rfl)) lresN rfl)))))
 ·obtain ⟨_, hq7, h0⟩ := ob h0; have q := si h0; subst q
  exact SC.region (sm rfl (s1 (bsn (k := 2) (ds := List.map eU8 [(0 : UInt8)]) (off := 0) (l' := [(0 : UInt8)].length) rfl un156 ei5 rfl rfl (by rfl) rfl rfl rfl) (cq (args' := [.ref 0 0 0, .slc 1 1 0 ([(0 : UInt8)].length) none]) (σc := [.box (.agg [.slc 2 1 0 p1.length none]), .row 1 (List.map eU8 [(0 : UInt8)]) true, .row 1 (List.map eU8 p1) true]) [0, 2, 1] [3] (CallAt.frz (ArgF.keep (ArgF.frz (fF rfl rfl rfl) (ArgF.nil _))) (fq [0, 2] [3] (pack_Out_put_1_ok [(0 : UInt8)] p1 _ hq7) rfl rfl rfl rfl rfl rfl rfl rfl)) wf rfl rfl rfl cb128 rfl rfl rfl rfl rfl rfl rfl rfl (SO.nil (finN (wc (e' := []) [0, 1, 3] [0, 1] (by kernel_rfl) rfl (by kernel_rfl)) lresN rfl)))))
noncomputable def pack_Out_Text (p0 : List UInt8) (p1 : List UInt8) : Option (Bool × (List UInt8)) :=
 Option.bind (α := Unit)
 (some ())
 fun _ =>
 bif (decide ((p0.length : Int) > (65535 : Int))) then
 some (false, p1)
 else
 Option.bind (pack_Out_U16 (u16i (p0.length : Int)) p1) fun _ =>
 bif decide (((p1 ++ [((shr16 (u16i (p0.length : Int)) 8).toUInt8), ((u16i (p0.length : Int)).toUInt8)]).length + p0.length) * 1 ≤ room) then
 some (true, ((p1 ++ [((shr16 (u16i (p0.length : Int)) 8).toUInt8), ((u16i (p0.length : Int)).toUInt8)]) ++ p0))
 else none
theorem pack_Out_Text_ok (p0 : List UInt8) (p1 : List UInt8) (r : Bool × (List UInt8)) (h0 : pack_Out_Text p0 p1 = some r) : CallAt Tryz.prog 131 [.ref 0 0 0, .d (eS p0)] [.box (.agg [.slc 1 1 0 p1.length none]), .row 1 (List.map eU8 p1) true] (.d (eB r.1)) [.box (.agg [.slc 2 1 0 r.2.length none]), .dead, .row 1 (List.map eU8 r.2) true] := by
 unfold pack_Out_Text at h0
 refine fn0 [0, 1] Tryz.func131 rfl rfl rfl rfl rfl ?_
 refine sr (sa rfl (sn (sq (SC.seqP h0 (fun y => ⟨mk 26 [(0, .ref 0 0 0), (1, .d (eS p0)), (11, .d (eB (decide ((p0.length : Int) > (65535 : Int)))))], [.box (.agg [.slc 1 1 0 p1.length none]), .row 1 (List.map eU8 p1) true]⟩) ?_ ?_))))
 ·intro u1_9 h1
  have q := si h1; subst q
  exact SC.region (sm rfl (s1 (bi (v := .d (eB false)) rfl rfl (fun _ _ => nil_eql un161)) (sm rfl (gw rfl (mv rfl) (gw rfl (len rfl rfl rfl (len_str un9)) (gw rfl (bi rfl rfl q_i64_gtr) (s1 (pkf rfl rfl) (SO.nil ((wq rfl))))))))))
 ·intro _ h0
  refine cB h0 rfl (fun h0 => ?_) (fun h0 => ?_)
  ·have q := si h0; subst q
   exact sr (sa rfl (sn (SC.ret (finR (Wk.trans (wq (e' := [(4, .d (eB false))]) rfl) (Wk.trans (Wk.move (e' := [(4, .d (eB false))]) (os := [.box (.agg [.slc 2 1 0 p1.length none]), .row 1 (List.map eU8 p1) true]) (o := .row 1 (List.map eU8 p1) true) (σ' := [.box (.agg [.slc 2 1 0 p1.length none]), .dead, .row 1 (List.map eU8 p1) true]) 1 (Nat.le_of_ble_eq_true rfl) rfl rfl rfl rfl) (wq (e' := [(4, .d (eB false))]) rfl))) (lresT rfl lresN) rfl))))
  ·obtain ⟨_, hq10, h0⟩ := ob h0; obtain ⟨hg11, h0⟩ := gd h0; have q := si h0; subst q
   refine sk (sr (sm rfl (sm rfl (s1 (len rfl rfl rfl (len_str un9)) (s1 (cvo rfl (cv_i64_u16 un3 un201 (p0.length : Int))) (cq [0, 1] [2] (pack_Out_U16_ok (u16i (p0.length : Int)) p1 _ hq10) wf rfl rfl rfl cb145 rfl rfl rfl rfl rfl rfl rfl rfl (sn (sr (sm rfl ?_)))))))))
   refine sm rfl (s1 (nkr rfl) (s1 (far (k := 0) rfl fo158_0 ts156 rfl) (s1 (lod rfl (ld_box ts156 ta156 rfl rfl)) (sm rfl (s1 (app rfl rfl rfl rfl bc9 (aF (f := eU8) (xs := (p1 ++ [((shr16 (u16i (p0.length : Int)) 8).toUInt8), ((u16i (p0.length : Int)).toUInt8)])) (k := 3) rfl un156 ei5 rfl el_str hg11 rfl)) (s1 (nkr rfl) (s1 (far (k := 0) rfl fo158_0 ts156 rfl) (s0 (sto rfl rfl (sB (d' := .agg [.slc 3 1 0 (((p1 ++ [((shr16 (u16i (p0.length : Int)) 8).toUInt8), ((u16i (p0.length : Int)).toUInt8)]) ++ p0).length) none]) ts156 rfl rfl rfl rfl rfl rfl rfl)) (sn ?_)))))))))
   exact sr (sa rfl (sn (SC.ret (finR (Wk.trans (wq (e' := [(4, .d (eB true))]) rfl) (wc (e' := [(4, .d (eB true))]) [0, 1, 3] [0, 1] (by kernel_rfl) rfl (by kernel_rfl))) (lresT rfl lresN) rfl))))
noncomputable def row_put (p0 : ApiValue) (p1 : List UInt8) : Option ((List UInt8)) :=
 Option.bind (pack_Out_Flag_1 (p0.Kind == (0 : Int)) p1) fun r25 =>
 Option.bind (α := Bool)
 (bif (p0.Kind == (1 : Int)) then
 some (p0.Kind == (1 : Int))
 else
 some (p0.Kind == (2 : Int)))
 fun y26 =>
 bif y26 then
 Option.bind (pack_Out_U64 p0.N r25) fun _ =>
 some ((((r25 ++ [((shr16 ((shr32 ((shr64 p0.N 32).toUInt32) 16).toUInt16) 8).toUInt8), (((shr32 ((shr64 p0.N 32).toUInt32) 16).toUInt16).toUInt8)]) ++ [((shr16 (((shr64 p0.N 32).toUInt32).toUInt16) 8).toUInt8), ((((shr64 p0.N 32).toUInt32).toUInt16).toUInt8)]) ++ [((shr16 ((shr32 (p0.N.toUInt32) 16).toUInt16) 8).toUInt8), (((shr32 (p0.N.toUInt32) 16).toUInt16).toUInt8)]) ++ [((shr16 ((p0.N.toUInt32).toUInt16) 8).toUInt8), (((p0.N.toUInt32).toUInt16).toUInt8)])
 else
 bif (p0.Kind == (3 : Int)) then
 Option.bind (pack_Out_U8 (p0.N.toUInt8) r25) fun _ =>
 some (r25 ++ [(p0.N.toUInt8)])
 else
 Option.bind (α := Bool)
 (bif (p0.Kind == (4 : Int)) then
 some (p0.Kind == (4 : Int))
 else
 some (p0.Kind == (5 : Int)))
 fun y30 =>
 bif y30 then
 Option.bind (pack_Out_Text p0.S r25) fun (r33, r34) =>
 some r34
 else
 some r25
theorem row_put_ok (p0 : ApiValue) (p1 : List UInt8) (r : (List UInt8)) (h0 : row_put p0 p1 = some r) : CallAt Tryz.prog 102 [.ref 0 0 0, .d (eApiValue p0)] [.box (.agg [.slc 1 1 0 p1.length none]), .row 1 (List.map eU8 p1) true] (.tuple []) [.box (.agg [.slc 2 1 0 r.length none]), .dead, .row 1 (List.map eU8 r) true] := by
 unfold row_put at h0
 refine fn0 [0, 1] Tryz.func102 rfl rfl rfl rfl rfl ?_
 obtain ⟨r25, hq24, h0⟩ := ob h0
 refine sr (s1 (bxo (k := 2) rfl rfl rfl) (sn (sr (sm rfl (s1 (far (k := 0) rfl fo74_0 ts3 rfl) (s1 (lod rfl (ld_box ts3 ta3 rfl rfl)) (s1 (bi rfl rfl q_i64_eql) (cq [0, 1] [3] (pack_Out_Flag_1_ok (p0.Kind == (0 : Int)) p1 _ hq24) wf rfl rfl rfl cb129 rfl rfl rfl rfl rfl rfl rfl rfl (sn ?_)))))))))
 refine sr (s1 (far (k := 0) rfl fo74_0 ts3 rfl) (s1 (lod rfl (ld_box ts3 ta3 rfl rfl)) (sn (SC.blk (SC.seqP h0 (fun y => ⟨mk 32 [(0, .ref 0 0 0), (3, .ref 2 0 0), (10, .d (eI p0.Kind)), (11, .d (eB y))], [.box (.agg [.slc 3 1 0 r25.length none]), .dead, .box (.d (eApiValue p0)), .row 1 (List.map eU8 r25) true]⟩) ?_ ?_)))))
 ·intro u1_27 h1
  refine sr (s1 (bi rfl rfl q_i64_eql) (sa rfl (sn (cB h1 rfl (fun h1 => ?_) (fun h1 => ?_)))))
  ·have q := si h1; subst q
   exact SC.skip ((wq rfl))
  ·have q := si h1; subst q
   exact SC.region (s1 (bi rfl rfl q_i64_eql) (sa rfl (SO.nil ((wq rfl)))))
 ·rintro y26 h0
  refine cB h0 rfl (fun h0 => ?_) (fun h0 => ?_)
  ·obtain ⟨_, hq28, h0⟩ := ob h0; have q := si h0; subst q
   exact SC.region (sm rfl (s1 (far (k := 1) rfl fo74_1 ts72 rfl) (s1 (lod rfl (ld_box ts72 ta72 rfl rfl)) (cq [0, 3] [4] (pack_Out_U64_ok p0.N r25 _ hq28) wf rfl rfl rfl cb130 rfl rfl rfl rfl rfl rfl rfl rfl (SO.nil (finN (wc (e' := []) [0, 1, 4] [0, 1] (by kernel_rfl) rfl (by kernel_rfl)) lresN rfl))))))
  ·refine sr (s1 (bi rfl rfl q_i64_eql) (sa rfl (sn (cB h0 rfl (fun h0 => ?_) (fun h0 => ?_)))))
   ·obtain ⟨_, hq29, h0⟩ := ob h0; have q := si h0; subst q
    exact SC.region (sm rfl (s1 (far (k := 1) rfl fo74_1 ts72 rfl) (s1 (lod rfl (ld_box ts72 ta72 rfl rfl)) (s1 (cvo rfl (cv_u64_u8 un72 un5 p0.N)) (cq [0, 3] [4] (pack_Out_U8_ok (p0.N.toUInt8) r25 _ hq29) wf rfl rfl rfl cb101 rfl rfl rfl rfl rfl rfl rfl rfl (SO.nil (finN (wc (e' := []) [0, 1, 4] [0, 1] (by kernel_rfl) rfl (by kernel_rfl)) lresN rfl)))))))
   ·refine SC.seqP h0 (fun y => ⟨mk 32 [(0, .ref 0 0 0), (3, .ref 2 0 0), (25, .d (eB y))], [.box (.agg [.slc 3 1 0 r25.length none]), .dead, .box (.d (eApiValue p0)), .row 1 (List.map eU8 r25) true]⟩) ?_ ?_
    ·intro u1_31 h1
     refine sr (s1 (bi rfl rfl q_i64_eql) (sa rfl (sn (cB h1 rfl (fun h1 => ?_) (fun h1 => ?_)))))
     ·have q := si h1; subst q
      exact SC.skip ((wq rfl))
     ·have q := si h1; subst q
      exact SC.region (s1 (bi rfl rfl q_i64_eql) (sa rfl (SO.nil ((wq rfl)))))
    ·rintro y30 h0
     refine cB h0 rfl (fun h0 => ?_) (fun h0 => ?_)
     ·obtain ⟨⟨r33, r34⟩, hq32, h0⟩ := ob h0; have q := si h0; subst q
      exact SC.region (sm rfl (s1 (far (k := 2) rfl fo74_2 ts9 rfl) (s1 (lod rfl (ld_box ts9 ta9 rfl rfl)) (cq [0, 3] [4] (pack_Out_Text_ok p0.S r25 _ hq32) wf rfl rfl rfl cb131 rfl rfl rfl rfl rfl rfl rfl rfl (SO.nil (finN (wc (e' := []) [0, 1, 4] [0, 1] (by kernel_rfl) rfl (by kernel_rfl)) lresN rfl))))))
     ·have q := si h0; subst q
      exact SC.skip (finN (wc (e' := []) [0, 1, 3] [0, 1] (by kernel_rfl) rfl (by kernel_rfl)) lresN rfl)
noncomputable def row_Encode (p0 : List ApiColumn) (p1 : List ApiValue) : Option ((List UInt8) × Int) :=
 Option.bind (row_Fits p0 p1) fun r80 =>
 bif (r80 != (0 : Int)) then
 some (([] : List UInt8), r80)
 else
 Option.bind (pack_Out_U8_1 (u8i (p1.length : Int))) fun _ =>
 Option.bind (α := (List UInt8))
 (Option.bind (α := (List UInt8))
 (loop (Y := Int × (List UInt8)) (W := (List UInt8)) (fun (y103, y104) =>
 bif (decide (y103 < (p1.length : Int))) then
 Option.bind (getI p1 y103) fun v112 =>
 Option.bind (row_put v112 y104) fun r114 =>
 some (Sum.inl ((w64 (y103 + (1 : Int))), r114))
 else
 some (Sum.inr y104)) ((0 : Int), [(u8i (p1.length : Int))]))
 (fun e => some e))
 fun y98 =>
 Option.bind (pack_Out_Bytes y98) fun _ =>
 bif (decide ((y98.length : Int) > (512 : Int))) then
 some (([] : List UInt8), (7 : Int))
 else
 some (y98, (0 : Int))
theorem row_Encode_ok (p0 : List ApiColumn) (p1 : List ApiValue) (r : (List UInt8) × Int) (h0 : row_Encode p0 p1 = some r) : CallAt Tryz.prog 61 [.d ((eL 7 eApiColumn) p0), .d ((eL 3 eApiValue) p1)] [] (.tuple [.d (eS r.1), .d (eI r.2)]) [] := by
 unfold row_Encode at h0
 refine fn0 [0, 1] Tryz.func61 rfl rfl rfl rfl rfl ?_
 obtain ⟨r80, hq79, h0⟩ := ob h0
 refine sr (s1 (asg (v := .d (eS ([] : List UInt8))) rfl) (sa rfl (sn (sq (sr (sm rfl (sm rfl (c0 (row_Fits_ok p0 p1 _ hq79) wf rfl rfl rfl cb21 rfl (fun _ => rfl) (fun _ => rfl) (sa rfl ?_)))))))))
 refine sn (sr (sm rfl (s1 (bi rfl rfl q_i64_neq) (sn (cB h0 rfl (fun h0 => ?_) (fun h0 => ?_))))))
 ·have q := si h0; subst q
  exact sr (sm rfl (s1 (asg (v := .d (eS ([] : List UInt8))) rfl) (sa rfl (sn (SC.ret (finR (Wk.refl _) (lresT rfl (lresT rfl lresN)) rfl))))))
 ·obtain ⟨_, hq81, h0⟩ := ob h0
  refine sk (sr (s1 (alo (k := 0) zo158 rfl) (sn (sr (sm rfl (s1 (len rfl rfl rfl (len_lst un61)) (s1 (cvo rfl (cv_i64_u8 un3 un5 (p1.length : Int))) (cq [0] [1] (pack_Out_U8_1_ok (u8i (p1.length : Int)) _ hq81) wf rfl rfl rfl cb101 rfl rfl rfl rfl rfl rfl rfl rfl (sn ?_)))))))))
  refine SC.seqP h0 (fun y => ⟨mk 36 [(7, .ref 0 0 0)], [.box (.agg [.slc 1 1 0 y.length none]), .row 1 (List.map eU8 y) true]⟩) ?_ ?_
  ·intro u1_99 h1
   obtain ⟨u2_111, h2, h1⟩ := ob h1
   refine sr (sm rfl (s1 (len rfl rfl rfl (len_lst un61)) (sm rfl (sn (SC.blk (SC.loopB h2 (fun y => ⟨mk 36 [(7, .ref 0 0 0), (21, .d ((eL 3 eApiValue) p1)), (22, .d (eI (p1.length : Int))), (23, .d (eI y.1))], [.box (.agg [.slc 1 1 0 y.2.length none]), .row 1 (List.map eU8 y.2) true]⟩) (wq rfl) ?_))))))
   intro n115
   rintro ⟨y103, y104⟩ w2_110 h3 hv3
   refine sr (s1 (bi rfl rfl q_i64_lss) (sn (sq (cB h3 rfl (fun h3 => ?_) (fun h3 => ?_)))))
   ·obtain ⟨v112, hv112, h3⟩ := ob h3; obtain ⟨r114, hq113, h3⟩ := ob h3
    refine sk (sq (SC.blk (sr (s1 (ial rfl rfl un61 ts74 (getI_some hv112).1 (map_get (getI_some hv112).2) rfl) (s1 (lod (v := .d (eApiValue v112)) rfl (ld_rop ts74 ta74 rfl)) (s1 (alo (k := 2) zo74 rfl) (s0 (sto rfl rfl (sB (d' := .d (eApiValue v112)) ts74 rfl rfl rfl rfl rfl rfl rfl)) (sn (SC.region ?_)))))))))
    refine s1 (lod (v := .d (eApiValue v112)) rfl (ld_box ts74 ta74 rfl rfl)) (cq [0, 1] [3] (row_put_ok v112 y104 _ hq113) wf rfl rfl rfl cb102 rfl rfl rfl rfl rfl rfl rfl rfl (SO.nil ?_))
    change SC _ _ _ _ _
    have q := si h3; subst q
    exact SC.region (s1 (bi rfl rfl q_i64_add) (sm rfl (SO.nil (lf (wc [0, 3] [0] (by kernel_rfl) rfl (by kernel_rfl))))))
   ·have q := si h3; subst q; have q : _ = _ := hv3; subst q; have q := si h1; subst q
    exact SC.exit ((wq rfl))
  ·rintro y98 h0
   obtain ⟨_, hq116, h0⟩ := ob h0
   refine sr (cq [0, 1] [2] (pack_Out_Bytes_ok y98 _ hq116) wf rfl rfl rfl cb103 rfl rfl rfl rfl rfl rfl rfl rfl (sa rfl (sn (sq (sr (sm rfl (s1 (len rfl rfl rfl (len_slc un156)) (s1 (bi rfl rfl q_i64_gtr) (sn ?_)))))))))
   refine cB h0 rfl (fun h0 => ?_) (fun h0 => ?_)
   ·have q := si h0; subst q
    exact sr (s1 (asg (v := .d (eS ([] : List UInt8))) rfl) (sa rfl (sn (SC.ret (finR (wc (e' := [(4, .d (eS ([] : List UInt8))), (5, .d (eI (7 : Int)))]) [] [] (by kernel_rfl) rfl (by kernel_rfl)) (lresT rfl (lresT rfl lresN)) rfl)))))
   ·have q := si h0; subst q
    exact sk (sr (sm rfl (s1 (cvo (v := .d (eS y98)) rfl (cv_bytes_str un156 un9 un5 (el_full (xs := y98) rfl) (fun _ hh => by cases hh))) (sa rfl (sa rfl (sn (SC.ret (finR (wc (e' := [(4, .d (eS y98)), (5, .d (eI (0 : Int)))]) [] [] (by kernel_rfl) rfl (by kernel_rfl)) (lresT rfl (lresT rfl lresN)) rfl))))))))
noncomputable def schema_Entry (p0 : ApiTable) (p1 : ApiIndex) (p2 : List ApiValue) : Option (Int × ApiPair) :=
 Option.bind (schema_Front p0 p1 p2) fun (r182, r183, r184) =>
 bif (r184 != (0 : Int)) then
 some (r184, (ApiPair.mk ([] : List UInt8) ([] : List UInt8)))
 else
 Option.bind (schema_Primary p0 p2) fun (r186, r187) =>
 bif decide (r182.length + r186.length ≤ 9223372036854775807) then
 Option.bind (α := Int × ApiPair)
 (bif (decide ((p1.Extra.length : Int) > (0 : Int))) then
 Option.bind (α := (List ApiValue))
 (Option.bind (α := (List ApiValue))
 (loop (Y := (List ApiValue) × Int) (W := (List ApiValue)) (fun (y252, y253) =>
 bif (decide (y253 < (p1.Extra.length : Int))) then
 Option.bind (getI p1.Extra y253) fun v261 =>
 Option.bind (getI p2 v261) fun v262 =>
 bif decide ((y252.length + [v262].length) * 32 ≤ room) then
 some (Sum.inl ((y252 ++ [v262]), (w64 (y253 + (1 : Int)))))
 else none
 else
 some (Sum.inr y252)) (([] : List ApiValue), (0 : Int)))
 (fun e => some e))
 fun y247 =>
 Option.bind (schema_extras p0 p1) fun r266 =>
 Option.bind (row_Encode r266 y247) fun (r268, r269) =>
 some (r269, (ApiPair.mk (r182 ++ r186) r268))
 else
 some (r184, (ApiPair.mk (r182 ++ r186) ([] : List UInt8))))
 fun (y228, y229) =>
 some (y228, y229)
 else none
theorem schema_Entry_ok (p0 : ApiTable) (p1 : ApiIndex) (p2 : List ApiValue) (r : Int × ApiPair) (h0 : schema_Entry p0 p1 p2 = some r) : CallAt Tryz.prog 24 [.d (eApiTable p0), .d (eApiIndex p1), .d ((eL 3 eApiValue) p2)] [] (.tuple [.d (eApiPair r.2), .d (eI r.1)]) [.box (.d (eApiPair r.2))] := by
 unfold schema_Entry at h0
 refine fn0 [0, 1, 2] Tryz.func24 rfl rfl rfl rfl rfl ?_
 obtain ⟨⟨r182, r183, r184⟩, hq181, h0⟩ := ob h0
 refine sr (s1 (bxo (k := 0) rfl rfl rfl) (s1 (bxo (k := 1) rfl rfl rfl) (s1 (alo (k := 2) zo67 rfl) (sa rfl (sn (sr (s1 (lod (v := .d (eApiTable p0)) rfl (ld_box ts26 ta26 rfl rfl)) (s1 (lod (v := .d (eApiIndex p1)) rfl (ld_box ts60 ta60 rfl rfl)) (sm rfl ?_)))))))))
 refine c0 (schema_Front_ok p0 p1 p2 _ hq181) wf rfl rfl rfl cb60 rfl (fun _ => rfl) (fun _ => rfl) (sm rfl (s1 (ext rfl rfl) (s1 (ext rfl rfl) (s1 (ext rfl rfl) (sa rfl (sa rfl (sa rfl (sn (sq ?_)))))))))
 refine sr (sm rfl (s1 (bi rfl rfl q_i64_neq) (sn (cB h0 rfl (fun h0 => ?_) (fun h0 => ?_)))))
 ·have q := si h0; subst q
  exact sr (s1 (bld rfl (bd67_ )) (sm rfl (s0 (sto rfl rfl (sB (d' := .d (eApiPair (ApiPair.mk ([] : List UInt8) ([] : List UInt8)))) ts67 rfl rfl rfl rfl rfl rfl rfl)) (sa rfl (sn (SC.ret (finR (wc (e' := [(6, .ref 0 0 0), (7, .d (eI r184))]) [2] [2] (by kernel_rfl) rfl (by kernel_rfl)) (lresC rfl (ld_box ts67 ta67 rfl rfl) (lresT rfl lresN)) rfl)))))))
 ·obtain ⟨⟨r186, r187⟩, hq185, h0⟩ := ob h0; obtain ⟨hg188, h0⟩ := gd h0
  refine sk (sr (s1 (lod (v := .d (eApiTable p0)) rfl (ld_box ts26 ta26 rfl rfl)) (sm rfl (c0 (schema_Primary_ok p0 p2 _ hq185) wf rfl rfl rfl cb23 rfl (fun _ => rfl) (fun _ => rfl) (sm rfl (s1 (ext rfl rfl) (s1 (ext rfl rfl) (sa rfl (sa rfl ?_)))))))))
  refine sn (sr (sm rfl (sm rfl (s1 (bi (v := .d (eS (r182 ++ r186))) rfl rfl (fun X Y => b_str_add _ X Y r182 r186 hg188)) (s1 (bld rfl (bd67_0 (r182 ++ r186))) (s1 (alo (k := 3) zo67 rfl) (s0 (sto rfl rfl (sB (d' := .d (eApiPair (ApiPair.mk (r182 ++ r186) ([] : List UInt8)))) ts67 rfl rfl rfl rfl rfl rfl rfl)) (sn (SC.seqP h0 (fun y => ⟨mk 69 [(6, .ref 0 0 0), (10, .d (eI y.1)), (13, .ref 1 0 0)], [.box (.d (eApiPair (ApiPair.mk ([] : List UInt8) ([] : List UInt8)))), .box (.d (eApiPair y.2))]⟩) ?_ ?_)))))))))
  ·intro u1_230 h1
   refine sr (s1 (far (k := 2) rfl fo60_2 ts23 rfl) (s1 (lod rfl (ld_box ts23 ta23 rfl rfl)) (s1 (len rfl rfl rfl (len_lst un23)) (s1 (bi rfl rfl q_i64_gtr) (sn (cB h1 rfl (fun h1 => ?_) (fun h1 => ?_)))))))
   ·refine sr (s1 (asg (v := .d .nils) rfl) (sn (SC.seqP h1 (fun y => ⟨mk 69 [(3, .ref 0 0 0), (4, .ref 1 0 0), (6, .ref 2 0 0), (13, .ref 3 0 0), (14, .slc 4 3 0 y.length none)], [.box (.d (eApiTable p0)), .box (.d (eApiIndex p1)), .box (.d (eApiPair (ApiPair.mk ([] : List UInt8) ([] : List UInt8)))), .box (.d (eApiPair (ApiPair.mk (r182 ++ r186) ([] : List UInt8)))), .row 3 (List.map eApiValue y) true]⟩) ?_ ?_)))
    ·intro u2_248 h2
     obtain ⟨u3_260, h3, h2⟩ := ob h2
     refine sr (s1 (far (k := 2) rfl fo60_2 ts23 rfl) (s1 (lod rfl (ld_box ts23 ta23 rfl rfl)) (s1 (len rfl rfl rfl (len_lst un23)) (sm rfl (sn (SC.blk (SC.loopB h3 (fun y => ⟨mk 69 [(2, .d ((eL 3 eApiValue) p2)), (3, .ref 0 0 0), (4, .ref 1 0 0), (6, .ref 2 0 0), (13, .ref 3 0 0), (14, .slc 4 3 0 y.1.length none), (44, .d ((eL 1 eI) p1.Extra)), (45, .d (eI (p1.Extra.length : Int))), (46, .d (eI y.2))], [.box (.d (eApiTable p0)), .box (.d (eApiIndex p1)), .box (.d (eApiPair (ApiPair.mk ([] : List UInt8) ([] : List UInt8)))), .box (.d (eApiPair (ApiPair.mk (r182 ++ r186) ([] : List UInt8)))), .row 3 (List.map eApiValue y.1) true]⟩) (Wk.trans (Wk.pushE (σ' := [.box (.d (eApiTable p0)), .box (.d (eApiIndex p1)), .box (.d (eApiPair (ApiPair.mk ([] : List UInt8) ([] : List UInt8)))), .box (.d (eApiPair (ApiPair.mk (r182 ++ r186) ([] : List UInt8)))), .row 3 (List.map eApiValue ([] : List ApiValue)) true]) (.row 3 [] true) (fun _ hh => by cases hh) rfl) (Wk.trans (Wk.env (e' := [(2, .d ((eL 3 eApiValue) p2)), (3, .ref 0 0 0), (4, .ref 1 0 0), (6, .ref 2 0 0), (13, .ref 3 0 0), (14, .slc 4 3 0 (([] : List ApiValue).length) none), (44, .d ((eL 1 eI) p1.Extra)), (45, .d (eI (p1.Extra.length : Int))), (46, .d (eI (0 : Int)))]) (EW.cons (AW.refl _) (EW.cons (AW.refl _) (EW.cons (AW.refl _) (EW.cons (AW.refl _) (EW.cons (AW.refl _) (EW.cons (AW.slcn _ _ _) (EW.cons (AW.refl _) (EW.cons (AW.refl _) (EW.cons (AW.refl _) EW.nil)))))))))) (wq rfl))) ?_)))))))
     intro n264
     rintro ⟨y252, y253⟩ w3_259 h4 hv4
     refine sr (s1 (bi rfl rfl q_i64_lss) (sn (sq (cB h4 rfl (fun h4 => ?_) (fun h4 => ?_)))))
     ·obtain ⟨v261, hv261, h4⟩ := ob h4; obtain ⟨v262, hv262, h4⟩ := ob h4; obtain ⟨hg263, h4⟩ := gd h4
      refine sk (sq (SC.blk (sr (s1 (ial rfl rfl un23 ts3 (getI_some hv261).1 (map_get (getI_some hv261).2) rfl) (s1 (lod rfl (ld_rop ts3 ta3 rfl)) (sa rfl (sn (SC.region (sm rfl ?_)))))))))
      refine sm rfl (sm rfl (s1 (ial rfl rfl un61 ts74 (getI_some hv262).1 (map_get (getI_some hv262).2) rfl) (s1 (lod (v := .d (eApiValue v262)) rfl (ld_rop ts74 ta74 rfl)) (s1 (bsn (k := 5) (ds := List.map eApiValue [v262]) (off := 0) (l' := [v262].length) rfl un61 ei74 rfl rfl (by rfl) rfl rfl rfl) (s1 (app rfl rfl rfl rfl bc61 (aF (f := eApiValue) (xs := y252) (k := 6) rfl un61 ei74 rfl (el_full (xs := [v262]) rfl) hg263 rfl)) (sa rfl (SO.nil ?_)))))))
      change SC _ _ _ _ _
      have q := si h4; subst q
      exact SC.region (s1 (bi rfl rfl q_i64_add) (sm rfl (SO.nil (lf (wc [0, 1, 2, 3, 6] [0, 1, 2, 3, 6] (by kernel_rfl) rfl (by kernel_rfl))))))
     ·have q := si h4; subst q; have q : _ = _ := hv4; subst q; have q := si h2; subst q
      exact SC.exit ((wq rfl))
    ·rintro y247 h1
     obtain ⟨r266, hq265, h1⟩ := ob h1; obtain ⟨⟨r268, r269⟩, hq267, h1⟩ := ob h1; have q := si h1; subst q
     refine SC.region (s1 (lod (v := .d (eApiTable p0)) rfl (ld_box ts26 ta26 rfl rfl)) (s1 (lod (v := .d (eApiIndex p1)) rfl (ld_box ts60 ta60 rfl rfl)) (c0 (schema_extras_ok p0 p1 _ hq265) wf rfl rfl rfl cb62 rfl (fun _ => rfl) (fun _ => rfl) (sm rfl (cq (args' := [.d ((eL 7 eApiColumn) r266), .slc 0 3 0 y247.length none]) (σc := [.row 3 (List.map eApiValue y247) true]) [4] [] (CallAt.frz (ArgF.keep (ArgF.frz (fF rfl rfl rfl) (ArgF.nil _))) (fq [] [] (row_Encode_ok r266 y247 _ hq267) rfl rfl rfl rfl rfl rfl rfl rfl)) wf rfl rfl rfl cb61 rfl rfl rfl rfl rfl rfl rfl rfl (sm rfl (s1 (ext rfl rfl) (s1 (ext rfl rfl) (s1 (far (k := 1) rfl fo67_1 ts9 rfl) ?_)))))))))
     exact s0 (sto rfl rfl (sB (d' := .d (eApiPair (ApiPair.mk (r182 ++ r186) r268))) ts9 rfl rfl rfl rfl rfl rfl rfl)) (sa rfl (SO.nil ((wc [2, 3] [2, 3] (by kernel_rfl) rfl (by kernel_rfl)))))
   ·have q := si h1; subst q
    exact SC.skip ((wc [2, 3] [2, 3] (by kernel_rfl) rfl (by kernel_rfl)))
  ·rintro ⟨y228, y229⟩ h0
   have q := si h0; subst q
   exact sr (s1 (lod (v := .d (eApiPair y229)) rfl (ld_box ts67 ta67 rfl rfl)) (sm rfl (s0 (sto rfl rfl (sB (d' := .d (eApiPair y229)) ts67 rfl rfl rfl rfl rfl rfl rfl)) (sa rfl (sn (SC.ret (finR (wc (e' := [(6, .ref 0 0 0), (7, .d (eI y228))]) [0] [0] (by kernel_rfl) rfl (by kernel_rfl)) (lresC rfl (ld_box ts67 ta67 rfl rfl) (lresT rfl lresN)) rfl)))))))
noncomputable def ref07_In (p0 : ApiSpan) (p1 : List UInt8) : Option Bool :=
 Option.bind (α := Bool)
 (bif (!(ltS p1 p0.Lo)) then
 bif p0.Open then
 some true
 else
 some (ltS p1 p0.Hi)
 else
 some false)
 fun y6 =>
 some y6
theorem ref07_In_ok (p0 : ApiSpan) (p1 : List UInt8) (r : Bool) (h0 : ref07_In p0 p1 = some r) : CallAt Tryz.prog 25 [.d (eApiSpan p0), .d (eS p1)] [] (.d (eB r)) [] := by
 unfold ref07_In at h0
 refine fn0 [0, 1] Tryz.func25 rfl rfl rfl rfl rfl ?_
 refine sr (s1 (bxo (k := 0) rfl rfl rfl) (sa rfl (sn (SC.seqP h0 (fun y => ⟨mk 19 [(4, .d (eB y))], []⟩) ?_ ?_))))
 ·intro u1_7 h1
  refine SC.region (sm rfl (s1 (far (k := 0) rfl fo50_0 ts9 rfl) (s1 (lod rfl (ld_box ts9 ta9 rfl rfl)) (s1 (bi rfl rfl q_str_geq) (sm rfl (sp h1 (fun h1 => ?_) (fun h1 => ?_)))))))
  ·refine gw rfl (far (k := 2) rfl fo50_2 ts4 rfl) (gw rfl (lod rfl (ld_box ts4 ta4 rfl rfl)) (gw rfl (mv rfl) (sp h1 (fun h1 => ?_) (fun h1 => ?_))))
   ·have q := si h1; subst q
    exact kw rfl (kw rfl (kw rfl (kw rfl (gw rfl (pkt rfl rfl) (s1 (pkt rfl rfl) (sa rfl (SO.nil ((wc [] [] (by kernel_rfl) rfl (by kernel_rfl))))))))))
   ·have q := si h1; subst q
    exact gw rfl (mv rfl) (gw rfl (far (k := 1) rfl fo50_1 ts9 rfl) (gw rfl (lod rfl (ld_box ts9 ta9 rfl rfl)) (gw rfl (bi rfl rfl q_str_lss) (gw rfl (pkf rfl rfl) (s1 (pkt rfl rfl) (sa rfl (SO.nil ((wc [] [] (by kernel_rfl) rfl (by kernel_rfl))))))))))
  ·have q := si h1; subst q
   refine kw rfl (kw rfl (kw rfl (kw rfl (kw rfl (kw rfl (kw rfl (kw rfl (s1 (pkf rfl rfl) (sa rfl ?_)))))))))
   exact SO.nil ((wc [] [] (by kernel_rfl) rfl (by kernel_rfl)))
 ·rintro y6 h0
  have q := si h0; subst q
  exact SC.ret (finR (Wk.refl _) (lresT rfl lresN) rfl)
noncomputable def law21_PlanSpans (p0 : ApiTable) (p1 : PlanQuery) (p2 : List ApiValue) : Option Bool :=
 Option.bind law21_awake fun r589 =>
 bif (!r589) then
 some false
 else
 Option.bind (α := Bool)
 (Option.bind (ref17_Check p0) fun r597 =>
 bif (r597 != (0 : Int)) then
 some true
 else
 Option.bind (plan_Check p0 p1) fun r599 =>
 some (r599 != (0 : Int)))
 fun y594 =>
 bif y594 then
 some true
 else
 Option.bind (plan_Plans p0 p1) fun r601 =>
 Option.bind (α := Bool)
 (bif ((r601.length : Int) == (0 : Int)) then
 some true
 else
 Option.bind (getI r601 (0 : Int)) fun v606 =>
 bif (v606.Index != (-1 : Int)) then
 some true
 else
 Option.bind (getI r601 (0 : Int)) fun v607 =>
 some (!(eqApiSpan v607.Span (ApiSpan.mk ([] : List UInt8) ([] : List UInt8) true))))
 fun y604 =>
 bif y604 then
 some false
 else
 Option.bind (α := Bool)
 (Option.bind (row_Fits p0.Cols p2) fun r615 =>
 bif (r615 != (0 : Int)) then
 some true
 else
 Option.bind (pred_Eval p1.Pred p2) fun r617 =>
 some (!r617))
 fun y612 =>
 bif y612 then
 some true
 else
 bindE (Y := Unit) (E := Bool)
 (Option.bind (α := Unit ⊕ Bool)
 (loop (Y := Int) (W := Unit ⊕ Bool) (fun y792 =>
 bif (decide (y792 < (r601.length : Int))) then
 Option.bind (schema_Primary p0 p2) fun (r839, r840) =>
 bindE (Y := (List UInt8) × Int) (E := Bool)
 (Option.bind (getI r601 y792) fun v858 =>
 bif (decide (v858.Index ≥ (0 : Int))) then
 Option.bind (α := Bool)
 (Option.bind (getI r601 y792) fun v864 =>
 bif (decide (v864.Index ≥ (p0.Indexes.length : Int))) then
 some true
 else
 Option.bind (getI r601 y792) fun v865 =>
 Option.bind (getI p0.Indexes v865.Index) fun v866 =>
 some (!v866.Ready))
 fun y862 =>
 bif y862 then
 some (Sum.inr false)
 else
 Option.bind (getI r601 y792) fun v867 =>
 Option.bind (getI p0.Indexes v867.Index) fun v868 =>
 Option.bind (schema_Entry p0 v868 p2) fun (r870, r871) =>
 some (Sum.inl (r871.Key, r870))
 else
 some (Sum.inl (r839, r840)))
 (fun (y855, y856) =>
 Option.bind (α := Bool)
 (bif (y856 != (0 : Int)) then
 some true
 else
 Option.bind (getI r601 y792) fun v877 =>
 Option.bind (ref07_In v877.Span y855) fun r879 =>
 some (!r879))
 fun y875 =>
 bif y875 then
 some (Sum.inr (Sum.inr false))
 else
 some (Sum.inl (w64 (y792 + (1 : Int)))))
 (fun e => some (Sum.inr (Sum.inr e)))
 else
 some (Sum.inr (Sum.inl ()))) (1 : Int))
 (Sum.elim (fun e => some (Sum.inl e)) (fun e => some (Sum.inr e))))
 (fun _ =>
 some true)
 (fun e => some e)
theorem law21_PlanSpans_ok (p0 : ApiTable) (p1 : PlanQuery) (p2 : List ApiValue) (r : Bool) (h0 : law21_PlanSpans p0 p1 p2 = some r) : CallAt Tryz.prog 6 [.d (eApiTable p0), .d (ePlanQuery p1), .d ((eL 3 eApiValue) p2)] [] (.d (eB r)) [] := by
 unfold law21_PlanSpans at h0
 refine fn0 [0, 1, 2] Tryz.func6 rfl rfl rfl rfl rfl ?_
 obtain ⟨r589, hq588, h0⟩ := ob h0
 refine sr (s1 (bxo (k := 0) rfl rfl rfl) (s1 (bxo (k := 1) rfl rfl rfl) (sa rfl (sn (sq (sr (c0 (law21_awake_ok _ hq588) wf rfl rfl rfl cb7 rfl (fun _ => rfl) (fun _ => rfl) (s1 (nt rfl) (sn ?_)))))))))
 refine cB h0 rfl (fun h0 => ?_) (fun h0 => ?_)
 ·have q := si h0; subst q
  exact sr (sa rfl (sn (SC.ret (finR (wc (e' := [(6, .d (eB false))]) [] [] (by kernel_rfl) rfl (by kernel_rfl)) (lresT rfl lresN) rfl))))
 ·refine sk (sq (SC.seqP h0 (fun y => ⟨mk 127 [(2, .d ((eL 3 eApiValue) p2)), (3, .ref 0 0 0), (4, .ref 1 0 0), (23, .d (eB y))], [.box (.d (eApiTable p0)), .box (.d (ePlanQuery p1))]⟩) ?_ ?_))
  ·intro u1_595 h1
   obtain ⟨r597, hq596, h1⟩ := ob h1
   refine SC.region (s1 (lod (v := .d (eApiTable p0)) rfl (ld_box ts26 ta26 rfl rfl)) (c0 (ref17_Check_ok p0 _ hq596) wf rfl rfl rfl cb8 rfl (fun _ => rfl) (fun _ => rfl) (s1 (bi rfl rfl q_i64_neq) (sm rfl (sp h1 (fun h1 => ?_) (fun h1 => ?_))))))
   ·have q := si h1; subst q
    exact kw rfl (kw rfl (kw rfl (kw rfl (s1 (pkt rfl rfl) (SO.nil ((wq rfl)))))))
   ·obtain ⟨r599, hq598, h1⟩ := ob h1; have q := si h1; subst q
    exact gw rfl (lod (v := .d (eApiTable p0)) rfl (ld_box ts26 ta26 rfl rfl)) (gw rfl (lod (v := .d (ePlanQuery p1)) rfl (ld_box ts30 ta30 rfl rfl)) (c0 (plan_Check_ok p0 p1 _ hq598) (ww rfl) rfl rfl rfl cb11 rfl (fun _ => rfl) (fun _ => rfl) (gw rfl (bi rfl rfl q_i64_neq) (s1 (pkf rfl rfl) (SO.nil ((wq rfl)))))))
  ·rintro y594 h0
   refine cB h0 rfl (fun h0 => ?_) (fun h0 => ?_)
   ·have q := si h0; subst q
    exact sr (sa rfl (sn (SC.ret (finR (wc (e' := [(6, .d (eB true))]) [] [] (by kernel_rfl) rfl (by kernel_rfl)) (lresT rfl lresN) rfl))))
   ·obtain ⟨r601, hq600, h0⟩ := ob h0
    refine sk (sr (s1 (lod (v := .d (eApiTable p0)) rfl (ld_box ts26 ta26 rfl rfl)) (s1 (lod (v := .d (ePlanQuery p1)) rfl (ld_box ts30 ta30 rfl rfl)) (c0 (plan_Plans_ok p0 p1 _ hq600) wf rfl rfl rfl cb13 rfl (fun _ => rfl) (fun _ => rfl) (sa rfl (sn (sq (SC.seqP h0 (fun y => ⟨mk 127 [(2, .d ((eL 3 eApiValue) p2)), (3, .ref 0 0 0), (4, .ref 1 0 0), (7, .d ((eL 8 ePlanPlan) r601)), (44, .d (eB y))], [.box (.d (eApiTable p0)), .box (.d (ePlanQuery p1))]⟩) ?_ ?_))))))))
    ·intro u1_605 h1
     refine SC.region (sm rfl (s1 (len rfl rfl rfl (len_lst un41)) (s1 (bi rfl rfl q_i64_eql) (sm rfl (sp h1 (fun h1 => ?_) (fun h1 => ?_))))))
     ·have q := si h1; subst q
      refine kw rfl (kw rfl (kw rfl (kw rfl (kw rfl (s1 (pkt rfl rfl) (sm rfl (kw rfl (kw rfl (kw rfl ?_)))))))))
      exact kw rfl (kw rfl (kw rfl (s1 (pkt rfl rfl) (SO.nil ((wq rfl))))))
     ·obtain ⟨v606, hv606, h1⟩ := ob h1
      refine gw rfl (mv rfl) (gw rfl (ial rfl rfl un41 ts52 (getI_some hv606).1 (map_get (getI_some hv606).2) rfl) (gw rfl (fap rfl fo52_0 ts3 rfl) (gw rfl (lod rfl (ld_rop ts3 ta3 rfl)) (gw rfl (bi rfl rfl q_i64_neq) (s1 (pkf rfl rfl) (sm rfl (sp h1 (fun h1 => ?_) (fun h1 => ?_))))))))
      ·have q := si h1; subst q
       exact kw rfl (kw rfl (kw rfl (kw rfl (kw rfl (kw rfl (s1 (pkt rfl rfl) (SO.nil ((wq rfl)))))))))
      ·obtain ⟨v607, hv607, h1⟩ := ob h1; have q := si h1; subst q
       exact gw rfl (mv rfl) (gw rfl (ial rfl rfl un41 ts52 (getI_some hv607).1 (map_get (getI_some hv607).2) rfl) (gw rfl (fap rfl fo52_1 ts50 rfl) (gw rfl (lod (v := .d (eApiSpan v607.Span)) rfl (ld_rop ts50 ta50 rfl)) (gw rfl (bld rfl (bd50_2 true)) (gw rfl (bi (v := .d (eB (!(eqApiSpan v607.Span (ApiSpan.mk ([] : List UInt8) ([] : List UInt8) true))))) rfl rfl (fun X Y => eqApiSpan_neq_50 X Y v607.Span (ApiSpan.mk ([] : List UInt8) ([] : List UInt8) true))) (s1 (pkf rfl rfl) (SO.nil ((wq rfl)))))))))
    ·rintro y604 h0
     refine cB h0 rfl (fun h0 => ?_) (fun h0 => ?_)
     ·have q := si h0; subst q
      exact sr (sa rfl (sn (SC.ret (finR (wc (e' := [(6, .d (eB false))]) [] [] (by kernel_rfl) rfl (by kernel_rfl)) (lresT rfl lresN) rfl))))
     ·refine sk (sq (SC.seqP h0 (fun y => ⟨mk 127 [(2, .d ((eL 3 eApiValue) p2)), (3, .ref 0 0 0), (7, .d ((eL 8 ePlanPlan) r601)), (56, .d (eB y))], [.box (.d (eApiTable p0))]⟩) ?_ ?_))
      ·intro u1_613 h1
       obtain ⟨r615, hq614, h1⟩ := ob h1
       refine SC.region (s1 (far (k := 1) rfl fo26_1 ts22 rfl) (s1 (lod rfl (ld_box ts22 ta22 rfl rfl)) (sm rfl (c0 (row_Fits_ok p0.Cols p2 _ hq614) wf rfl rfl rfl cb21 rfl (fun _ => rfl) (fun _ => rfl) (s1 (bi rfl rfl q_i64_neq) (sm rfl (sp h1 (fun h1 => ?_) (fun h1 => ?_))))))))
       ·have q := si h1; subst q
        exact kw rfl (kw rfl (kw rfl (kw rfl (kw rfl (s1 (pkt rfl rfl) (SO.nil ((wc [0] [0] (by kernel_rfl) rfl (by kernel_rfl)))))))))
       ·obtain ⟨r617, hq616, h1⟩ := ob h1; have q := si h1; subst q
        exact gw rfl (far (k := 0) rfl fo30_0 ts27 rfl) (gw rfl (lod rfl (ld_box ts27 ta27 rfl rfl)) (gw rfl (mv rfl) (c0 (pred_Eval_ok p1.Pred p2 _ hq616) (ww rfl) rfl rfl rfl cb22 rfl (fun _ => rfl) (fun _ => rfl) (gw rfl (nt rfl) (s1 (pkf rfl rfl) (SO.nil ((wc [0] [0] (by kernel_rfl) rfl (by kernel_rfl)))))))))
      ·rintro y612 h0
       refine cB h0 rfl (fun h0 => ?_) (fun h0 => ?_)
       ·have q := si h0; subst q
        exact sr (sa rfl (sn (SC.ret (finR (wc (e' := [(6, .d (eB true))]) [] [] (by kernel_rfl) rfl (by kernel_rfl)) (lresT rfl lresN) rfl))))
       ·refine sk (SC.seqB h0 (fun y => ⟨mk 127 [], []⟩) ?_ ?_)
        ·intro u1_749 h1 h0
         obtain ⟨u2_837, h2, h1⟩ := ob h1
         refine sr (sa rfl (sn (SC.blk (SC.loopB h2 (fun y => ⟨mk 127 [(2, .d ((eL 3 eApiValue) p2)), (3, .ref 0 0 0), (7, .d ((eL 8 ePlanPlan) r601)), (8, .d (eI y))], [.box (.d (eApiTable p0))]⟩) (wq rfl) ?_))))
         intro n880
         rintro y792 w2_836 h3 hv3
         refine sq (sr (sm rfl (sm rfl (s1 (len rfl rfl rfl (len_lst un41)) (s1 (bi rfl rfl q_i64_lss) (sn (cB h3 rfl (fun h3 => ?_) (fun h3 => ?_))))))))
         ·obtain ⟨⟨r839, r840⟩, hq838, h3⟩ := ob h3
          refine sk (sq (SC.blk (sr (s1 (lod (v := .d (eApiTable p0)) rfl (ld_box ts26 ta26 rfl rfl)) (sm rfl (c0 (schema_Primary_ok p0 p2 _ hq838) wf rfl rfl rfl cb23 rfl (fun _ => rfl) (fun _ => rfl) (sm rfl (s1 (ext rfl rfl) (s1 (ext rfl rfl) ?_)))))))))
          refine sa rfl (sa rfl (sn (SC.seqB h3 (fun y => ⟨mk 127 [(2, .d ((eL 3 eApiValue) p2)), (3, .ref 0 0 0), (7, .d ((eL 8 ePlanPlan) r601)), (8, .d (eI y792)), (9, .d (eS y.1)), (10, .d (eI y.2))], [.box (.d (eApiTable p0))]⟩) ?_ ?_)))
          ·intro u4_857 h4 h3
           obtain ⟨v858, hv858, h4⟩ := ob h4
           refine sr (sm rfl (sm rfl (s1 (ial rfl rfl un41 ts52 (getI_some hv858).1 (map_get (getI_some hv858).2) rfl) (s1 (fap rfl fo52_0 ts3 rfl) (s1 (lod rfl (ld_rop ts3 ta3 rfl)) (s1 (bi rfl rfl q_i64_geq) (sn (cB h4 rfl (fun h4 => ?_) (fun h4 => ?_)))))))))
           ·refine sq (SC.seqP h4 (fun y => ⟨mk 127 [(2, .d ((eL 3 eApiValue) p2)), (3, .ref 0 0 0), (7, .d ((eL 8 ePlanPlan) r601)), (8, .d (eI y792)), (96, .d (eB y))], [.box (.d (eApiTable p0))]⟩) ?_ ?_)
            ·intro u5_863 h5
             obtain ⟨v864, hv864, h5⟩ := ob h5
             refine SC.draws (by kernel_rfl) (t1 ([], false) (mv rfl) rfl (t1 ([], false) (mv rfl) rfl (t1 ([], false) (ial rfl rfl un41 ts52 (getI_some hv864).1 (map_get (getI_some hv864).2) rfl) rfl (t1 ([], false) (fap rfl fo52_0 ts3 rfl) rfl (t1 ([], false) (lod rfl (ld_rop ts3 ta3 rfl)) rfl (t1 ([], false) (far (k := 3) rfl fo26_3 ts24 rfl) rfl (t1 ([0], false) (lod rfl (ld_box ts24 ta24 rfl rfl)) rfl (t1 ([], false) (len rfl rfl rfl (len_lst un24)) rfl (t1 ([], false) (bi rfl rfl q_i64_geq) rfl ?_)))))))))
             refine t1 ([], false) (mv rfl) rfl (tp h5 (fun h5 => ?_) (fun h5 => ?_))
             ·have q := si h5; subst q
              refine jw rfl (jw rfl (jw rfl (jw rfl (jw rfl (jw rfl (jw rfl (jw rfl (jw rfl (jw rfl ?_)))))))))
              refine jw rfl (t1 ([], false) (pkt rfl rfl) rfl (ST.nil (And.intro (by decide +kernel) ?_)))
              exact (wq rfl)
             ·obtain ⟨v865, hv865, h5⟩ := ob h5; obtain ⟨v866, hv866, h5⟩ := ob h5; have q := si h5; subst q
              refine u1 ([], false) (ww rfl) (far (k := 3) rfl fo26_3 ts24 rfl) rfl (u1 ([0], false) (ww rfl) (lod rfl (ld_box ts24 ta24 rfl rfl)) rfl (u1 ([], false) (ww rfl) (mv rfl) rfl (u1 ([], false) (ww rfl) (mv rfl) rfl (u1 ([], false) (ww rfl) (ial rfl rfl un41 ts52 (getI_some hv865).1 (map_get (getI_some hv865).2) rfl) rfl (u1 ([], false) (ww rfl) (fap rfl fo52_0 ts3 rfl) rfl (u1 ([], false) (ww rfl) (lod rfl (ld_rop ts3 ta3 rfl)) rfl (u1 ([], false) (ww rfl) (ial rfl rfl un24 ts60 (getI_some hv866).1 (map_get (getI_some hv866).2) rfl) rfl (u1 ([], false) (ww rfl) (fap rfl fo60_4 ts4 rfl) rfl (u1 ([], false) (ww rfl) (lod rfl (ld_rop ts4 ta4 rfl)) rfl ?_)))))))))
              refine u1 ([], false) (ww rfl) (nt rfl) rfl (t1 ([], false) (pkf rfl rfl) rfl (ST.nil (And.intro (by decide +kernel) ?_)))
              exact (wq rfl)
            ·rintro y862 h4
             refine cB h4 rfl (fun h4 => ?_) (fun h4 => ?_)
             ·have q := si h4; subst q; have q := si h3; subst q; have q : _ = _ := hv3; subst q; have q := si h1; subst q; have q := si h0; subst q
              exact sr (sa rfl (sn (SC.ret (finR (wc (e' := [(6, .d (eB false))]) [] [] (by kernel_rfl) rfl (by kernel_rfl)) (lresT rfl lresN) rfl))))
             ·obtain ⟨v867, hv867, h4⟩ := ob h4; obtain ⟨v868, hv868, h4⟩ := ob h4; obtain ⟨⟨r870, r871⟩, hq869, h4⟩ := ob h4; have q := si h4; subst q
              refine sk (sd (by kernel_rfl) (t1 ([0], false) (lod (v := .d (eApiTable p0)) rfl (ld_box ts26 ta26 rfl rfl)) rfl (t1 ([], false) (far (k := 3) rfl fo26_3 ts24 rfl) rfl (t1 ([0], false) (lod rfl (ld_box ts24 ta24 rfl rfl)) rfl (t1 ([], false) (mv rfl) rfl (t1 ([], false) (mv rfl) rfl (t1 ([], false) (ial rfl rfl un41 ts52 (getI_some hv867).1 (map_get (getI_some hv867).2) rfl) rfl (t1 ([], false) (fap rfl fo52_0 ts3 rfl) rfl (t1 ([], false) (lod rfl (ld_rop ts3 ta3 rfl)) rfl ?_)))))))))
              refine t1 ([], false) (ial rfl rfl un24 ts60 (getI_some hv868).1 (map_get (getI_some hv868).2) rfl) rfl (t1 ([], false) (lod (v := .d (eApiIndex v868)) rfl (ld_rop ts60 ta60 rfl)) rfl (t1 ([], false) (mv rfl) rfl (tq [] [1] ([1], true) (schema_Entry_ok p0 v868 p2 _ hq869) wf rfl rfl rfl cb24 rfl rfl rfl rfl rfl rfl rfl rfl rfl (t1 ([], false) (mv rfl) rfl (t1 ([], false) (ext rfl rfl) rfl (t1 ([], false) (ext rfl rfl) rfl (t1 ([2], true) (alo (k := 2) zo67 rfl) rfl (t0 ([2], true) (sto rfl rfl (sB (d' := .d (eApiPair r871)) ts67 rfl rfl rfl rfl rfl rfl rfl)) rfl (t1 ([], false) (asg rfl) rfl ?_)))))))))
              refine tn (by decide +kernel) (sr (s1 (far (k := 0) rfl fo67_0 ts9 rfl) (s1 (lod rfl (ld_box ts9 ta9 rfl rfl)) (sa rfl (sn (SC.region (sm rfl (sa rfl (SO.nil ?_)))))))))
              exact lf (wc [0] [0] (by kernel_rfl) rfl (by kernel_rfl))
           ·have q := si h4; subst q
            exact SC.skip (lf (wq rfl))
          ·rintro ⟨y855, y856⟩ h3
           refine SC.seqP h3 (fun y => ⟨mk 127 [(2, .d ((eL 3 eApiValue) p2)), (3, .ref 0 0 0), (7, .d ((eL 8 ePlanPlan) r601)), (8, .d (eI y792)), (126, .d (eB y))], [.box (.d (eApiTable p0))]⟩) ?_ ?_
           ·intro u4_876 h4
            refine SC.region (sm rfl (s1 (bi rfl rfl q_i64_neq) (sm rfl (sp h4 (fun h4 => ?_) (fun h4 => ?_)))))
            ·have q := si h4; subst q
             refine kw rfl (kw rfl (kw rfl (kw rfl (kw rfl (kw rfl (kw rfl (kw rfl (s1 (pkt rfl rfl) (SO.nil ?_)))))))))
             exact (wq rfl)
            ·obtain ⟨v877, hv877, h4⟩ := ob h4; obtain ⟨r879, hq878, h4⟩ := ob h4; have q := si h4; subst q
             refine gw rfl (mv rfl) (gw rfl (mv rfl) (gw rfl (ial rfl rfl un41 ts52 (getI_some hv877).1 (map_get (getI_some hv877).2) rfl) (gw rfl (fap rfl fo52_1 ts50 rfl) (gw rfl (lod (v := .d (eApiSpan v877.Span)) rfl (ld_rop ts50 ta50 rfl)) (gw rfl (mv rfl) (c0 (ref07_In_ok v877.Span y855 _ hq878) (ww rfl) rfl rfl rfl cb25 rfl (fun _ => rfl) (fun _ => rfl) (gw rfl (nt rfl) (s1 (pkf rfl rfl) (SO.nil ?_)))))))))
             exact (wq rfl)
           ·rintro y875 h3
            refine cB h3 rfl (fun h3 => ?_) (fun h3 => ?_)
            ·have q := si h3; subst q; have q : _ = _ := hv3; subst q; have q := si h1; subst q; have q := si h0; subst q
             exact sr (sa rfl (sn (SC.ret (finR (wc (e' := [(6, .d (eB false))]) [] [] (by kernel_rfl) rfl (by kernel_rfl)) (lresT rfl lresN) rfl))))
            ·refine SC.skip ?_
             change SC _ _ _ _ _
             have q := si h3; subst q
             exact SC.region (sm rfl (s1 (bi rfl rfl q_i64_add) (sa rfl (SO.nil (lf (wq rfl))))))
         ·have q := si h3; subst q; have q : _ = _ := hv3; subst q; have q := si h1; subst q
          exact SC.exit (lf (wc [] [] (by kernel_rfl) rfl (by kernel_rfl)))
        ·intro _ h0
         have q := si h0; subst q
         exact sr (sa rfl (sn (SC.ret (finR (Wk.refl _) (lresT rfl lresN) rfl))))
end Lv
