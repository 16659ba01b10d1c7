/- Part of the proof of a law: functions and their walks. -/
import Derived.Test.YtiipocnfifahpaaGreatDoorXFn0
namespace Lv
open Go Go.Proofs
set_option linter.unusedVariables false
set_option linter.unusedSimpArgs false
set_option linter.unusedSectionVars false
set_option maxRecDepth 100000
variable [BaseTab] [TabOk]
noncomputable def cmp_isNaN_uint64 (p0 : UInt64) : Option Unit :=
 some ()
theorem cmp_isNaN_uint64_ok (p0 : UInt64) (r : Unit) (h0 : cmp_isNaN_uint64 p0 = some r) : CallAt Tryz.prog 94 [.d (eU64 p0)] [] (.d (eB (p0 != p0))) [] := by
 unfold cmp_isNaN_uint64 at h0
 refine fn0 [0] Tryz.func94 rfl rfl rfl rfl rfl ?_
 have q := si h0; subst q
 refine sr (sa rfl (sn (sr (sm rfl (sm rfl (s1 (bi rfl rfl q_u64_neq) (sa rfl (sn (SC.ret ?_)))))))))
 exact finR (Wk.refl _) (lresT rfl lresN) rfl
noncomputable def cmp_Compare_uint64 (p0 : UInt64) (p1 : UInt64) : Option Int :=
 Option.bind (cmp_isNaN_uint64 p0) fun _ =>
 Option.bind (cmp_isNaN_uint64 p1) fun _ =>
 bif (p0 != p0) then
 bif (p1 != p1) then
 some (0 : Int)
 else
 some (-1 : Int)
 else
 bif (p1 != p1) then
 some (1 : Int)
 else
 bif (decide (p0 < p1)) then
 some (-1 : Int)
 else
 bif (decide (p1 < p0)) then
 some (1 : Int)
 else
 some (0 : Int)
theorem cmp_Compare_uint64_ok (p0 : UInt64) (p1 : UInt64) (r : Int) (h0 : cmp_Compare_uint64 p0 p1 = some r) : CallAt Tryz.prog 86 [.d (eU64 p0), .d (eU64 p1)] [] (.d (eI r)) [] := by
 unfold cmp_Compare_uint64 at h0
 refine fn0 [0, 1] Tryz.func86 rfl rfl rfl rfl rfl ?_
 obtain ⟨_, hq6, h0⟩ := ob h0; obtain ⟨_, hq7, h0⟩ := ob h0
 refine sr (sa rfl (sn (sr (sm rfl (c0 (cmp_isNaN_uint64_ok p0 _ hq6) wf rfl rfl rfl cb94 rfl (fun _ => rfl) (fun _ => rfl) (sa rfl (sn (sr (sm rfl ?_)))))))))
 refine c0 (cmp_isNaN_uint64_ok p1 _ hq7) wf rfl rfl rfl cb94 rfl (fun _ => rfl) (fun _ => rfl) (sa rfl (sn (sq (sr (sm rfl (sn (cB h0 rfl (fun h0 => ?_) (fun h0 => ?_))))))))
 ·refine sq (sr (sm rfl (sn (cB h0 rfl (fun h0 => ?_) (fun h0 => ?_)))))
  ·have q := si h0; subst q
   exact sr (sa rfl (sn (SC.ret (finR (Wk.refl _) (lresT rfl lresN) rfl))))
  ·have q := si h0; subst q
   exact sk (sr (sa rfl (sn (SC.ret (finR (Wk.refl _) (lresT rfl lresN) rfl)))))
 ·refine sk (sq (sr (sm rfl (sn (cB h0 rfl (fun h0 => ?_) (fun h0 => ?_))))))
  ·have q := si h0; subst q
   exact sr (sa rfl (sn (SC.ret (finR (Wk.refl _) (lresT rfl lresN) rfl))))
  ·refine sk (sq (sr (sm rfl (sm rfl (s1 (bi rfl rfl q_u64_lss) (sn (cB h0 rfl (fun h0 => ?_) (fun h0 => ?_))))))))
   ·have q := si h0; subst q
    exact sr (sa rfl (sn (SC.ret (finR (Wk.refl _) (lresT rfl lresN) rfl))))
   ·refine sk (sq (sr (sm rfl (sm rfl (s1 (bi rfl rfl q_u64_gtr) (sn (cB h0 rfl (fun h0 => ?_) (fun h0 => ?_))))))))
    ·have q := si h0; subst q
     exact sr (sa rfl (sn (SC.ret (finR (Wk.refl _) (lresT rfl lresN) rfl))))
    ·have q := si h0; subst q
     exact sk (sr (sa rfl (sn (SC.ret (finR (Wk.refl _) (lresT rfl lresN) rfl)))))
noncomputable def cmp_Or_int (p0 : List Int) : Option Int :=
 bindE (Y := Unit) (E := Int)
 (Option.bind (α := Unit ⊕ Int)
 (loop (Y := Int) (W := Unit ⊕ Int) (fun y46 =>
 bif (decide (y46 < (p0.length : Int))) then
 Option.bind (getI p0 y46) fun v51 =>
 bif (v51 != (0 : Int)) then
 some (Sum.inr (Sum.inr v51))
 else
 some (Sum.inl (w64 (y46 + (1 : Int))))
 else
 some (Sum.inr (Sum.inl ()))) (0 : Int))
 (Sum.elim (fun e => some (Sum.inl e)) (fun e => some (Sum.inr e))))
 (fun _ =>
 some (0 : Int))
 (fun e => some e)
theorem cmp_Or_int_ok (p0 : List Int) (r : Int) (h0 : cmp_Or_int p0 = some r) : CallAt Tryz.prog 85 [.d ((eL 1 eI) p0)] [] (.d (eI r)) [] := by
 unfold cmp_Or_int at h0
 refine fn0 [0] Tryz.func85 rfl rfl rfl rfl rfl ?_
 refine sr (sa rfl (sn (sr (sa rfl (sn (SC.seqB h0 (fun y => ⟨mk 18 [(3, .d (eI (0 : Int)))], []⟩) ?_ ?_))))))
 ·intro u1_44 h1 h0
  obtain ⟨u2_50, h2, h1⟩ := ob h1
  refine sr (sm rfl (s1 (len rfl rfl rfl (len_lst un45)) (sm rfl (sn (SC.blk (SC.loopB h2 (fun y => ⟨mk 18 [(3, .d (eI (0 : Int))), (6, .d ((eL 1 eI) p0)), (7, .d (eI (p0.length : Int))), (8, .d (eI y))], []⟩) (wq rfl) ?_))))))
  intro n52
  rintro y46 w2_49 h3 hv3
  refine sr (s1 (bi rfl rfl q_i64_lss) (sn (sq (cB h3 rfl (fun h3 => ?_) (fun h3 => ?_)))))
  ·obtain ⟨v51, hv51, h3⟩ := ob h3
   refine sk (sq (SC.blk (sr (s1 (ial rfl rfl un45 ts3 (getI_some hv51).1 (map_get (getI_some hv51).2) rfl) (s1 (lod rfl (ld_rop ts3 ta3 rfl)) (sa rfl (sn (sr (sm rfl ?_)))))))))
   refine sm rfl (s1 (bi rfl rfl q_i64_neq) (sn (cB h3 rfl (fun h3 => ?_) (fun h3 => ?_))))
   ·have q := si h3; subst q; have q : _ = _ := hv3; subst q; have q := si h1; subst q; have q := si h0; subst q
    exact sr (sm rfl (sa rfl (sn (SC.ret (finR (Wk.refl _) (lresT rfl lresN) rfl)))))
   ·refine SC.skip ?_
    change SC _ _ _ _ _
    have q := si h3; subst q
    exact SC.region (s1 (bi rfl rfl q_i64_add) (sm rfl (SO.nil (lf (wq rfl)))))
  ·have q := si h3; subst q; have q : _ = _ := hv3; subst q; have q := si h1; subst q
   exact SC.exit (lf (wq rfl))
 ·intro _ h0
  have q := si h0; subst q
  exact sr (sm rfl (sa rfl (sn (SC.ret (finR (Wk.refl _) (lresT rfl lresN) rfl)))))
noncomputable def value_Cmp_1 (p0 : ApiValue) (p1 : ApiValue) : Option Int :=
 Option.bind (cmp_Compare_int p0.Kind p1.Kind) fun r39 =>
 Option.bind (α := Int)
 (Option.bind (α := Bool)
 (bif (r39 == (0 : Int)) then
 some (p0.Kind == (1 : Int))
 else
 some false)
 fun y46 =>
 bif y46 then
 Option.bind (cmp_Compare_int64 (i64u p0.N) (i64u p1.N)) fun r49 =>
 some r49
 else
 some r39)
 fun y44 =>
 Option.bind (cmp_Compare_uint64 p0.N p1.N) fun r51 =>
 Option.bind (cmpF p0.S p1.S) fun r53 =>
 Option.bind (cmp_Or_int [y44, r51, r53]) fun r55 =>
 some r55
theorem value_Cmp_1_ok (p0 : ApiValue) (p1 : ApiValue) (r : Int) (h0 : value_Cmp_1 p0 p1 = some r) : CallAt Tryz.prog 68 [.d (eApiValue p0), .d (eApiValue p1)] [] (.d (eI r)) [] := by
 unfold value_Cmp_1 at h0
 refine fn0 [0, 1] Tryz.func68 rfl rfl rfl rfl rfl ?_
 obtain ⟨r39, hq38, h0⟩ := ob h0
 refine sr (s1 (bxo (k := 0) rfl rfl rfl) (s1 (bxo (k := 1) rfl rfl rfl) (sa rfl (sn (sr (s1 (far (k := 0) rfl fo41_0 ts3 rfl) (s1 (lod rfl (ld_box ts3 ta3 rfl rfl)) (s1 (far (k := 0) rfl fo41_0 ts3 rfl) (s1 (lod rfl (ld_box ts3 ta3 rfl rfl)) ?_)))))))))
 refine c0 (cmp_Compare_int_ok p0.Kind p1.Kind _ hq38) wf rfl rfl rfl cb83 rfl (fun _ => rfl) (fun _ => rfl) (sa rfl (sn (SC.seqP h0 (fun y => ⟨mk 38 [(2, .ref 0 0 0), (3, .ref 1 0 0), (5, .d (eI y))], [.box (.d (eApiValue p0)), .box (.d (eApiValue p1))]⟩) ?_ ?_)))
 ·intro u1_45 h1
  refine SC.seqP h1 (fun y => ⟨mk 38 [(2, .ref 0 0 0), (3, .ref 1 0 0), (5, .d (eI r39)), (17, .d (eB y))], [.box (.d (eApiValue p0)), .box (.d (eApiValue p1))]⟩) ?_ ?_
  ·intro u2_47 h2
   refine SC.region (sm rfl (s1 (bi rfl rfl q_i64_eql) (sm rfl (sp h2 (fun h2 => ?_) (fun h2 => ?_)))))
   ·have q := si h2; subst q
    exact gw rfl (far (k := 0) rfl fo41_0 ts3 rfl) (gw rfl (lod rfl (ld_box ts3 ta3 rfl rfl)) (gw rfl (bi rfl rfl q_i64_eql) (s1 (pkt rfl rfl) (SO.nil ((wq rfl))))))
   ·have q := si h2; subst q
    exact kw rfl (kw rfl (kw rfl (s1 (pkf rfl rfl) (SO.nil ((wq rfl))))))
  ·rintro y46 h1
   refine cB h1 rfl (fun h1 => ?_) (fun h1 => ?_)
   ·obtain ⟨r49, hq48, h1⟩ := ob h1; have q := si h1; subst q
    refine SC.region (s1 (far (k := 1) rfl fo41_1 ts39 rfl) (s1 (lod rfl (ld_box ts39 ta39 rfl rfl)) (s1 (cvo rfl (cv_u64_i64 un39 un2 p0.N)) (s1 (far (k := 1) rfl fo41_1 ts39 rfl) (s1 (lod rfl (ld_box ts39 ta39 rfl rfl)) (s1 (cvo rfl (cv_u64_i64 un39 un2 p1.N)) (c0 (cmp_Compare_int64_ok (i64u p0.N) (i64u p1.N) _ hq48) wf rfl rfl rfl cb84 rfl (fun _ => rfl) (fun _ => rfl) (sa rfl (SO.nil ?_)))))))))
    exact (wq rfl)
   ·have q := si h1; subst q
    exact SC.skip ((wq rfl))
 ·rintro y44 h0
  obtain ⟨r51, hq50, h0⟩ := ob h0; obtain ⟨r53, hq52, h0⟩ := ob h0; obtain ⟨r55, hq54, h0⟩ := ob h0; have q := si h0; subst q
  refine sd (by kernel_rfl) (t1 ([], false) (mv rfl) rfl (t1 ([], false) (far (k := 1) rfl fo41_1 ts39 rfl) rfl (t1 ([0], false) (lod rfl (ld_box ts39 ta39 rfl rfl)) rfl (t1 ([], false) (far (k := 1) rfl fo41_1 ts39 rfl) rfl (t1 ([1], false) (lod rfl (ld_box ts39 ta39 rfl rfl)) rfl (tc0 (cmp_Compare_uint64_ok p0.N p1.N _ hq50) wf rfl rfl rfl cb86 rfl (fun _ => rfl) (fun _ => rfl) (t1 ([], false) (far (k := 2) rfl fo41_2 ts9 rfl) rfl (t1 ([0], false) (lod rfl (ld_box ts9 ta9 rfl rfl)) rfl (t1 ([], false) (far (k := 2) rfl fo41_2 ts9 rfl) rfl ?_)))))))))
  exact t1 ([1], false) (lod rfl (ld_box ts9 ta9 rfl rfl)) rfl (tc0 (cmp_ok p0.S p1.S _ hq52) wf rfl rfl rfl cb87 rfl (fun _ => rfl) (fun _ => rfl) (t1 ([2], true) (bsn (k := 2) (ds := List.map eI [y44, r51, r53]) (off := 0) (l' := [y44, r51, r53].length) rfl un45 ei3 rfl rfl (by rfl) rfl rfl rfl) rfl (tq (args' := [.slc 0 1 0 ([y44, r51, r53].length) none]) (σc := [.row 1 (List.map eI [y44, r51, r53]) true]) [2] [] ([2], true) (CallAt.frz (ArgF.frz (fF rfl rfl rfl) (ArgF.nil _)) (fq [] [] (cmp_Or_int_ok [y44, r51, r53] _ hq54) rfl rfl rfl rfl rfl rfl rfl rfl)) wf rfl rfl rfl cb85 rfl rfl rfl rfl rfl rfl rfl rfl rfl (t1 ([], false) (asg rfl) rfl (tn (by decide +kernel) (SC.ret (finR (wc (e' := [(4, .d (eI r55))]) [] [] (by kernel_rfl) rfl (by kernel_rfl)) (lresT rfl lresN) rfl)))))))
noncomputable def pred_Node_compares (p0 : PredNode) (p1 : ApiValue) : Option Bool :=
 bif (p1.Kind == (0 : Int)) then
 some false
 else
 Option.bind (value_Cmp_1 p1 p0.Val) fun r7 =>
 bif (p0.Op == (1 : Int)) then
 some (decide (r7 < (0 : Int)))
 else
 bif (p0.Op == (2 : Int)) then
 some (decide (r7 ≤ (0 : Int)))
 else
 bif (p0.Op == (3 : Int)) then
 some (r7 == (0 : Int))
 else
 bif (p0.Op == (4 : Int)) then
 some (decide (r7 ≥ (0 : Int)))
 else
 bif (p0.Op == (5 : Int)) then
 some (decide (r7 > (0 : Int)))
 else
 some (r7 != (0 : Int))
theorem pred_Node_compares_ok (p0 : PredNode) (p1 : ApiValue) (r : Bool) (h0 : pred_Node_compares p0 p1 = some r) : CallAt Tryz.prog 52 [.d (ePredNode p0), .d (eApiValue p1)] [] (.d (eB r)) [] := by
 unfold pred_Node_compares at h0
 refine fn0 [0, 1] Tryz.func52 rfl rfl rfl rfl rfl ?_
 refine sr (s1 (bxo (k := 0) rfl rfl rfl) (s1 (bxo (k := 1) rfl rfl rfl) (sa rfl (sn (sq (sr (s1 (far (k := 0) rfl fo41_0 ts3 rfl) (s1 (lod rfl (ld_box ts3 ta3 rfl rfl)) (s1 (bi rfl rfl q_i64_eql) ?_)))))))))
 refine sn (cB h0 rfl (fun h0 => ?_) (fun h0 => ?_))
 ·have q := si h0; subst q
  exact sr (sa rfl (sn (SC.ret (finR (wc (e' := [(4, .d (eB false))]) [] [] (by kernel_rfl) rfl (by kernel_rfl)) (lresT rfl lresN) rfl))))
 ·obtain ⟨r7, hq6, h0⟩ := ob h0
  refine sk (sr (s1 (lod (v := .d (eApiValue p1)) rfl (ld_box ts41 ta41 rfl rfl)) (s1 (far (k := 3) rfl fo43_3 ts41 rfl) (s1 (lod (v := .d (eApiValue p0.Val)) rfl (ld_box ts41 ta41 rfl rfl)) (c0 (value_Cmp_1_ok p1 p0.Val _ hq6) wf rfl rfl rfl cb68 rfl (fun _ => rfl) (fun _ => rfl) (sa rfl (sn (sq (sr ?_)))))))))
  refine s1 (far (k := 2) rfl fo43_2 ts3 rfl) (s1 (lod rfl (ld_box ts3 ta3 rfl rfl)) (sn (SC.blk (sr (s1 (bi rfl rfl q_i64_eql) (sa rfl (sn (cB h0 rfl (fun h0 => ?_) (fun h0 => ?_)))))))))
  ·have q := si h0; subst q
   exact sr (sm rfl (s1 (bi rfl rfl q_i64_lss) (sa rfl (sn (SC.ret (finR (wc (e' := [(4, .d (eB (decide (r7 < (0 : Int)))))]) [] [] (by kernel_rfl) rfl (by kernel_rfl)) (lresT rfl lresN) rfl))))))
  ·refine sr (s1 (bi rfl rfl q_i64_eql) (sa rfl (sn (cB h0 rfl (fun h0 => ?_) (fun h0 => ?_)))))
   ·have q := si h0; subst q
    exact sr (sm rfl (s1 (bi rfl rfl q_i64_leq) (sa rfl (sn (SC.ret (finR (wc (e' := [(4, .d (eB (decide (r7 ≤ (0 : Int)))))]) [] [] (by kernel_rfl) rfl (by kernel_rfl)) (lresT rfl lresN) rfl))))))
   ·refine sr (s1 (bi rfl rfl q_i64_eql) (sa rfl (sn (cB h0 rfl (fun h0 => ?_) (fun h0 => ?_)))))
    ·have q := si h0; subst q
     exact sr (sm rfl (s1 (bi rfl rfl q_i64_eql) (sa rfl (sn (SC.ret (finR (wc (e' := [(4, .d (eB (r7 == (0 : Int))))]) [] [] (by kernel_rfl) rfl (by kernel_rfl)) (lresT rfl lresN) rfl))))))
    ·refine sr (s1 (bi rfl rfl q_i64_eql) (sa rfl (sn (cB h0 rfl (fun h0 => ?_) (fun h0 => ?_)))))
     ·have q := si h0; subst q
      exact sr (sm rfl (s1 (bi rfl rfl q_i64_geq) (sa rfl (sn (SC.ret (finR (wc (e' := [(4, .d (eB (decide (r7 ≥ (0 : Int)))))]) [] [] (by kernel_rfl) rfl (by kernel_rfl)) (lresT rfl lresN) rfl))))))
     ·refine sr (s1 (bi rfl rfl q_i64_eql) (sa rfl (sn (cB h0 rfl (fun h0 => ?_) (fun h0 => ?_)))))
      ·have q := si h0; subst q
       exact sr (sm rfl (s1 (bi rfl rfl q_i64_gtr) (sa rfl (sn (SC.ret (finR (wc (e' := [(4, .d (eB (decide (r7 > (0 : Int)))))]) [] [] (by kernel_rfl) rfl (by kernel_rfl)) (lresT rfl lresN) rfl))))))
      ·refine SC.skip ?_
       change SC _ _ _ _ _
       have q := si h0; subst q
       exact sr (sm rfl (s1 (bi rfl rfl q_i64_neq) (sa rfl (sn (SC.ret (finR (wc (e' := [(4, .d (eB (r7 != (0 : Int))))]) [] [] (by kernel_rfl) rfl (by kernel_rfl)) (lresT rfl lresN) rfl))))))
noncomputable def pred_Node_turn (p0 : PredNode) (p1 : List Bool) (p2 : Nat) (p3 : Nat) (p4 : List ApiValue) : Option Bool :=
 Option.bind (getS p1 p2 p3 (0 : Int)) fun v4 =>
 some (!v4)
theorem pred_Node_turn_ok (p0 : PredNode) (p1 : List Bool) (p2 : Nat) (p3 : Nat) (p4 : List ApiValue) (r : Bool) (h0 : pred_Node_turn p0 p1 p2 p3 p4 = some r) : CallAt Tryz.prog 42 [.d (ePredNode p0), .slc 0 1 p2 p3 none, .d ((eL 3 eApiValue) p4)] [.row 1 (List.map eB p1) true] (.d (eB r)) [.row 1 (List.map eB p1) true] := by
 unfold pred_Node_turn at h0
 refine fn0 [0, 1, 2] Tryz.func42 rfl rfl rfl rfl rfl ?_
 obtain ⟨v4, hv4, h0⟩ := ob h0; have q := si h0; subst q
 refine sr (s1 (bxo (k := 1) rfl rfl rfl) (sa rfl (sn (sr (sm rfl (s1 (ias rfl rfl un63 ts4 (getS_some hv4).1) (s1 (lod rfl (ld_row ts4 ta4 rfl (map_get (getS_some hv4).2) rfl)) (s1 (nt rfl) (sa rfl ?_)))))))))
 exact sn (SC.ret (finR (wc (e' := [(6, .d (eB (!v4)))]) [0] [0] (by kernel_rfl) rfl (by kernel_rfl)) (lresT rfl lresN) rfl))
noncomputable def pred_Node_either (p0 : PredNode) (p1 : List Bool) (p2 : Nat) (p3 : Nat) (p4 : List ApiValue) : Option Bool :=
 Option.bind (α := Bool)
 (Option.bind (getS p1 p2 p3 (0 : Int)) fun v18 =>
 bif v18 then
 some true
 else
 Option.bind (getS p1 p2 p3 (1 : Int)) fun v19 =>
 some v19)
 fun y16 =>
 some y16
theorem pred_Node_either_ok (p0 : PredNode) (p1 : List Bool) (p2 : Nat) (p3 : Nat) (p4 : List ApiValue) (r : Bool) (h0 : pred_Node_either p0 p1 p2 p3 p4 = some r) : CallAt Tryz.prog 41 [.d (ePredNode p0), .slc 0 1 p2 p3 none, .d ((eL 3 eApiValue) p4)] [.row 1 (List.map eB p1) true] (.d (eB r)) [.row 1 (List.map eB p1) true] := by
 unfold pred_Node_either at h0
 refine fn0 [0, 1, 2] Tryz.func41 rfl rfl rfl rfl rfl ?_
 refine sr (s1 (bxo (k := 1) rfl rfl rfl) (sa rfl (sn (SC.seqP h0 (fun y => ⟨mk 15 [(6, .d (eB y))], [.row 1 (List.map eB p1) true]⟩) ?_ ?_))))
 ·intro u1_17 h1
  obtain ⟨v18, hv18, h1⟩ := ob h1
  refine SC.region (sm rfl (s1 (ias rfl rfl un63 ts4 (getS_some hv18).1) (s1 (lod rfl (ld_row ts4 ta4 rfl (map_get (getS_some hv18).2) rfl)) (sm rfl (sp h1 (fun h1 => ?_) (fun h1 => ?_))))))
  ·have q := si h1; subst q
   exact kw rfl (kw rfl (kw rfl (s1 (pkt rfl rfl) (sa rfl (SO.nil ((wc [0] [0] (by kernel_rfl) rfl (by kernel_rfl))))))))
  ·obtain ⟨v19, hv19, h1⟩ := ob h1; have q := si h1; subst q
   exact gw rfl (mv rfl) (gw rfl (ias rfl rfl un63 ts4 (getS_some hv19).1) (gw rfl (lod rfl (ld_row ts4 ta4 rfl (map_get (getS_some hv19).2) rfl)) (s1 (pkf rfl rfl) (sa rfl (SO.nil ((wc [0] [0] (by kernel_rfl) rfl (by kernel_rfl))))))))
 ·rintro y16 h0
  have q := si h0; subst q
  exact SC.ret (finR (Wk.refl _) (lresT rfl lresN) rfl)
noncomputable def pred_Node_both (p0 : PredNode) (p1 : List Bool) (p2 : Nat) (p3 : Nat) (p4 : List ApiValue) : Option Bool :=
 Option.bind (α := Bool)
 (Option.bind (getS p1 p2 p3 (0 : Int)) fun v18 =>
 bif v18 then
 Option.bind (getS p1 p2 p3 (1 : Int)) fun v19 =>
 some v19
 else
 some false)
 fun y16 =>
 some y16
theorem pred_Node_both_ok (p0 : PredNode) (p1 : List Bool) (p2 : Nat) (p3 : Nat) (p4 : List ApiValue) (r : Bool) (h0 : pred_Node_both p0 p1 p2 p3 p4 = some r) : CallAt Tryz.prog 40 [.d (ePredNode p0), .slc 0 1 p2 p3 none, .d ((eL 3 eApiValue) p4)] [.row 1 (List.map eB p1) true] (.d (eB r)) [.row 1 (List.map eB p1) true] := by
 unfold pred_Node_both at h0
 refine fn0 [0, 1, 2] Tryz.func40 rfl rfl rfl rfl rfl ?_
 refine sr (s1 (bxo (k := 1) rfl rfl rfl) (sa rfl (sn (SC.seqP h0 (fun y => ⟨mk 15 [(6, .d (eB y))], [.row 1 (List.map eB p1) true]⟩) ?_ ?_))))
 ·intro u1_17 h1
  obtain ⟨v18, hv18, h1⟩ := ob h1
  refine SC.region (sm rfl (s1 (ias rfl rfl un63 ts4 (getS_some hv18).1) (s1 (lod rfl (ld_row ts4 ta4 rfl (map_get (getS_some hv18).2) rfl)) (sm rfl (sp h1 (fun h1 => ?_) (fun h1 => ?_))))))
  ·obtain ⟨v19, hv19, h1⟩ := ob h1; have q := si h1; subst q
   exact gw rfl (mv rfl) (gw rfl (ias rfl rfl un63 ts4 (getS_some hv19).1) (gw rfl (lod rfl (ld_row ts4 ta4 rfl (map_get (getS_some hv19).2) rfl)) (s1 (pkt rfl rfl) (sa rfl (SO.nil ((wc [0] [0] (by kernel_rfl) rfl (by kernel_rfl))))))))
  ·have q := si h1; subst q
   exact kw rfl (kw rfl (kw rfl (s1 (pkf rfl rfl) (sa rfl (SO.nil ((wc [0] [0] (by kernel_rfl) rfl (by kernel_rfl))))))))
 ·rintro y16 h0
  have q := si h0; subst q
  exact SC.ret (finR (Wk.refl _) (lresT rfl lresN) rfl)
noncomputable def pred_Node_null_1 (p0 : PredNode) (p1 : List Bool) (p2 : Nat) (p3 : Nat) (p4 : List ApiValue) : Option Bool :=
 Option.bind (getI p4 p0.Col) fun v4 =>
 some (v4.Kind == (0 : Int))
theorem pred_Node_null_1_ok (p0 : PredNode) (p1 : List Bool) (p2 : Nat) (p3 : Nat) (p4 : List ApiValue) (r : Bool) (h0 : pred_Node_null_1 p0 p1 p2 p3 p4 = some r) : CallAt Tryz.prog 39 [.d (ePredNode p0), .slc 0 1 p2 p3 none, .d ((eL 3 eApiValue) p4)] [.row 1 (List.map eB p1) true] (.d (eB r)) [.row 1 (List.map eB p1) true] := by
 unfold pred_Node_null_1 at h0
 refine fn0 [0, 1, 2] Tryz.func39 rfl rfl rfl rfl rfl ?_
 obtain ⟨v4, hv4, h0⟩ := ob h0; have q := si h0; subst q
 refine sr (s1 (bxo (k := 1) rfl rfl rfl) (sa rfl (sn (sr (sm rfl (s1 (far (k := 1) rfl fo43_1 ts3 rfl) (s1 (lod rfl (ld_box ts3 ta3 rfl rfl)) (s1 (ial rfl rfl un24 ts41 (getI_some hv4).1 (map_get (getI_some hv4).2) rfl) (s1 (fap rfl fo41_0 ts3 rfl) ?_)))))))))
 exact s1 (lod rfl (ld_rop ts3 ta3 rfl)) (s1 (bi rfl rfl q_i64_eql) (sa rfl (sn (SC.ret (finR (wc (e' := [(6, .d (eB (v4.Kind == (0 : Int))))]) [0] [0] (by kernel_rfl) rfl (by kernel_rfl)) (lresT rfl lresN) rfl)))))
noncomputable def pred_Node_cmp_1 (p0 : PredNode) (p1 : List Bool) (p2 : Nat) (p3 : Nat) (p4 : List ApiValue) : Option Bool :=
 Option.bind (getI p4 p0.Col) fun v8 =>
 Option.bind (pred_Node_compares p0 v8) fun r10 =>
 some r10
theorem pred_Node_cmp_1_ok (p0 : PredNode) (p1 : List Bool) (p2 : Nat) (p3 : Nat) (p4 : List ApiValue) (r : Bool) (h0 : pred_Node_cmp_1 p0 p1 p2 p3 p4 = some r) : CallAt Tryz.prog 38 [.d (ePredNode p0), .slc 0 1 p2 p3 none, .d ((eL 3 eApiValue) p4)] [.row 1 (List.map eB p1) true] (.d (eB r)) [.row 1 (List.map eB p1) true] := by
 unfold pred_Node_cmp_1 at h0
 refine fn0 [0, 1, 2] Tryz.func38 rfl rfl rfl rfl rfl ?_
 obtain ⟨v8, hv8, h0⟩ := ob h0; obtain ⟨r10, hq9, h0⟩ := ob h0; have q := si h0; subst q
 refine sr (s1 (bxo (k := 1) rfl rfl rfl) (sa rfl (sn (sd (by kernel_rfl) (t1 ([1], false) (lod (v := .d (ePredNode p0)) rfl (ld_box ts43 ta43 rfl rfl)) rfl (t1 ([], false) (mv rfl) rfl (t1 ([], false) (far (k := 1) rfl fo43_1 ts3 rfl) rfl (t1 ([1], false) (lod rfl (ld_box ts3 ta3 rfl rfl)) rfl (t1 ([], false) (ial rfl rfl un24 ts41 (getI_some hv8).1 (map_get (getI_some hv8).2) rfl) rfl ?_)))))))))
 exact t1 ([], false) (lod (v := .d (eApiValue v8)) rfl (ld_rop ts41 ta41 rfl)) rfl (tc0 (pred_Node_compares_ok p0 v8 _ hq9) wf rfl rfl rfl cb52 rfl (fun _ => rfl) (fun _ => rfl) (t1 ([], false) (asg rfl) rfl (tn (by decide +kernel) (SC.ret (finR (wc (e' := [(6, .d (eB r10))]) [0] [0] (by kernel_rfl) rfl (by kernel_rfl)) (lresT rfl lresN) rfl)))))
noncomputable def pred_Node_yes_1 (p0 : PredNode) (p1 : List Bool) (p2 : Nat) (p3 : Nat) (p4 : List ApiValue) : Option Unit :=
 some ()
theorem pred_Node_yes_1_ok (p0 : PredNode) (p1 : List Bool) (p2 : Nat) (p3 : Nat) (p4 : List ApiValue) (r : Unit) (h0 : pred_Node_yes_1 p0 p1 p2 p3 p4 = some r) : CallAt Tryz.prog 37 [.d (ePredNode p0), .slc 0 1 p2 p3 none, .d ((eL 3 eApiValue) p4)] [.row 1 (List.map eB p1) true] (.d (eB true)) [.row 1 (List.map eB p1) true] := by
 unfold pred_Node_yes_1 at h0
 refine fn0 [0, 1, 2] Tryz.func37 rfl rfl rfl rfl rfl ?_
 have q := si h0; subst q
 exact sr (s1 (bxo (k := 1) rfl rfl rfl) (sa rfl (sn (sr (sa rfl (sn (SC.ret (finR (wc (e' := [(6, .d (eB true))]) [0] [0] (by kernel_rfl) rfl (by kernel_rfl)) (lresT rfl lresN) rfl))))))))
noncomputable def pred_Eval (p0 : List PredNode) (p1 : List ApiValue) : Option Bool :=
 Option.bind pred_workers fun _ =>
 Option.bind (α := (List Bool))
 (Option.bind (α := (List Bool))
 (loop (Y := (List Bool) × Int) (W := (List Bool)) (fun (y486, y487) =>
 bif (decide (y487 < (p0.length : Int))) then
 Option.bind (getI p0 y487) fun v525 =>
 Option.bind (pred_Node_takes v525) fun r527 =>
 bif decide (0 ≤ (w64 ((y486.length : Int) - r527)) ∧ (w64 ((y486.length : Int) - r527)) ≤ (y486.length : Int)) then
 bif (v525.Kind == (1 : Int)) then
 bif decide (0 ≤ (w64 ((y486.length : Int) - r527)) ∧ (w64 ((y486.length : Int) - r527)) ≤ (y486.length : Int)) then
 Option.bind (pred_Node_yes_1 v525 y486 (0 + (w64 ((y486.length : Int) - r527)).toNat) (y486.length - (w64 ((y486.length : Int) - r527)).toNat) p1) fun _ =>
 bif decide (0 + ((w64 ((y486.length : Int) - r527)).toNat) ≤ y486.length) then
 bif decide ((((w64 ((y486.length : Int) - r527)).toNat) + [true].length) * 1 ≤ room) then
 some (Sum.inl ((List.take ((w64 ((y486.length : Int) - r527)).toNat) (List.drop 0 y486) ++ [true]), (w64 (y487 + (1 : Int)))))
 else none
 else none
 else none
 else
 bif (v525.Kind == (2 : Int)) then
 bif decide (0 ≤ (w64 ((y486.length : Int) - r527)) ∧ (w64 ((y486.length : Int) - r527)) ≤ (y486.length : Int)) then
 Option.bind (pred_Node_cmp_1 v525 y486 (0 + (w64 ((y486.length : Int) - r527)).toNat) (y486.length - (w64 ((y486.length : Int) - r527)).toNat) p1) fun r551 =>
 bif decide (0 + ((w64 ((y486.length : Int) - r527)).toNat) ≤ y486.length) then
 bif decide ((((w64 ((y486.length : Int) - r527)).toNat) + [r551].length) * 1 ≤ room) then
 some (Sum.inl ((List.take ((w64 ((y486.length : Int) - r527)).toNat) (List.drop 0 y486) ++ [r551]), (w64 (y487 + (1 : Int)))))
 else none
 else none
 else none
 else
 bif (v525.Kind == (3 : Int)) then
 bif decide (0 ≤ (w64 ((y486.length : Int) - r527)) ∧ (w64 ((y486.length : Int) - r527)) ≤ (y486.length : Int)) then
 Option.bind (pred_Node_null_1 v525 y486 (0 + (w64 ((y486.length : Int) - r527)).toNat) (y486.length - (w64 ((y486.length : Int) - r527)).toNat) p1) fun r546 =>
 bif decide (0 + ((w64 ((y486.length : Int) - r527)).toNat) ≤ y486.length) then
 bif decide ((((w64 ((y486.length : Int) - r527)).toNat) + [r546].length) * 1 ≤ room) then
 some (Sum.inl ((List.take ((w64 ((y486.length : Int) - r527)).toNat) (List.drop 0 y486) ++ [r546]), (w64 (y487 + (1 : Int)))))
 else none
 else none
 else none
 else
 bif (v525.Kind == (4 : Int)) then
 bif decide (0 ≤ (w64 ((y486.length : Int) - r527)) ∧ (w64 ((y486.length : Int) - r527)) ≤ (y486.length : Int)) then
 Option.bind (pred_Node_both v525 y486 (0 + (w64 ((y486.length : Int) - r527)).toNat) (y486.length - (w64 ((y486.length : Int) - r527)).toNat) p1) fun r541 =>
 bif decide (0 + ((w64 ((y486.length : Int) - r527)).toNat) ≤ y486.length) then
 bif decide ((((w64 ((y486.length : Int) - r527)).toNat) + [r541].length) * 1 ≤ room) then
 some (Sum.inl ((List.take ((w64 ((y486.length : Int) - r527)).toNat) (List.drop 0 y486) ++ [r541]), (w64 (y487 + (1 : Int)))))
 else none
 else none
 else none
 else
 bif (v525.Kind == (5 : Int)) then
 bif decide (0 ≤ (w64 ((y486.length : Int) - r527)) ∧ (w64 ((y486.length : Int) - r527)) ≤ (y486.length : Int)) then
 Option.bind (pred_Node_either v525 y486 (0 + (w64 ((y486.length : Int) - r527)).toNat) (y486.length - (w64 ((y486.length : Int) - r527)).toNat) p1) fun r536 =>
 bif decide (0 + ((w64 ((y486.length : Int) - r527)).toNat) ≤ y486.length) then
 bif decide ((((w64 ((y486.length : Int) - r527)).toNat) + [r536].length) * 1 ≤ room) then
 some (Sum.inl ((List.take ((w64 ((y486.length : Int) - r527)).toNat) (List.drop 0 y486) ++ [r536]), (w64 (y487 + (1 : Int)))))
 else none
 else none
 else none
 else
 bif (v525.Kind == (6 : Int)) then
 bif decide (0 ≤ (w64 ((y486.length : Int) - r527)) ∧ (w64 ((y486.length : Int) - r527)) ≤ (y486.length : Int)) then
 Option.bind (pred_Node_turn v525 y486 (0 + (w64 ((y486.length : Int) - r527)).toNat) (y486.length - (w64 ((y486.length : Int) - r527)).toNat) p1) fun r531 =>
 bif decide (0 + ((w64 ((y486.length : Int) - r527)).toNat) ≤ y486.length) then
 bif decide ((((w64 ((y486.length : Int) - r527)).toNat) + [r531].length) * 1 ≤ room) then
 some (Sum.inl ((List.take ((w64 ((y486.length : Int) - r527)).toNat) (List.drop 0 y486) ++ [r531]), (w64 (y487 + (1 : Int)))))
 else none
 else none
 else none
 else
 none
 else none
 else
 some (Sum.inr y486)) (([] : List Bool), (0 : Int)))
 (fun e => some e))
 fun y466 =>
 Option.bind (getI y466 (0 : Int)) fun v559 =>
 some v559
theorem pred_Eval_ok (p0 : List PredNode) (p1 : List ApiValue) (r : Bool) (h0 : pred_Eval p0 p1 = some r) : CallAt Tryz.prog 11 [.d ((eL 6 ePredNode) p0), .d ((eL 3 eApiValue) p1)] [] (.d (eB r)) [] := by
 unfold pred_Eval at h0
 refine fn0 [0, 1] Tryz.func11 rfl rfl rfl rfl rfl ?_
 obtain ⟨_, hq374, h0⟩ := ob h0
 refine sr (sa rfl (sn (sr (cq [] [0] (pred_workers_ok _ hq374) wf rfl rfl rfl cb23 rfl rfl rfl rfl rfl rfl rfl rfl (s1 (alo (k := 1) zo61 rfl) (s0 (sto rfl rfl (sB (d' := .agg [.d .nilf, .fn (.func 37) [] [], .fn (.func 38) [] [], .fn (.func 39) [] [], .fn (.func 40) [] [], .fn (.func 41) [] [], .fn (.func 42) [] []]) ts61 rfl rfl rfl rfl rfl rfl rfl)) (sn (sr (s1 (asg (v := .d .nils) rfl) ?_)))))))))
 refine sn (SC.seqP h0 (fun y => ⟨mk 41 [(6, .slc 0 1 0 y.length none)], [.row 1 (List.map eB y) true]⟩) ?_ ?_)
 ·intro u1_467 h1
  obtain ⟨u2_524, h2, h1⟩ := ob h1
  refine sr (sm rfl (s1 (len rfl rfl rfl (len_lst un23)) (sm rfl (sn (SC.blk (SC.loopB h2 (fun y => ⟨mk 41 [(1, .d ((eL 3 eApiValue) p1)), (5, .ref 0 0 0), (6, .slc 1 1 0 y.1.length none), (11, .d ((eL 6 ePredNode) p0)), (12, .d (eI (p0.length : Int))), (13, .d (eI y.2))], [.box (.agg [.d .nilf, .fn (.func 37) [] [], .fn (.func 38) [] [], .fn (.func 39) [] [], .fn (.func 40) [] [], .fn (.func 41) [] [], .fn (.func 42) [] []]), .row 1 (List.map eB y.1) true]⟩) (Wk.trans (Wk.pushE (σ' := [.box (.agg [.d .nilf, .fn (.func 37) [] [], .fn (.func 38) [] [], .fn (.func 39) [] [], .fn (.func 40) [] [], .fn (.func 41) [] [], .fn (.func 42) [] []]), .box (.agg [.d .nilf, .fn (.func 37) [] [], .fn (.func 38) [] [], .fn (.func 39) [] [], .fn (.func 40) [] [], .fn (.func 41) [] [], .fn (.func 42) [] []]), .row 1 (List.map eB ([] : List Bool)) true]) (.row 1 [] true) (fun _ hh => by cases hh) rfl) (Wk.trans (Wk.env (e' := [(1, .d ((eL 3 eApiValue) p1)), (5, .ref 1 0 0), (6, .slc 2 1 0 (([] : List Bool).length) none), (11, .d ((eL 6 ePredNode) p0)), (12, .d (eI (p0.length : Int))), (13, .d (eI (0 : Int)))]) (EW.cons (AW.refl _) (EW.cons (AW.refl _) (EW.cons (AW.slcn _ _ _) (EW.cons (AW.refl _) (EW.cons (AW.refl _) (EW.cons (AW.refl _) EW.nil))))))) (wc [1, 2] [1, 2] (by kernel_rfl) rfl (by kernel_rfl)))) ?_))))))
  intro n558
  rintro ⟨y486, y487⟩ w2_523 h3 hv3
  refine sr (s1 (bi rfl rfl q_i64_lss) (sn (sq (cB h3 rfl (fun h3 => ?_) (fun h3 => ?_)))))
  ·obtain ⟨v525, hv525, h3⟩ := ob h3; obtain ⟨r527, hq526, h3⟩ := ob h3; obtain ⟨hg528, h3⟩ := gd h3
   refine sk (sq (SC.blk (sr (s1 (ial rfl rfl un23 ts43 (getI_some hv525).1 (map_get (getI_some hv525).2) rfl) (s1 (lod (v := .d (ePredNode v525)) rfl (ld_rop ts43 ta43 rfl)) (s1 (alo (k := 2) zo43 rfl) (s0 (sto rfl rfl (sB (d' := .d (ePredNode v525)) ts43 rfl rfl rfl rfl rfl rfl rfl)) (sn (sr ?_)))))))))
   refine sm rfl (s1 (len rfl rfl rfl (len_slc un63)) (s1 (lod (v := .d (ePredNode v525)) rfl (ld_box ts43 ta43 rfl rfl)) (c0 (pred_Node_takes_ok v525 _ hq526) wf rfl rfl rfl cb16 rfl (fun _ => rfl) (fun _ => rfl) (s1 (bi rfl rfl q_i64_sub) (sa rfl (sn (SC.draws (by kernel_rfl) (t1 ([], false) (mv rfl) rfl (t1 ([], false) (mv rfl) rfl ?_)))))))))
   refine t1 ([], false) (slo rfl rfl rfl rfl (sl_slc_hi un63 ts4 hg528)) rfl (t1 ([], false) (far (k := 0) rfl fo43_0 ts3 rfl) rfl (t1 ([2], false) (lod rfl (ld_box ts3 ta3 rfl rfl)) rfl (tE h3 (fun hb h3 => ?_) (fun h3 => ?_))))
   ·obtain ⟨hg554, h3⟩ := gd h3; obtain ⟨_, hq555, h3⟩ := ob h3; obtain ⟨hg557, h3⟩ := gd h3; obtain ⟨hg556, h3⟩ := gd h3
    refine t1 ([], false) (iar (off' := 1) 1 rfl rfl un61 ts60 (eq_of_beq hb) rfl rfl) rfl (t1 ([0], false) (lod rfl (ld_box ts60 ta60 rfl rfl)) rfl (t1 ([2], false) (lod (v := .d (ePredNode v525)) rfl (ld_box ts43 ta43 rfl rfl)) rfl (t1 ([], false) (mv rfl) rfl (t1 ([], false) (mv rfl) rfl (t1 ([], false) (slo rfl rfl rfl rfl (sl_slc_lo un63 ts4 hg554)) rfl (t1 ([], false) (mv rfl) rfl (tqr [1] [1] (pred_Node_yes_1_ok v525 y486 (0 + (w64 ((y486.length : Int) - r527)).toNat) (y486.length - (w64 ((y486.length : Int) - r527)).toNat) p1 _ hq555) wf rfl rfl rfl cb37 rfl rfl rfl rfl rfl rfl rfl rfl (t1 ([3], true) (bsn (k := 3) (ds := List.map eB [true]) (off := 0) (l' := [true].length) rfl un63 ei4 rfl rfl (by rfl) rfl rfl rfl) rfl (t1 ([1, 3, 4], true) (app rfl rfl rfl rfl bc63 (aS (f := eB) (xs := y486) (k := 4) un63 ei4 rfl hg557 (el_full (xs := [true]) rfl) hg556 rfl)) rfl ?_)))))))))
    refine t1 ([], false) (asg rfl) rfl (ST.nil (And.intro (by decide +kernel) ?_))
    change SC _ _ _ _ _
    have q := si h3; subst q
    exact SC.region (s1 (bi rfl rfl q_i64_add) (sm rfl (SO.nil (lf (wc [0, 4] [0, 4] (by kernel_rfl) rfl (by kernel_rfl))))))
   ·refine tE h3 (fun hb h3 => ?_) (fun h3 => ?_)
    ·obtain ⟨hg549, h3⟩ := gd h3; obtain ⟨r551, hq550, h3⟩ := ob h3; obtain ⟨hg553, h3⟩ := gd h3; obtain ⟨hg552, h3⟩ := gd h3
     refine t1 ([], false) (iar (off' := 2) 2 rfl rfl un61 ts60 (eq_of_beq hb) rfl rfl) rfl (t1 ([0], false) (lod rfl (ld_box ts60 ta60 rfl rfl)) rfl (t1 ([2], false) (lod (v := .d (ePredNode v525)) rfl (ld_box ts43 ta43 rfl rfl)) rfl (t1 ([], false) (mv rfl) rfl (t1 ([], false) (mv rfl) rfl (t1 ([], false) (slo rfl rfl rfl rfl (sl_slc_lo un63 ts4 hg549)) rfl (t1 ([], false) (mv rfl) rfl (tqr [1] [1] (pred_Node_cmp_1_ok v525 y486 (0 + (w64 ((y486.length : Int) - r527)).toNat) (y486.length - (w64 ((y486.length : Int) - r527)).toNat) p1 _ hq550) wf rfl rfl rfl cb38 rfl rfl rfl rfl rfl rfl rfl rfl (t1 ([3], true) (bsn (k := 3) (ds := List.map eB [r551]) (off := 0) (l' := [r551].length) rfl un63 ei4 rfl rfl (by rfl) rfl rfl rfl) rfl (t1 ([1, 3, 4], true) (app rfl rfl rfl rfl bc63 (aS (f := eB) (xs := y486) (k := 4) un63 ei4 rfl hg553 (el_full (xs := [r551]) rfl) hg552 rfl)) rfl ?_)))))))))
     refine t1 ([], false) (asg rfl) rfl (ST.nil (And.intro (by decide +kernel) ?_))
     change SC _ _ _ _ _
     have q := si h3; subst q
     exact SC.region (s1 (bi rfl rfl q_i64_add) (sm rfl (SO.nil (lf (wc [0, 4] [0, 4] (by kernel_rfl) rfl (by kernel_rfl))))))
    ·refine tE h3 (fun hb h3 => ?_) (fun h3 => ?_)
     ·obtain ⟨hg544, h3⟩ := gd h3; obtain ⟨r546, hq545, h3⟩ := ob h3; obtain ⟨hg548, h3⟩ := gd h3; obtain ⟨hg547, h3⟩ := gd h3
      refine t1 ([], false) (iar (off' := 3) 3 rfl rfl un61 ts60 (eq_of_beq hb) rfl rfl) rfl (t1 ([0], false) (lod rfl (ld_box ts60 ta60 rfl rfl)) rfl (t1 ([2], false) (lod (v := .d (ePredNode v525)) rfl (ld_box ts43 ta43 rfl rfl)) rfl (t1 ([], false) (mv rfl) rfl (t1 ([], false) (mv rfl) rfl (t1 ([], false) (slo rfl rfl rfl rfl (sl_slc_lo un63 ts4 hg544)) rfl (t1 ([], false) (mv rfl) rfl (tqr [1] [1] (pred_Node_null_1_ok v525 y486 (0 + (w64 ((y486.length : Int) - r527)).toNat) (y486.length - (w64 ((y486.length : Int) - r527)).toNat) p1 _ hq545) wf rfl rfl rfl cb39 rfl rfl rfl rfl rfl rfl rfl rfl (t1 ([3], true) (bsn (k := 3) (ds := List.map eB [r546]) (off := 0) (l' := [r546].length) rfl un63 ei4 rfl rfl (by rfl) rfl rfl rfl) rfl (t1 ([1, 3, 4], true) (app rfl rfl rfl rfl bc63 (aS (f := eB) (xs := y486) (k := 4) un63 ei4 rfl hg548 (el_full (xs := [r546]) rfl) hg547 rfl)) rfl ?_)))))))))
      refine t1 ([], false) (asg rfl) rfl (ST.nil (And.intro (by decide +kernel) ?_))
      change SC _ _ _ _ _
      have q := si h3; subst q
      exact SC.region (s1 (bi rfl rfl q_i64_add) (sm rfl (SO.nil (lf (wc [0, 4] [0, 4] (by kernel_rfl) rfl (by kernel_rfl))))))
     ·refine tE h3 (fun hb h3 => ?_) (fun h3 => ?_)
      ·obtain ⟨hg539, h3⟩ := gd h3; obtain ⟨r541, hq540, h3⟩ := ob h3; obtain ⟨hg543, h3⟩ := gd h3; obtain ⟨hg542, h3⟩ := gd h3
       refine t1 ([], false) (iar (off' := 4) 4 rfl rfl un61 ts60 (eq_of_beq hb) rfl rfl) rfl (t1 ([0], false) (lod rfl (ld_box ts60 ta60 rfl rfl)) rfl (t1 ([2], false) (lod (v := .d (ePredNode v525)) rfl (ld_box ts43 ta43 rfl rfl)) rfl (t1 ([], false) (mv rfl) rfl (t1 ([], false) (mv rfl) rfl (t1 ([], false) (slo rfl rfl rfl rfl (sl_slc_lo un63 ts4 hg539)) rfl (t1 ([], false) (mv rfl) rfl (tqr [1] [1] (pred_Node_both_ok v525 y486 (0 + (w64 ((y486.length : Int) - r527)).toNat) (y486.length - (w64 ((y486.length : Int) - r527)).toNat) p1 _ hq540) wf rfl rfl rfl cb40 rfl rfl rfl rfl rfl rfl rfl rfl (t1 ([3], true) (bsn (k := 3) (ds := List.map eB [r541]) (off := 0) (l' := [r541].length) rfl un63 ei4 rfl rfl (by rfl) rfl rfl rfl) rfl (t1 ([1, 3, 4], true) (app rfl rfl rfl rfl bc63 (aS (f := eB) (xs := y486) (k := 4) un63 ei4 rfl hg543 (el_full (xs := [r541]) rfl) hg542 rfl)) rfl ?_)))))))))
       refine t1 ([], false) (asg rfl) rfl (ST.nil (And.intro (by decide +kernel) ?_))
       change SC _ _ _ _ _
       have q := si h3; subst q
       exact SC.region (s1 (bi rfl rfl q_i64_add) (sm rfl (SO.nil (lf (wc [0, 4] [0, 4] (by kernel_rfl) rfl (by kernel_rfl))))))
      ·refine tE h3 (fun hb h3 => ?_) (fun h3 => ?_)
       ·obtain ⟨hg534, h3⟩ := gd h3; obtain ⟨r536, hq535, h3⟩ := ob h3; obtain ⟨hg538, h3⟩ := gd h3; obtain ⟨hg537, h3⟩ := gd h3
        refine t1 ([], false) (iar (off' := 5) 5 rfl rfl un61 ts60 (eq_of_beq hb) rfl rfl) rfl (t1 ([0], false) (lod rfl (ld_box ts60 ta60 rfl rfl)) rfl (t1 ([2], false) (lod (v := .d (ePredNode v525)) rfl (ld_box ts43 ta43 rfl rfl)) rfl (t1 ([], false) (mv rfl) rfl (t1 ([], false) (mv rfl) rfl (t1 ([], false) (slo rfl rfl rfl rfl (sl_slc_lo un63 ts4 hg534)) rfl (t1 ([], false) (mv rfl) rfl (tqr [1] [1] (pred_Node_either_ok v525 y486 (0 + (w64 ((y486.length : Int) - r527)).toNat) (y486.length - (w64 ((y486.length : Int) - r527)).toNat) p1 _ hq535) wf rfl rfl rfl cb41 rfl rfl rfl rfl rfl rfl rfl rfl (t1 ([3], true) (bsn (k := 3) (ds := List.map eB [r536]) (off := 0) (l' := [r536].length) rfl un63 ei4 rfl rfl (by rfl) rfl rfl rfl) rfl (t1 ([1, 3, 4], true) (app rfl rfl rfl rfl bc63 (aS (f := eB) (xs := y486) (k := 4) un63 ei4 rfl hg538 (el_full (xs := [r536]) rfl) hg537 rfl)) rfl ?_)))))))))
        refine t1 ([], false) (asg rfl) rfl (ST.nil (And.intro (by decide +kernel) ?_))
        change SC _ _ _ _ _
        have q := si h3; subst q
        exact SC.region (s1 (bi rfl rfl q_i64_add) (sm rfl (SO.nil (lf (wc [0, 4] [0, 4] (by kernel_rfl) rfl (by kernel_rfl))))))
       ·refine tE h3 (fun hb h3 => ?_) (fun h3 => ?_)
        ·obtain ⟨hg529, h3⟩ := gd h3; obtain ⟨r531, hq530, h3⟩ := ob h3; obtain ⟨hg533, h3⟩ := gd h3; obtain ⟨hg532, h3⟩ := gd h3
         refine t1 ([], false) (iar (off' := 6) 6 rfl rfl un61 ts60 (eq_of_beq hb) rfl rfl) rfl (t1 ([0], false) (lod rfl (ld_box ts60 ta60 rfl rfl)) rfl (t1 ([2], false) (lod (v := .d (ePredNode v525)) rfl (ld_box ts43 ta43 rfl rfl)) rfl (t1 ([], false) (mv rfl) rfl (t1 ([], false) (mv rfl) rfl (t1 ([], false) (slo rfl rfl rfl rfl (sl_slc_lo un63 ts4 hg529)) rfl (t1 ([], false) (mv rfl) rfl (tqr [1] [1] (pred_Node_turn_ok v525 y486 (0 + (w64 ((y486.length : Int) - r527)).toNat) (y486.length - (w64 ((y486.length : Int) - r527)).toNat) p1 _ hq530) wf rfl rfl rfl cb42 rfl rfl rfl rfl rfl rfl rfl rfl (t1 ([3], true) (bsn (k := 3) (ds := List.map eB [r531]) (off := 0) (l' := [r531].length) rfl un63 ei4 rfl rfl (by rfl) rfl rfl rfl) rfl (t1 ([1, 3, 4], true) (app rfl rfl rfl rfl bc63 (aS (f := eB) (xs := y486) (k := 4) un63 ei4 rfl hg533 (el_full (xs := [r531]) rfl) hg532 rfl)) rfl ?_)))))))))
         refine t1 ([], false) (asg rfl) rfl (ST.nil (And.intro (by decide +kernel) ?_))
         change SC _ _ _ _ _
         have q := si h3; subst q
         exact SC.region (s1 (bi rfl rfl q_i64_add) (sm rfl (SO.nil (lf (wc [0, 4] [0, 4] (by kernel_rfl) rfl (by kernel_rfl))))))
        ·cases h3
  ·have q := si h3; subst q; have q : _ = _ := hv3; subst q; have q := si h1; subst q
   exact SC.exit ((wc [1] [1] (by kernel_rfl) rfl (by kernel_rfl)))
 ·rintro y466 h0
  obtain ⟨v559, hv559, h0⟩ := ob h0; have q := si h0; subst q
  exact sr (sm rfl (s1 (iaz rfl rfl un63 ts4 (getI_lt hv559)) (s1 (lod rfl (ld_row ts4 ta4 rfl (map_get (getI_some hv559).2) rfl)) (sa rfl (sn (SC.ret (finR (wc (e' := [(4, .d (eB v559))]) [] [] (by kernel_rfl) rfl (by kernel_rfl)) (lresT rfl lresN) rfl)))))))
noncomputable def pred_Cols (p0 : List PredNode) : Option ((List Int)) :=
 Option.bind (α := (List Int))
 (Option.bind (α := (List Int))
 (loop (Y := (List Int) × Int) (W := (List Int)) (fun (y211, y212) =>
 bif (decide (y212 < (p0.length : Int))) then
 Option.bind (α := (List Int))
 (Option.bind (getI p0 y212) fun v233 =>
 Option.bind (α := Bool)
 (bif (v233.Kind == (2 : Int)) then
 some true
 else
 some (v233.Kind == (3 : Int)))
 fun y234 =>
 bif y234 then
 bif decide ((y211.length + [v233.Col].length) * 8 ≤ room) then
 some (y211 ++ [v233.Col])
 else none
 else
 some y211)
 fun y231 =>
 some (Sum.inl (y231, (w64 (y212 + (1 : Int)))))
 else
 some (Sum.inr y211)) (([] : List Int), (0 : Int)))
 (fun e => some e))
 fun y199 =>
 Option.bind (isortF y199) fun r239 =>
 Option.bind (icompactF r239 0 y199.length) fun r241 =>
 some r241
theorem pred_Cols_ok (p0 : List PredNode) (r : (List Int)) (h0 : pred_Cols p0 = some r) : CallAt Tryz.prog 15 [.d ((eL 6 ePredNode) p0)] [] (.d ((eL 1 eI) r)) [] := by
 unfold pred_Cols at h0
 refine fn0 [0] Tryz.func15 rfl rfl rfl rfl rfl ?_
 refine sr (s1 (asg (v := .d .nils) rfl) (sn (sr (s1 (asg (v := .d .nils) rfl) (sn (SC.seqP h0 (fun y => ⟨mk 30 [(3, .slc 0 1 0 y.length none)], [.row 1 (List.map eI y) true]⟩) ?_ ?_))))))
 ·intro u1_200 h1
  obtain ⟨u2_226, h2, h1⟩ := ob h1
  refine sr (sm rfl (s1 (len rfl rfl rfl (len_lst un23)) (sm rfl (sn (SC.blk (SC.loopB h2 (fun y => ⟨mk 30 [(3, .slc 0 1 0 y.1.length none), (6, .d ((eL 6 ePredNode) p0)), (7, .d (eI (p0.length : Int))), (8, .d (eI y.2))], [.row 1 (List.map eI y.1) true]⟩) (Wk.trans (Wk.pushE (σ' := [.row 1 (List.map eI ([] : List Int)) true]) (.row 1 [] true) (fun _ hh => by cases hh) rfl) (Wk.trans (Wk.env (e' := [(3, .slc 0 1 0 (([] : List Int).length) none), (6, .d ((eL 6 ePredNode) p0)), (7, .d (eI (p0.length : Int))), (8, .d (eI (0 : Int)))]) (EW.cons (AW.slcn _ _ _) (EW.cons (AW.refl _) (EW.cons (AW.refl _) (EW.cons (AW.refl _) EW.nil))))) (wq rfl))) ?_))))))
  intro n237
  rintro ⟨y211, y212⟩ w2_225 h3 hv3
  refine sr (s1 (bi rfl rfl q_i64_lss) (sn (sq (cB h3 rfl (fun h3 => ?_) (fun h3 => ?_)))))
  ·refine sk (SC.seqP h3 (fun y => ⟨mk 30 [(3, .slc 0 1 0 y.length none), (6, .d ((eL 6 ePredNode) p0)), (7, .d (eI (p0.length : Int))), (8, .d (eI y212))], [.row 1 (List.map eI y) true]⟩) ?_ ?_)
   ·intro u4_232 h4
    obtain ⟨v233, hv233, h4⟩ := ob h4
    refine SC.blk (sr (s1 (ial rfl rfl un23 ts43 (getI_some hv233).1 (map_get (getI_some hv233).2) rfl) (s1 (lod (v := .d (ePredNode v233)) rfl (ld_rop ts43 ta43 rfl)) (s1 (alo (k := 1) zo43 rfl) (s0 (sto rfl rfl (sB (d' := .d (ePredNode v233)) ts43 rfl rfl rfl rfl rfl rfl rfl)) (sn (SC.seqP h4 (fun y => ⟨mk 30 [(3, .slc 0 1 0 y211.length none), (5, .ref 1 0 0), (6, .d ((eL 6 ePredNode) p0)), (7, .d (eI (p0.length : Int))), (8, .d (eI y212)), (19, .d (eB y))], [.row 1 (List.map eI y211) true, .box (.d (ePredNode v233))]⟩) ?_ ?_)))))))
    ·intro u5_235 h5
     refine SC.region (s1 (far (k := 0) rfl fo43_0 ts3 rfl) (s1 (lod rfl (ld_box ts3 ta3 rfl rfl)) (s1 (bi rfl rfl q_i64_eql) (sm rfl (sp h5 (fun h5 => ?_) (fun h5 => ?_))))))
     ·have q := si h5; subst q
      exact kw rfl (kw rfl (kw rfl (s1 (pkt rfl rfl) (SO.nil ((wq rfl))))))
     ·have q := si h5; subst q
      exact gw rfl (far (k := 0) rfl fo43_0 ts3 rfl) (gw rfl (lod rfl (ld_box ts3 ta3 rfl rfl)) (gw rfl (bi rfl rfl q_i64_eql) (s1 (pkf rfl rfl) (SO.nil ((wq rfl))))))
    ·rintro y234 h4
     refine cB h4 rfl (fun h4 => ?_) (fun h4 => ?_)
     ·obtain ⟨hg236, h4⟩ := gd h4; have q := si h4; subst q
      exact SC.region (sm rfl (s1 (far (k := 1) rfl fo43_1 ts3 rfl) (s1 (lod rfl (ld_box ts3 ta3 rfl rfl)) (s1 (bsn (k := 2) (ds := List.map eI [v233.Col]) (off := 0) (l' := [v233.Col].length) rfl un45 ei3 rfl rfl (by rfl) rfl rfl rfl) (s1 (app rfl rfl rfl rfl bc45 (aF (f := eI) (xs := y211) (k := 3) rfl un45 ei3 rfl (el_full (xs := [v233.Col]) rfl) hg236 rfl)) (sa rfl (SO.nil ((wc [3] [3] (by kernel_rfl) rfl (by kernel_rfl))))))))))
     ·have q := si h4; subst q
      exact SC.skip ((wc [0] [0] (by kernel_rfl) rfl (by kernel_rfl)))
   ·rintro y231 h3
    have q := si h3; subst q
    exact SC.region (s1 (bi rfl rfl q_i64_add) (sm rfl (SO.nil (lf (wq rfl)))))
  ·have q := si h3; subst q; have q : _ = _ := hv3; subst q; have q := si h1; subst q
   exact SC.exit ((wq rfl))
 ·rintro y199 h0
  obtain ⟨r239, hq238, h0⟩ := ob h0; obtain ⟨r241, hq240, h0⟩ := ob h0; have q := si h0; subst q
  refine sr (sm rfl (cq [0] [] (isort_ok y199 _ hq238) wf rfl rfl rfl cb32 rfl rfl rfl rfl rfl rfl rfl rfl (sn (sr (sm rfl (cq [0] [] (icompact_ok r239 0 y199.length _ hq240) wf rfl rfl rfl cb33 rfl rfl rfl rfl rfl rfl rfl rfl (sa rfl (sn (SC.ret ?_)))))))))
  exact finR (wc (e' := [(2, .d ((eL 1 eI) r241))]) [] [] (by kernel_rfl) rfl (by kernel_rfl)) (lresT rfl lresN) rfl
noncomputable def law20_awake : Option Bool :=
 Option.bind (pred_Bounds [(ApiPart.mk (0 : Int) false), (ApiPart.mk (1 : Int) false)] [(PredNode.mk (2 : Int) (0 : Int) (3 : Int) (ApiValue.mk (1 : Int) (5 : UInt64) ([] : List UInt8))), (PredNode.mk (2 : Int) (1 : Int) (1 : Int) (ApiValue.mk (1 : Int) (7 : UInt64) ([] : List UInt8))), (PredNode.mk (4 : Int) (0 : Int) (0 : Int) (ApiValue.mk (0 : Int) (0 : UInt64) ([] : List UInt8)))]) fun (r51, r52, r53) =>
 Option.bind (α := Bool)
 (Option.bind (pred_Check [(ApiColumn.mk ([97] : List UInt8) (1 : Int) (0 : Int) false (ApiValue.mk (1 : Int) (0 : UInt64) ([] : List UInt8))), (ApiColumn.mk ([98] : List UInt8) (1 : Int) (0 : Int) false (ApiValue.mk (1 : Int) (0 : UInt64) ([] : List UInt8)))] [(PredNode.mk (2 : Int) (0 : Int) (3 : Int) (ApiValue.mk (1 : Int) (5 : UInt64) ([] : List UInt8))), (PredNode.mk (2 : Int) (1 : Int) (1 : Int) (ApiValue.mk (1 : Int) (7 : UInt64) ([] : List UInt8))), (PredNode.mk (4 : Int) (0 : Int) (0 : Int) (ApiValue.mk (0 : Int) (0 : UInt64) ([] : List UInt8)))]) fun r66 =>
 bif (r66 == (0 : Int)) then
 bif decide (0 ≤ (2 : Int) ∧ (2 : Int) ≤ ([(PredNode.mk (2 : Int) (0 : Int) (3 : Int) (ApiValue.mk (1 : Int) (5 : UInt64) ([] : List UInt8))), (PredNode.mk (2 : Int) (1 : Int) (1 : Int) (ApiValue.mk (1 : Int) (7 : UInt64) ([] : List UInt8))), (PredNode.mk (4 : Int) (0 : Int) (0 : Int) (ApiValue.mk (0 : Int) (0 : UInt64) ([] : List UInt8)))].length : Int)) then
 Option.bind (pred_Check_1 [(ApiColumn.mk ([97] : List UInt8) (1 : Int) (0 : Int) false (ApiValue.mk (1 : Int) (0 : UInt64) ([] : List UInt8))), (ApiColumn.mk ([98] : List UInt8) (1 : Int) (0 : Int) false (ApiValue.mk (1 : Int) (0 : UInt64) ([] : List UInt8)))] [(PredNode.mk (2 : Int) (0 : Int) (3 : Int) (ApiValue.mk (1 : Int) (5 : UInt64) ([] : List UInt8))), (PredNode.mk (2 : Int) (1 : Int) (1 : Int) (ApiValue.mk (1 : Int) (7 : UInt64) ([] : List UInt8))), (PredNode.mk (4 : Int) (0 : Int) (0 : Int) (ApiValue.mk (0 : Int) (0 : UInt64) ([] : List UInt8)))] (0 + (2 : Int).toNat) (([(PredNode.mk (2 : Int) (0 : Int) (3 : Int) (ApiValue.mk (1 : Int) (5 : UInt64) ([] : List UInt8))), (PredNode.mk (2 : Int) (1 : Int) (1 : Int) (ApiValue.mk (1 : Int) (7 : UInt64) ([] : List UInt8))), (PredNode.mk (4 : Int) (0 : Int) (0 : Int) (ApiValue.mk (0 : Int) (0 : UInt64) ([] : List UInt8)))].length) - (2 : Int).toNat)) fun r69 =>
 bif (r69 == (1 : Int)) then
 Option.bind (pred_Eval [(PredNode.mk (2 : Int) (0 : Int) (3 : Int) (ApiValue.mk (1 : Int) (5 : UInt64) ([] : List UInt8))), (PredNode.mk (2 : Int) (1 : Int) (1 : Int) (ApiValue.mk (1 : Int) (7 : UInt64) ([] : List UInt8))), (PredNode.mk (4 : Int) (0 : Int) (0 : Int) (ApiValue.mk (0 : Int) (0 : UInt64) ([] : List UInt8)))] [(ApiValue.mk (1 : Int) (5 : UInt64) ([] : List UInt8)), (ApiValue.mk (1 : Int) (6 : UInt64) ([] : List UInt8))]) fun r71 =>
 bif r71 then
 Option.bind (pred_Cols [(PredNode.mk (2 : Int) (0 : Int) (3 : Int) (ApiValue.mk (1 : Int) (5 : UInt64) ([] : List UInt8))), (PredNode.mk (2 : Int) (1 : Int) (1 : Int) (ApiValue.mk (1 : Int) (7 : UInt64) ([] : List UInt8))), (PredNode.mk (4 : Int) (0 : Int) (0 : Int) (ApiValue.mk (0 : Int) (0 : UInt64) ([] : List UInt8)))]) fun r73 =>
 bif ((r73.length : Int) == (2 : Int)) then
 bif (r51 == (1 : Int)) then
 bif r52 then
 some (r53.Lo == ([1, 128, 0, 0, 0, 0, 0, 0, 5, 1] : List UInt8))
 else
 some false
 else
 some false
 else
 some false
 else
 some false
 else
 some false
 else none
 else
 some false)
 fun y63 =>
 some y63
theorem law20_awake_ok (r : Bool) (h0 : law20_awake = some r) : CallAt Tryz.prog 7 [] [] (.d (eB r)) [] := by
 unfold law20_awake at h0
 refine fn0 [] Tryz.func7 rfl rfl rfl rfl rfl ?_
 obtain ⟨⟨r51, r52, r53⟩, hq50, h0⟩ := ob h0
 refine sr (sa rfl (sn (sr (s1 (bld rfl (bd41_0_1 (1 : Int) (5 : UInt64))) (s1 (bld rfl (bd43_0_1_2_3 (2 : Int) (0 : Int) (3 : Int) (ApiValue.mk (1 : Int) (5 : UInt64) ([] : List UInt8)))) (s1 (bld rfl (bd41_0_1 (1 : Int) (7 : UInt64))) (s1 (bld rfl (bd43_0_1_2_3 (2 : Int) (1 : Int) (1 : Int) (ApiValue.mk (1 : Int) (7 : UInt64) ([] : List UInt8)))) (s1 (bld rfl (bd43_0 (4 : Int))) (s1 (bsn (k := 0) (ds := List.map ePredNode [(PredNode.mk (2 : Int) (0 : Int) (3 : Int) (ApiValue.mk (1 : Int) (5 : UInt64) ([] : List UInt8))), (PredNode.mk (2 : Int) (1 : Int) (1 : Int) (ApiValue.mk (1 : Int) (7 : UInt64) ([] : List UInt8))), (PredNode.mk (4 : Int) (0 : Int) (0 : Int) (ApiValue.mk (0 : Int) (0 : UInt64) ([] : List UInt8)))]) (off := 0) (l' := [(PredNode.mk (2 : Int) (0 : Int) (3 : Int) (ApiValue.mk (1 : Int) (5 : UInt64) ([] : List UInt8))), (PredNode.mk (2 : Int) (1 : Int) (1 : Int) (ApiValue.mk (1 : Int) (7 : UInt64) ([] : List UInt8))), (PredNode.mk (4 : Int) (0 : Int) (0 : Int) (ApiValue.mk (0 : Int) (0 : UInt64) ([] : List UInt8)))].length) rfl un23 ei43 rfl rfl (by rfl) rfl rfl rfl) ?_)))))))))
 refine sa rfl (sn (sr (s1 (bld rfl (bd41_0 (1 : Int))) (s1 (bld rfl (bd50_0_1_4 ([97] : List UInt8) (1 : Int) (ApiValue.mk (1 : Int) (0 : UInt64) ([] : List UInt8)))) (s1 (bld rfl (bd41_0 (1 : Int))) (s1 (bld rfl (bd50_0_1_4 ([98] : List UInt8) (1 : Int) (ApiValue.mk (1 : Int) (0 : UInt64) ([] : List UInt8)))) (s1 (bsn (k := 1) (ds := List.map eApiColumn [(ApiColumn.mk ([97] : List UInt8) (1 : Int) (0 : Int) false (ApiValue.mk (1 : Int) (0 : UInt64) ([] : List UInt8))), (ApiColumn.mk ([98] : List UInt8) (1 : Int) (0 : Int) false (ApiValue.mk (1 : Int) (0 : UInt64) ([] : List UInt8)))]) (off := 0) (l' := [(ApiColumn.mk ([97] : List UInt8) (1 : Int) (0 : Int) false (ApiValue.mk (1 : Int) (0 : UInt64) ([] : List UInt8))), (ApiColumn.mk ([98] : List UInt8) (1 : Int) (0 : Int) false (ApiValue.mk (1 : Int) (0 : UInt64) ([] : List UInt8)))].length) rfl un22 ei50 rfl rfl (by rfl) rfl rfl rfl) (sa rfl (sn ?_)))))))))
 refine sr (s1 (bld rfl (bd52_0 (0 : Int))) (s1 (bld rfl (bd52_0 (1 : Int))) (s1 (bsn (k := 2) (ds := List.map eApiPart [(ApiPart.mk (0 : Int) false), (ApiPart.mk (1 : Int) false)]) (off := 0) (l' := [(ApiPart.mk (0 : Int) false), (ApiPart.mk (1 : Int) false)].length) rfl un25 ei52 rfl rfl (by rfl) rfl rfl rfl) (sm rfl (cq (args' := [.slc 0 2 0 ([(ApiPart.mk (0 : Int) false), (ApiPart.mk (1 : Int) false)].length) none, .slc 1 6 0 ([(PredNode.mk (2 : Int) (0 : Int) (3 : Int) (ApiValue.mk (1 : Int) (5 : UInt64) ([] : List UInt8))), (PredNode.mk (2 : Int) (1 : Int) (1 : Int) (ApiValue.mk (1 : Int) (7 : UInt64) ([] : List UInt8))), (PredNode.mk (4 : Int) (0 : Int) (0 : Int) (ApiValue.mk (0 : Int) (0 : UInt64) ([] : List UInt8)))].length) none]) (σc := [.row 2 (List.map eApiPart [(ApiPart.mk (0 : Int) false), (ApiPart.mk (1 : Int) false)]) true, .row 6 (List.map ePredNode [(PredNode.mk (2 : Int) (0 : Int) (3 : Int) (ApiValue.mk (1 : Int) (5 : UInt64) ([] : List UInt8))), (PredNode.mk (2 : Int) (1 : Int) (1 : Int) (ApiValue.mk (1 : Int) (7 : UInt64) ([] : List UInt8))), (PredNode.mk (4 : Int) (0 : Int) (0 : Int) (ApiValue.mk (0 : Int) (0 : UInt64) ([] : List UInt8)))]) true]) [2, 0] [3] (CallAt.frz (ArgF.frz (fF rfl rfl rfl) (ArgF.frz (fF rfl rfl rfl) (ArgF.nil _))) (fq [] [2] (pred_Bounds_ok [(ApiPart.mk (0 : Int) false), (ApiPart.mk (1 : Int) false)] [(PredNode.mk (2 : Int) (0 : Int) (3 : Int) (ApiValue.mk (1 : Int) (5 : UInt64) ([] : List UInt8))), (PredNode.mk (2 : Int) (1 : Int) (1 : Int) (ApiValue.mk (1 : Int) (7 : UInt64) ([] : List UInt8))), (PredNode.mk (4 : Int) (0 : Int) (0 : Int) (ApiValue.mk (0 : Int) (0 : UInt64) ([] : List UInt8)))] _ hq50) rfl rfl rfl rfl rfl rfl rfl rfl)) wf rfl rfl rfl cb12 rfl rfl rfl rfl rfl rfl rfl rfl ?_)))))
 refine sm rfl (s1 (ext rfl rfl) (s1 (ext rfl rfl) (s1 (ext rfl rfl) (s1 (alo (k := 4) zo33 rfl) (s0 (sto rfl rfl (sB (d' := .d (eApiSpan r53)) ts33 rfl rfl rfl rfl rfl rfl rfl)) (sa rfl (sa rfl (sn (SC.seqP h0 (fun y => ⟨mk 62 [(0, .d (eB y))], []⟩) ?_ ?_)))))))))
 ·intro u1_64 h1
  obtain ⟨r66, hq65, h1⟩ := ob h1
  refine SC.region (sm rfl (sm rfl (cq (args' := [.slc 0 7 0 ([(ApiColumn.mk ([97] : List UInt8) (1 : Int) (0 : Int) false (ApiValue.mk (1 : Int) (0 : UInt64) ([] : List UInt8))), (ApiColumn.mk ([98] : List UInt8) (1 : Int) (0 : Int) false (ApiValue.mk (1 : Int) (0 : UInt64) ([] : List UInt8)))].length) none, .slc 1 6 0 ([(PredNode.mk (2 : Int) (0 : Int) (3 : Int) (ApiValue.mk (1 : Int) (5 : UInt64) ([] : List UInt8))), (PredNode.mk (2 : Int) (1 : Int) (1 : Int) (ApiValue.mk (1 : Int) (7 : UInt64) ([] : List UInt8))), (PredNode.mk (4 : Int) (0 : Int) (0 : Int) (ApiValue.mk (0 : Int) (0 : UInt64) ([] : List UInt8)))].length) none]) (σc := [.row 7 (List.map eApiColumn [(ApiColumn.mk ([97] : List UInt8) (1 : Int) (0 : Int) false (ApiValue.mk (1 : Int) (0 : UInt64) ([] : List UInt8))), (ApiColumn.mk ([98] : List UInt8) (1 : Int) (0 : Int) false (ApiValue.mk (1 : Int) (0 : UInt64) ([] : List UInt8)))]) true, .row 6 (List.map ePredNode [(PredNode.mk (2 : Int) (0 : Int) (3 : Int) (ApiValue.mk (1 : Int) (5 : UInt64) ([] : List UInt8))), (PredNode.mk (2 : Int) (1 : Int) (1 : Int) (ApiValue.mk (1 : Int) (7 : UInt64) ([] : List UInt8))), (PredNode.mk (4 : Int) (0 : Int) (0 : Int) (ApiValue.mk (0 : Int) (0 : UInt64) ([] : List UInt8)))]) false]) [1, 0] [] (CallAt.frz (ArgF.frz (fF rfl rfl rfl) (ArgF.frz (fF rfl rfl rfl) (ArgF.nil _))) (fq [] [] (pred_Check_ok [(ApiColumn.mk ([97] : List UInt8) (1 : Int) (0 : Int) false (ApiValue.mk (1 : Int) (0 : UInt64) ([] : List UInt8))), (ApiColumn.mk ([98] : List UInt8) (1 : Int) (0 : Int) false (ApiValue.mk (1 : Int) (0 : UInt64) ([] : List UInt8)))] [(PredNode.mk (2 : Int) (0 : Int) (3 : Int) (ApiValue.mk (1 : Int) (5 : UInt64) ([] : List UInt8))), (PredNode.mk (2 : Int) (1 : Int) (1 : Int) (ApiValue.mk (1 : Int) (7 : UInt64) ([] : List UInt8))), (PredNode.mk (4 : Int) (0 : Int) (0 : Int) (ApiValue.mk (0 : Int) (0 : UInt64) ([] : List UInt8)))] _ hq65) rfl rfl rfl rfl rfl rfl rfl rfl)) wf rfl rfl rfl cb8 rfl rfl rfl rfl rfl rfl rfl rfl ?_)))
  refine s1 (bi rfl rfl q_i64_eql) (sm rfl (sp h1 (fun h1 => ?_) (fun h1 => ?_)))
  ·obtain ⟨hg67, h1⟩ := gd h1; obtain ⟨r69, hq68, h1⟩ := ob h1
   refine gw rfl (mv rfl) (gw rfl (mv rfl) (gw rfl (slo rfl rfl rfl rfl (sl_slc_lo un23 ts43 hg67)) (cq (args' := [.slc 0 7 0 ([(ApiColumn.mk ([97] : List UInt8) (1 : Int) (0 : Int) false (ApiValue.mk (1 : Int) (0 : UInt64) ([] : List UInt8))), (ApiColumn.mk ([98] : List UInt8) (1 : Int) (0 : Int) false (ApiValue.mk (1 : Int) (0 : UInt64) ([] : List UInt8)))].length) none, .slc 1 6 (0 + (2 : Int).toNat) (([(PredNode.mk (2 : Int) (0 : Int) (3 : Int) (ApiValue.mk (1 : Int) (5 : UInt64) ([] : List UInt8))), (PredNode.mk (2 : Int) (1 : Int) (1 : Int) (ApiValue.mk (1 : Int) (7 : UInt64) ([] : List UInt8))), (PredNode.mk (4 : Int) (0 : Int) (0 : Int) (ApiValue.mk (0 : Int) (0 : UInt64) ([] : List UInt8)))].length) - (2 : Int).toNat) none]) (σc := [.row 7 (List.map eApiColumn [(ApiColumn.mk ([97] : List UInt8) (1 : Int) (0 : Int) false (ApiValue.mk (1 : Int) (0 : UInt64) ([] : List UInt8))), (ApiColumn.mk ([98] : List UInt8) (1 : Int) (0 : Int) false (ApiValue.mk (1 : Int) (0 : UInt64) ([] : List UInt8)))]) false, .row 6 (List.map ePredNode [(PredNode.mk (2 : Int) (0 : Int) (3 : Int) (ApiValue.mk (1 : Int) (5 : UInt64) ([] : List UInt8))), (PredNode.mk (2 : Int) (1 : Int) (1 : Int) (ApiValue.mk (1 : Int) (7 : UInt64) ([] : List UInt8))), (PredNode.mk (4 : Int) (0 : Int) (0 : Int) (ApiValue.mk (0 : Int) (0 : UInt64) ([] : List UInt8)))]) false]) [1, 0] [] (CallAt.frz (ArgF.frz (fF rfl rfl rfl) (ArgF.keep (ArgF.nil _))) (fq [1] [] (pred_Check_1_ok [(ApiColumn.mk ([97] : List UInt8) (1 : Int) (0 : Int) false (ApiValue.mk (1 : Int) (0 : UInt64) ([] : List UInt8))), (ApiColumn.mk ([98] : List UInt8) (1 : Int) (0 : Int) false (ApiValue.mk (1 : Int) (0 : UInt64) ([] : List UInt8)))] [(PredNode.mk (2 : Int) (0 : Int) (3 : Int) (ApiValue.mk (1 : Int) (5 : UInt64) ([] : List UInt8))), (PredNode.mk (2 : Int) (1 : Int) (1 : Int) (ApiValue.mk (1 : Int) (7 : UInt64) ([] : List UInt8))), (PredNode.mk (4 : Int) (0 : Int) (0 : Int) (ApiValue.mk (0 : Int) (0 : UInt64) ([] : List UInt8)))] (0 + (2 : Int).toNat) (([(PredNode.mk (2 : Int) (0 : Int) (3 : Int) (ApiValue.mk (1 : Int) (5 : UInt64) ([] : List UInt8))), (PredNode.mk (2 : Int) (1 : Int) (1 : Int) (ApiValue.mk (1 : Int) (7 : UInt64) ([] : List UInt8))), (PredNode.mk (4 : Int) (0 : Int) (0 : Int) (ApiValue.mk (0 : Int) (0 : UInt64) ([] : List UInt8)))].length) - (2 : Int).toNat) _ hq68) rfl rfl rfl rfl rfl rfl rfl rfl)) (ww rfl) rfl rfl rfl cb8 rfl rfl rfl rfl rfl rfl rfl rfl ?_)))
   refine gw rfl (bi rfl rfl q_i64_eql) (s1 (pkt rfl rfl) (sm rfl (sp h1 (fun h1 => ?_) (fun h1 => ?_))))
   ·obtain ⟨r71, hq70, h1⟩ := ob h1
    refine gw rfl (mv rfl) (gw rfl (bld rfl (bd41_0_1 (1 : Int) (5 : UInt64))) (gw rfl (bld rfl (bd41_0_1 (1 : Int) (6 : UInt64))) (gw rfl (bsn (k := 5) (ds := List.map eApiValue [(ApiValue.mk (1 : Int) (5 : UInt64) ([] : List UInt8)), (ApiValue.mk (1 : Int) (6 : UInt64) ([] : List UInt8))]) (off := 0) (l' := [(ApiValue.mk (1 : Int) (5 : UInt64) ([] : List UInt8)), (ApiValue.mk (1 : Int) (6 : UInt64) ([] : List UInt8))].length) rfl un24 ei41 rfl rfl (by rfl) rfl rfl rfl) (cq (args' := [.slc 0 6 0 ([(PredNode.mk (2 : Int) (0 : Int) (3 : Int) (ApiValue.mk (1 : Int) (5 : UInt64) ([] : List UInt8))), (PredNode.mk (2 : Int) (1 : Int) (1 : Int) (ApiValue.mk (1 : Int) (7 : UInt64) ([] : List UInt8))), (PredNode.mk (4 : Int) (0 : Int) (0 : Int) (ApiValue.mk (0 : Int) (0 : UInt64) ([] : List UInt8)))].length) none, .slc 1 3 0 ([(ApiValue.mk (1 : Int) (5 : UInt64) ([] : List UInt8)), (ApiValue.mk (1 : Int) (6 : UInt64) ([] : List UInt8))].length) none]) (σc := [.row 6 (List.map ePredNode [(PredNode.mk (2 : Int) (0 : Int) (3 : Int) (ApiValue.mk (1 : Int) (5 : UInt64) ([] : List UInt8))), (PredNode.mk (2 : Int) (1 : Int) (1 : Int) (ApiValue.mk (1 : Int) (7 : UInt64) ([] : List UInt8))), (PredNode.mk (4 : Int) (0 : Int) (0 : Int) (ApiValue.mk (0 : Int) (0 : UInt64) ([] : List UInt8)))]) false, .row 3 (List.map eApiValue [(ApiValue.mk (1 : Int) (5 : UInt64) ([] : List UInt8)), (ApiValue.mk (1 : Int) (6 : UInt64) ([] : List UInt8))]) true]) [0, 5] [] (CallAt.frz (ArgF.frz (fF rfl rfl rfl) (ArgF.frz (fF rfl rfl rfl) (ArgF.nil _))) (fq [] [] (pred_Eval_ok [(PredNode.mk (2 : Int) (0 : Int) (3 : Int) (ApiValue.mk (1 : Int) (5 : UInt64) ([] : List UInt8))), (PredNode.mk (2 : Int) (1 : Int) (1 : Int) (ApiValue.mk (1 : Int) (7 : UInt64) ([] : List UInt8))), (PredNode.mk (4 : Int) (0 : Int) (0 : Int) (ApiValue.mk (0 : Int) (0 : UInt64) ([] : List UInt8)))] [(ApiValue.mk (1 : Int) (5 : UInt64) ([] : List UInt8)), (ApiValue.mk (1 : Int) (6 : UInt64) ([] : List UInt8))] _ hq70) rfl rfl rfl rfl rfl rfl rfl rfl)) (ww rfl) rfl rfl rfl cb11 rfl rfl rfl rfl rfl rfl rfl rfl ?_))))
    refine s1 (pkt rfl rfl) (sm rfl (sp h1 (fun h1 => ?_) (fun h1 => ?_)))
    ·obtain ⟨r73, hq72, h1⟩ := ob h1
     refine gw rfl (mv rfl) (cq (args' := [.slc 0 6 0 ([(PredNode.mk (2 : Int) (0 : Int) (3 : Int) (ApiValue.mk (1 : Int) (5 : UInt64) ([] : List UInt8))), (PredNode.mk (2 : Int) (1 : Int) (1 : Int) (ApiValue.mk (1 : Int) (7 : UInt64) ([] : List UInt8))), (PredNode.mk (4 : Int) (0 : Int) (0 : Int) (ApiValue.mk (0 : Int) (0 : UInt64) ([] : List UInt8)))].length) none]) (σc := [.row 6 (List.map ePredNode [(PredNode.mk (2 : Int) (0 : Int) (3 : Int) (ApiValue.mk (1 : Int) (5 : UInt64) ([] : List UInt8))), (PredNode.mk (2 : Int) (1 : Int) (1 : Int) (ApiValue.mk (1 : Int) (7 : UInt64) ([] : List UInt8))), (PredNode.mk (4 : Int) (0 : Int) (0 : Int) (ApiValue.mk (0 : Int) (0 : UInt64) ([] : List UInt8)))]) false]) [0] [] (CallAt.frz (ArgF.frz (fF rfl rfl rfl) (ArgF.nil _)) (fq [] [] (pred_Cols_ok [(PredNode.mk (2 : Int) (0 : Int) (3 : Int) (ApiValue.mk (1 : Int) (5 : UInt64) ([] : List UInt8))), (PredNode.mk (2 : Int) (1 : Int) (1 : Int) (ApiValue.mk (1 : Int) (7 : UInt64) ([] : List UInt8))), (PredNode.mk (4 : Int) (0 : Int) (0 : Int) (ApiValue.mk (0 : Int) (0 : UInt64) ([] : List UInt8)))] _ hq72) rfl rfl rfl rfl rfl rfl rfl rfl)) (ww rfl) rfl rfl rfl cb15 rfl rfl rfl rfl rfl rfl rfl rfl (gw rfl (len rfl rfl rfl (len_lst un45)) (gw rfl (bi rfl rfl q_i64_eql) (s1 (pkt rfl rfl) (sm rfl (sp h1 (fun h1 => ?_) (fun h1 => ?_)))))))
     ·refine gw rfl (mv rfl) (gw rfl (bi rfl rfl q_i64_eql) (s1 (pkt rfl rfl) (sm rfl (sp h1 (fun h1 => ?_) (fun h1 => ?_)))))
      ·refine gw rfl (mv rfl) (s1 (pkt rfl rfl) (sm rfl (sp h1 (fun h1 => ?_) (fun h1 => ?_))))
       ·have q := si h1; subst q
        exact gw rfl (far (k := 0) rfl fo33_0 ts9 rfl) (gw rfl (lod rfl (ld_box ts9 ta9 rfl rfl)) (gw rfl (bi rfl rfl (q_str_eql (b := ([1, 128, 0, 0, 0, 0, 0, 0, 5, 1] : List UInt8)))) (s1 (pkt rfl rfl) (sa rfl (SO.nil ((wc [] [] (by kernel_rfl) rfl (by kernel_rfl))))))))
       ·have q := si h1; subst q
        exact kw rfl (kw rfl (kw rfl (s1 (pkf rfl rfl) (sa rfl (SO.nil ((wc [] [] (by kernel_rfl) rfl (by kernel_rfl))))))))
      ·have q := si h1; subst q
       exact kw rfl (s1 (pkf rfl rfl) (sm rfl (kw rfl (kw rfl (kw rfl (s1 (pkf rfl rfl) (sa rfl (SO.nil ((wc [] [] (by kernel_rfl) rfl (by kernel_rfl)))))))))))
     ·have q := si h1; subst q
      refine kw rfl (kw rfl (s1 (pkf rfl rfl) (sm rfl (kw rfl (s1 (pkf rfl rfl) (sm rfl (kw rfl (kw rfl (kw rfl ?_)))))))))
      exact s1 (pkf rfl rfl) (sa rfl (SO.nil ((wc [] [] (by kernel_rfl) rfl (by kernel_rfl)))))
    ·have q := si h1; subst q
     refine kw rfl (kw rfl (kw rfl (kw rfl (s1 (pkf rfl rfl) (sm rfl (kw rfl (kw rfl (s1 (pkf rfl rfl) (sm rfl ?_)))))))))
     exact kw rfl (s1 (pkf rfl rfl) (sm rfl (kw rfl (kw rfl (kw rfl (s1 (pkf rfl rfl) (sa rfl (SO.nil ((wc [] [] (by kernel_rfl) rfl (by kernel_rfl)))))))))))
   ·have q := si h1; subst q
    refine kw rfl (kw rfl (kw rfl (kw rfl (kw rfl (s1 (pkf rfl rfl) (sm rfl (kw rfl (kw rfl (kw rfl ?_)))))))))
    refine kw rfl (s1 (pkf rfl rfl) (sm rfl (kw rfl (kw rfl (s1 (pkf rfl rfl) (sm rfl (kw rfl (s1 (pkf rfl rfl) (sm rfl ?_)))))))))
    exact kw rfl (kw rfl (kw rfl (s1 (pkf rfl rfl) (sa rfl (SO.nil ((wc [] [] (by kernel_rfl) rfl (by kernel_rfl))))))))
  ·have q := si h1; subst q
   refine kw rfl (kw rfl (kw rfl (kw rfl (kw rfl (s1 (pkf rfl rfl) (sm rfl (kw rfl (kw rfl (kw rfl ?_)))))))))
   refine kw rfl (kw rfl (s1 (pkf rfl rfl) (sm rfl (kw rfl (kw rfl (kw rfl (kw rfl (s1 (pkf rfl rfl) (sm rfl ?_)))))))))
   refine kw rfl (kw rfl (s1 (pkf rfl rfl) (sm rfl (kw rfl (s1 (pkf rfl rfl) (sm rfl (kw rfl (kw rfl (kw rfl ?_)))))))))
   exact s1 (pkf rfl rfl) (sa rfl (SO.nil ((wc [] [] (by kernel_rfl) rfl (by kernel_rfl)))))
 ·rintro y63 h0
  have q := si h0; subst q
  exact SC.ret (finR (Wk.refl _) (lresT rfl lresN) rfl)
noncomputable def ref17_Cols (p0 : List ApiPart) : Option ((List Int)) :=
 Option.bind (α := (List Int))
 (Option.bind (α := (List Int))
 (loop (Y := (List Int) × Int) (W := (List Int)) (fun (y75, y76) =>
 bif (decide (y76 < (p0.length : Int))) then
 Option.bind (getI p0 y76) fun v83 =>
 bif decide ((y75.length + [v83.Col].length) * 8 ≤ room) then
 some (Sum.inl ((y75 ++ [v83.Col]), (w64 (y76 + (1 : Int)))))
 else none
 else
 some (Sum.inr y75)) (([] : List Int), (0 : Int)))
 (fun e => some e))
 fun y71 =>
 some y71
theorem ref17_Cols_ok (p0 : List ApiPart) (r : (List Int)) (h0 : ref17_Cols p0 = some r) : CallAt Tryz.prog 20 [.d ((eL 2 eApiPart) p0)] [] (.d ((eL 1 eI) r)) [] := by
 unfold ref17_Cols at h0
 refine fn0 [0] Tryz.func20 rfl rfl rfl rfl rfl ?_
 refine sr (s1 (asg (v := .d .nils) rfl) (sn (sr (s1 (asg (v := .d .nils) rfl) (sn (SC.seqP h0 (fun y => ⟨mk 20 [(3, .slc 0 1 0 y.length none)], [.row 1 (List.map eI y) true]⟩) ?_ ?_))))))
 ·intro u1_72 h1
  obtain ⟨u2_82, h2, h1⟩ := ob h1
  refine sr (sa rfl (sn (SC.blk (SC.loopB h2 (fun y => ⟨mk 20 [(0, .d ((eL 2 eApiPart) p0)), (3, .slc 0 1 0 y.1.length none), (4, .d (eI y.2))], [.row 1 (List.map eI y.1) true]⟩) (Wk.trans (Wk.pushE (σ' := [.row 1 (List.map eI ([] : List Int)) true]) (.row 1 [] true) (fun _ hh => by cases hh) rfl) (Wk.trans (Wk.env (e' := [(0, .d ((eL 2 eApiPart) p0)), (3, .slc 0 1 0 (([] : List Int).length) none), (4, .d (eI (0 : Int)))]) (EW.cons (AW.refl _) (EW.cons (AW.slcn _ _ _) (EW.cons (AW.refl _) EW.nil)))) (wq rfl))) ?_))))
  intro n85
  rintro ⟨y75, y76⟩ w2_81 h3 hv3
  refine sq (sr (sm rfl (sm rfl (s1 (len rfl rfl rfl (len_lst un25)) (s1 (bi rfl rfl q_i64_lss) (sn (cB h3 rfl (fun h3 => ?_) (fun h3 => ?_))))))))
  ·obtain ⟨v83, hv83, h3⟩ := ob h3; obtain ⟨hg84, h3⟩ := gd h3
   refine sk (sq (SC.blk (SC.region (sm rfl (sm rfl (sm rfl (s1 (ial rfl rfl un25 ts52 (getI_some hv83).1 (map_get (getI_some hv83).2) rfl) (s1 (fap rfl fo52_0 ts3 rfl) (s1 (lod rfl (ld_rop ts3 ta3 rfl)) ?_)))))))))
   refine s1 (bsn (k := 1) (ds := List.map eI [v83.Col]) (off := 0) (l' := [v83.Col].length) rfl un45 ei3 rfl rfl (by rfl) rfl rfl rfl) (s1 (app rfl rfl rfl rfl bc45 (aF (f := eI) (xs := y75) (k := 2) rfl un45 ei3 rfl (el_full (xs := [v83.Col]) rfl) hg84 rfl)) (sa rfl (SO.nil ?_)))
   change SC _ _ _ _ _
   have q := si h3; subst q
   exact SC.region (sm rfl (s1 (bi rfl rfl q_i64_add) (sa rfl (SO.nil (lf (wc [2] [2] (by kernel_rfl) rfl (by kernel_rfl)))))))
  ·have q := si h3; subst q; have q : _ = _ := hv3; subst q; have q := si h1; subst q
   exact SC.exit ((wq rfl))
 ·rintro y71 h0
  have q := si h0; subst q
  exact sr (sm rfl (sa rfl (sn (SC.ret (finR (Wk.trans (Wk.frz (i := 2) (x := .slc 0 1 0 y71.length none) rfl rfl (fF rfl rfl rfl)) (wc (e' := [(2, .d ((eL 1 eI) y71))]) [] [] (by kernel_rfl) rfl (by kernel_rfl))) (lresT rfl lresN) rfl)))))
noncomputable def ref17_Has (p0 : List Int) (p1 : Int) : Option Bool :=
 bindE (Y := Unit) (E := Bool)
 (Option.bind (α := Unit ⊕ Bool)
 (loop (Y := Int) (W := Unit ⊕ Bool) (fun y46 =>
 bif (decide (y46 < (p0.length : Int))) then
 Option.bind (getI p0 y46) fun v51 =>
 bif (v51 == p1) then
 some (Sum.inr (Sum.inr true))
 else
 some (Sum.inl (w64 (y46 + (1 : Int))))
 else
 some (Sum.inr (Sum.inl ()))) (0 : Int))
 (Sum.elim (fun e => some (Sum.inl e)) (fun e => some (Sum.inr e))))
 (fun _ =>
 some false)
 (fun e => some e)
theorem ref17_Has_ok (p0 : List Int) (p1 : Int) (r : Bool) (h0 : ref17_Has p0 p1 = some r) : CallAt Tryz.prog 19 [.d ((eL 1 eI) p0), .d (eI p1)] [] (.d (eB r)) [] := by
 unfold ref17_Has at h0
 refine fn0 [0, 1] Tryz.func19 rfl rfl rfl rfl rfl ?_
 refine sr (sa rfl (sn (SC.seqB h0 (fun y => ⟨mk 18 [], []⟩) ?_ ?_)))
 ·intro u1_44 h1 h0
  obtain ⟨u2_50, h2, h1⟩ := ob h1
  refine sr (sa rfl (sn (SC.blk (SC.loopB h2 (fun y => ⟨mk 18 [(0, .d ((eL 1 eI) p0)), (1, .d (eI p1)), (5, .d (eI y))], []⟩) (wq rfl) ?_))))
  intro n52
  rintro y46 w2_49 h3 hv3
  refine sq (sr (sm rfl (sm rfl (s1 (len rfl rfl rfl (len_lst un45)) (s1 (bi rfl rfl q_i64_lss) (sn (cB h3 rfl (fun h3 => ?_) (fun h3 => ?_))))))))
  ·obtain ⟨v51, hv51, h3⟩ := ob h3
   refine sk (sq (SC.blk (sr (sm rfl (sm rfl (s1 (ial rfl rfl un45 ts3 (getI_some hv51).1 (map_get (getI_some hv51).2) rfl) (s1 (lod rfl (ld_rop ts3 ta3 rfl)) (sm rfl (s1 (bi rfl rfl q_i64_eql) ?_)))))))))
   refine sn (cB h3 rfl (fun h3 => ?_) (fun h3 => ?_))
   ·have q := si h3; subst q; have q : _ = _ := hv3; subst q; have q := si h1; subst q; have q := si h0; subst q
    exact sr (sa rfl (sn (SC.ret (finR (Wk.refl _) (lresT rfl lresN) rfl))))
   ·refine SC.skip ?_
    change SC _ _ _ _ _
    have q := si h3; subst q
    exact SC.region (sm rfl (s1 (bi rfl rfl q_i64_add) (sa rfl (SO.nil (lf (wq rfl))))))
  ·have q := si h3; subst q; have q : _ = _ := hv3; subst q; have q := si h1; subst q
   exact SC.exit (lf (wq rfl))
 ·intro _ h0
  have q := si h0; subst q
  exact sr (sa rfl (sn (SC.ret (finR (Wk.refl _) (lresT rfl lresN) rfl))))
noncomputable def law20_parts (p0 : List ApiColumn) (p1 : List ApiPart) : Option Bool :=
 Option.bind (α := Bool)
 (bif (decide ((p1.length : Int) < (1 : Int))) then
 some true
 else
 some (decide ((p1.length : Int) > (4 : Int))))
 fun y244 =>
 bif y244 then
 some false
 else
 bindE (Y := Unit) (E := Bool)
 (Option.bind (α := Unit ⊕ Bool)
 (loop (Y := Int) (W := Unit ⊕ Bool) (fun y324 =>
 bif (decide (y324 < (p1.length : Int))) then
 Option.bind (α := Bool)
 (Option.bind (getI p1 y324) fun v356 =>
 bif (decide (v356.Col < (0 : Int))) then
 some true
 else
 Option.bind (getI p1 y324) fun v357 =>
 bif (decide (v357.Col ≥ (p0.length : Int))) then
 some true
 else
 bif decide (0 ≤ y324 ∧ y324 ≤ (p1.length : Int)) then
 Option.bind (ref17_Cols (List.take y324.toNat p1)) fun r360 =>
 Option.bind (getI p1 y324) fun v361 =>
 Option.bind (ref17_Has r360 v361.Col) fun r363 =>
 some r363
 else none)
 fun y354 =>
 bif y354 then
 some (Sum.inr (Sum.inr false))
 else
 some (Sum.inl (w64 (y324 + (1 : Int))))
 else
 some (Sum.inr (Sum.inl ()))) (0 : Int))
 (Sum.elim (fun e => some (Sum.inl e)) (fun e => some (Sum.inr e))))
 (fun _ =>
 some true)
 (fun e => some e)
theorem law20_parts_ok (p0 : List ApiColumn) (p1 : List ApiPart) (r : Bool) (h0 : law20_parts p0 p1 = some r) : CallAt Tryz.prog 9 [.d ((eL 7 eApiColumn) p0), .d ((eL 2 eApiPart) p1)] [] (.d (eB r)) [] := by
 unfold law20_parts at h0
 refine fn0 [0, 1] Tryz.func9 rfl rfl rfl rfl rfl ?_
 refine sr (sa rfl (sn (sq (SC.seqP h0 (fun y => ⟨mk 48 [(0, .d ((eL 7 eApiColumn) p0)), (1, .d ((eL 2 eApiPart) p1)), (13, .d (eB y))], []⟩) ?_ ?_))))
 ·intro u1_245 h1
  refine SC.region (sm rfl (s1 (len rfl rfl rfl (len_lst un25)) (s1 (bi rfl rfl q_i64_lss) (sm rfl (sp h1 (fun h1 => ?_) (fun h1 => ?_))))))
  ·have q := si h1; subst q
   exact kw rfl (kw rfl (kw rfl (s1 (pkt rfl rfl) (SO.nil ((wq rfl))))))
  ·have q := si h1; subst q
   exact gw rfl (mv rfl) (gw rfl (len rfl rfl rfl (len_lst un25)) (gw rfl (bi rfl rfl q_i64_gtr) (s1 (pkf rfl rfl) (SO.nil ((wq rfl))))))
 ·rintro y244 h0
  refine cB h0 rfl (fun h0 => ?_) (fun h0 => ?_)
  ·have q := si h0; subst q
   exact sr (sa rfl (sn (SC.ret (finR (Wk.refl _) (lresT rfl lresN) rfl))))
  ·refine sk (SC.seqB h0 (fun y => ⟨mk 48 [], []⟩) ?_ ?_)
   ·intro u1_305 h1 h0
    obtain ⟨u2_345, h2, h1⟩ := ob h1
    refine sr (sa rfl (sn (SC.blk (SC.loopB h2 (fun y => ⟨mk 48 [(0, .d ((eL 7 eApiColumn) p0)), (1, .d ((eL 2 eApiPart) p1)), (5, .d (eI y))], []⟩) (wq rfl) ?_))))
    intro n364
    rintro y324 w2_344 h3 hv3
    refine sq (sr (sm rfl (sm rfl (s1 (len rfl rfl rfl (len_lst un25)) (s1 (bi rfl rfl q_i64_lss) (sn (cB h3 rfl (fun h3 => ?_) (fun h3 => ?_))))))))
    ·refine sk (sq (SC.blk (SC.seqP h3 (fun y => ⟨mk 48 [(0, .d ((eL 7 eApiColumn) p0)), (1, .d ((eL 2 eApiPart) p1)), (5, .d (eI y324)), (47, .d (eB y))], []⟩) ?_ ?_)))
     ·intro u4_355 h4
      obtain ⟨v356, hv356, h4⟩ := ob h4
      refine SC.draws (by kernel_rfl) (t1 ([], false) (mv rfl) rfl (t1 ([], false) (mv rfl) rfl (t1 ([], false) (ial rfl rfl un25 ts52 (getI_some hv356).1 (map_get (getI_some hv356).2) rfl) rfl (t1 ([], false) (fap rfl fo52_0 ts3 rfl) rfl (t1 ([], false) (lod rfl (ld_rop ts3 ta3 rfl)) rfl (t1 ([], false) (bi rfl rfl q_i64_lss) rfl (t1 ([], false) (mv rfl) rfl (tp h4 (fun h4 => ?_) (fun h4 => ?_)))))))))
      ·have q := si h4; subst q
       refine jw rfl (jw rfl (jw rfl (jw rfl (jw rfl (jw rfl (jw rfl (jw rfl (t1 ([], false) (pkt rfl rfl) rfl (t1 ([], false) (mv rfl) rfl ?_)))))))))
       refine jw rfl (jw rfl (jw rfl (jw rfl (jw rfl (jw rfl (jw rfl (jw rfl (jw rfl (jw rfl ?_)))))))))
       refine t1 ([], false) (pkt rfl rfl) rfl (ST.nil (And.intro (by decide +kernel) ?_))
       exact (wq rfl)
      ·obtain ⟨v357, hv357, h4⟩ := ob h4
       refine u1 ([], false) (ww rfl) (mv rfl) rfl (u1 ([], false) (ww rfl) (mv rfl) rfl (u1 ([], false) (ww rfl) (ial rfl rfl un25 ts52 (getI_some hv357).1 (map_get (getI_some hv357).2) rfl) rfl (u1 ([], false) (ww rfl) (fap rfl fo52_0 ts3 rfl) rfl (u1 ([], false) (ww rfl) (lod rfl (ld_rop ts3 ta3 rfl)) rfl (u1 ([], false) (ww rfl) (mv rfl) rfl (u1 ([], false) (ww rfl) (len rfl rfl rfl (len_lst un22)) rfl (u1 ([], false) (ww rfl) (bi rfl rfl q_i64_geq) rfl (t1 ([], false) (pkf rfl rfl) rfl (t1 ([], false) (mv rfl) rfl ?_)))))))))
       refine tp h4 (fun h4 => ?_) (fun h4 => ?_)
       ·have q := si h4; subst q
        refine jw rfl (jw rfl (jw rfl (jw rfl (jw rfl (jw rfl (jw rfl (jw rfl (jw rfl (jw rfl ?_)))))))))
        refine t1 ([], false) (pkt rfl rfl) rfl (ST.nil (And.intro (by decide +kernel) ?_))
        exact (wq rfl)
       ·obtain ⟨hg358, h4⟩ := gd h4; obtain ⟨r360, hq359, h4⟩ := ob h4; obtain ⟨v361, hv361, h4⟩ := ob h4; obtain ⟨r363, hq362, h4⟩ := ob h4; have q := si h4; subst q
        refine u1 ([], false) (ww rfl) (mv rfl) rfl (u1 ([], false) (ww rfl) (mv rfl) rfl (u1 ([], false) (ww rfl) (slo rfl rfl rfl rfl (sl_lst_hi un25 ts52 hg358)) rfl (tc0 (ref17_Cols_ok (List.take y324.toNat p1) _ hq359) (ww rfl) rfl rfl rfl cb20 rfl (fun _ => rfl) (fun _ => rfl) (u1 ([], false) (ww rfl) (mv rfl) rfl (u1 ([], false) (ww rfl) (mv rfl) rfl (u1 ([], false) (ww rfl) (ial rfl rfl un25 ts52 (getI_some hv361).1 (map_get (getI_some hv361).2) rfl) rfl (u1 ([], false) (ww rfl) (fap rfl fo52_0 ts3 rfl) rfl (u1 ([], false) (ww rfl) (lod rfl (ld_rop ts3 ta3 rfl)) rfl (tc0 (ref17_Has_ok r360 v361.Col _ hq362) (ww rfl) rfl rfl rfl cb19 rfl (fun _ => rfl) (fun _ => rfl) ?_)))))))))
        refine t1 ([], false) (pkf rfl rfl) rfl (ST.nil (And.intro (by decide +kernel) ?_))
        exact (wq rfl)
     ·rintro y354 h3
      refine cB h3 rfl (fun h3 => ?_) (fun h3 => ?_)
      ·have q := si h3; subst q; have q : _ = _ := hv3; subst q; have q := si h1; subst q; have q := si h0; subst q
       exact sr (sa rfl (sn (SC.ret (finR (Wk.refl _) (lresT rfl lresN) rfl))))
      ·refine SC.skip ?_
       change SC _ _ _ _ _
       have q := si h3; subst q
       exact SC.region (sm rfl (s1 (bi rfl rfl q_i64_add) (sa rfl (SO.nil (lf (wq rfl))))))
    ·have q := si h3; subst q; have q : _ = _ := hv3; subst q; have q := si h1; subst q
     exact SC.exit (lf (wq rfl))
   ·intro _ h0
    have q := si h0; subst q
    exact sr (sa rfl (sn (SC.ret (finR (Wk.refl _) (lresT rfl lresN) rfl))))
noncomputable def ref06_Name (p0 : List UInt8) : Option Bool :=
 Option.bind (α := Bool)
 (bif (decide ((p0.length : Int) < (1 : Int))) then
 some true
 else
 bif (decide ((p0.length : Int) > (16 : Int))) then
 some true
 else
 Option.bind (getI p0 (0 : Int)) fun v304 =>
 bif (decide (v304 < (97 : UInt8))) then
 some true
 else
 Option.bind (getI p0 (0 : Int)) fun v305 =>
 some (decide ((122 : UInt8) < v305)))
 fun y302 =>
 bif y302 then
 some false
 else
 bindE (Y := Unit) (E := Bool)
 (Option.bind (α := Unit ⊕ Bool)
 (loop (Y := Int) (W := Unit ⊕ Bool) (fun y400 =>
 bif (decide (y400 < (p0.length : Int))) then
 Option.bind (α := Bool)
 (Option.bind (getI p0 y400) fun v438 =>
 bif (decide (v438 < (97 : UInt8))) then
 Option.bind (getI p0 y400) fun v439 =>
 bif (decide (v439 < (48 : UInt8))) then
 Option.bind (getI p0 y400) fun v440 =>
 some (v440 != (95 : UInt8))
 else
 Option.bind (getI p0 y400) fun v441 =>
 bif (decide ((57 : UInt8) < v441)) then
 Option.bind (getI p0 y400) fun v442 =>
 some (v442 != (95 : UInt8))
 else
 some false
 else
 Option.bind (getI p0 y400) fun v443 =>
 bif (decide ((122 : UInt8) < v443)) then
 Option.bind (getI p0 y400) fun v444 =>
 bif (decide (v444 < (48 : UInt8))) then
 Option.bind (getI p0 y400) fun v445 =>
 some (v445 != (95 : UInt8))
 else
 Option.bind (getI p0 y400) fun v446 =>
 bif (decide ((57 : UInt8) < v446)) then
 Option.bind (getI p0 y400) fun v447 =>
 some (v447 != (95 : UInt8))
 else
 some false
 else
 some false)
 fun y436 =>
 bif y436 then
 some (Sum.inr (Sum.inr false))
 else
 some (Sum.inl (w64 (y400 + (1 : Int))))
 else
 some (Sum.inr (Sum.inl ()))) (1 : Int))
 (Sum.elim (fun e => some (Sum.inl e)) (fun e => some (Sum.inr e))))
 (fun _ =>
 some true)
 (fun e => some e)
theorem ref06_Name_ok (p0 : List UInt8) (r : Bool) (h0 : ref06_Name p0 = some r) : CallAt Tryz.prog 50 [.d (eS p0)] [] (.d (eB r)) [] := by
 unfold ref06_Name at h0
 refine fn0 [0] Tryz.func50 rfl rfl rfl rfl rfl ?_
 refine sr (sa rfl (sn (sq (SC.seqP h0 (fun y => ⟨mk 56 [(0, .d (eS p0)), (21, .d (eB y))], []⟩) ?_ ?_))))
 ·intro u1_303 h1
  refine SC.region (sm rfl (s1 (len rfl rfl rfl (len_str un9)) (s1 (bi rfl rfl q_i64_lss) (sm rfl (sp h1 (fun h1 => ?_) (fun h1 => ?_))))))
  ·have q := si h1; subst q
   refine kw rfl (kw rfl (kw rfl (s1 (pkt rfl rfl) (sm rfl (kw rfl (kw rfl (kw rfl (s1 (pkt rfl rfl) (sm rfl ?_)))))))))
   exact kw rfl (kw rfl (kw rfl (s1 (pkt rfl rfl) (SO.nil ((wq rfl))))))
  ·refine gw rfl (mv rfl) (gw rfl (len rfl rfl rfl (len_str un9)) (gw rfl (bi rfl rfl q_i64_gtr) (s1 (pkf rfl rfl) (sm rfl (sp h1 (fun h1 => ?_) (fun h1 => ?_))))))
   ·have q := si h1; subst q
    refine kw rfl (kw rfl (kw rfl (s1 (pkt rfl rfl) (sm rfl (kw rfl (kw rfl (kw rfl (s1 (pkt rfl rfl) (SO.nil ?_)))))))))
    exact (wq rfl)
   ·obtain ⟨v304, hv304, h1⟩ := ob h1
    refine gw rfl (mv rfl) (gw rfl (ixs rfl rfl rfl rfl (ix_str un9 (getI_some hv304).1 (getI_some hv304).2)) (gw rfl (bi rfl rfl (q_u8_lss (b := (97 : UInt8)))) (s1 (pkf rfl rfl) (sm rfl (sp h1 (fun h1 => ?_) (fun h1 => ?_))))))
    ·have q := si h1; subst q
     exact kw rfl (kw rfl (kw rfl (s1 (pkt rfl rfl) (SO.nil ((wq rfl))))))
    ·obtain ⟨v305, hv305, h1⟩ := ob h1; have q := si h1; subst q
     exact gw rfl (mv rfl) (gw rfl (ixs rfl rfl rfl rfl (ix_str un9 (getI_some hv305).1 (getI_some hv305).2)) (gw rfl (bi rfl rfl (q_u8_gtr (b := (122 : UInt8)))) (s1 (pkf rfl rfl) (SO.nil ((wq rfl))))))
 ·rintro y302 h0
  refine cB h0 rfl (fun h0 => ?_) (fun h0 => ?_)
  ·have q := si h0; subst q
   exact sr (sa rfl (sn (SC.ret (finR (Wk.refl _) (lresT rfl lresN) rfl))))
  ·refine sk (SC.seqB h0 (fun y => ⟨mk 56 [], []⟩) ?_ ?_)
   ·intro u1_377 h1 h0
    obtain ⟨u2_425, h2, h1⟩ := ob h1
    refine sr (sa rfl (sn (SC.blk (SC.loopB h2 (fun y => ⟨mk 56 [(0, .d (eS p0)), (3, .d (eI y))], []⟩) (wq rfl) ?_))))
    intro n448
    rintro y400 w2_424 h3 hv3
    refine sq (sr (sm rfl (sm rfl (s1 (len rfl rfl rfl (len_str un9)) (s1 (bi rfl rfl q_i64_lss) (sn (cB h3 rfl (fun h3 => ?_) (fun h3 => ?_))))))))
    ·refine sk (sq (SC.blk (SC.seqP h3 (fun y => ⟨mk 56 [(0, .d (eS p0)), (3, .d (eI y400)), (55, .d (eB y))], []⟩) ?_ ?_)))
     ·intro u4_437 h4
      obtain ⟨v438, hv438, h4⟩ := ob h4
      refine SC.region (sm rfl (sm rfl (s1 (ixs rfl rfl rfl rfl (ix_str un9 (getI_some hv438).1 (getI_some hv438).2)) (s1 (bi rfl rfl (q_u8_lss (b := (97 : UInt8)))) (sm rfl (sp h4 (fun h4 => ?_) (fun h4 => ?_)))))))
      ·obtain ⟨v439, hv439, h4⟩ := ob h4
       refine kw rfl (kw rfl (kw rfl (kw rfl (s1 (pkt rfl rfl) (sm rfl (gw rfl (mv rfl) (gw rfl (mv rfl) (gw rfl (ixs rfl rfl rfl rfl (ix_str un9 (getI_some hv439).1 (getI_some hv439).2)) (gw rfl (bi rfl rfl (q_u8_lss (b := (48 : UInt8)))) ?_)))))))))
       refine gw rfl (mv rfl) (sp h4 (fun h4 => ?_) (fun h4 => ?_))
       ·obtain ⟨v440, hv440, h4⟩ := ob h4; have q := si h4; subst q
        refine kw rfl (kw rfl (kw rfl (kw rfl (gw rfl (pkt rfl rfl) (s1 (pkt rfl rfl) (sm rfl (gw rfl (mv rfl) (gw rfl (mv rfl) (gw rfl (ixs rfl rfl rfl rfl (ix_str un9 (getI_some hv440).1 (getI_some hv440).2)) ?_)))))))))
        exact gw rfl (bi rfl rfl (q_u8_neq (b := (95 : UInt8)))) (s1 (pkt rfl rfl) (SO.nil ((wq rfl))))
       ·obtain ⟨v441, hv441, h4⟩ := ob h4
        refine gw rfl (mv rfl) (gw rfl (mv rfl) (gw rfl (ixs rfl rfl rfl rfl (ix_str un9 (getI_some hv441).1 (getI_some hv441).2)) (gw rfl (bi rfl rfl (q_u8_gtr (b := (57 : UInt8)))) (gw rfl (pkf rfl rfl) (s1 (pkt rfl rfl) (sm rfl (sp h4 (fun h4 => ?_) (fun h4 => ?_))))))))
        ·obtain ⟨v442, hv442, h4⟩ := ob h4; have q := si h4; subst q
         exact gw rfl (mv rfl) (gw rfl (mv rfl) (gw rfl (ixs rfl rfl rfl rfl (ix_str un9 (getI_some hv442).1 (getI_some hv442).2)) (gw rfl (bi rfl rfl (q_u8_neq (b := (95 : UInt8)))) (s1 (pkt rfl rfl) (SO.nil ((wq rfl)))))))
        ·have q := si h4; subst q
         exact kw rfl (kw rfl (kw rfl (kw rfl (s1 (pkf rfl rfl) (SO.nil ((wq rfl)))))))
      ·obtain ⟨v443, hv443, h4⟩ := ob h4
       refine gw rfl (mv rfl) (gw rfl (mv rfl) (gw rfl (ixs rfl rfl rfl rfl (ix_str un9 (getI_some hv443).1 (getI_some hv443).2)) (gw rfl (bi rfl rfl (q_u8_gtr (b := (122 : UInt8)))) (s1 (pkf rfl rfl) (sm rfl (sp h4 (fun h4 => ?_) (fun h4 => ?_)))))))
       ·obtain ⟨v444, hv444, h4⟩ := ob h4
        refine gw rfl (mv rfl) (gw rfl (mv rfl) (gw rfl (ixs rfl rfl rfl rfl (ix_str un9 (getI_some hv444).1 (getI_some hv444).2)) (gw rfl (bi rfl rfl (q_u8_lss (b := (48 : UInt8)))) (gw rfl (mv rfl) (sp h4 (fun h4 => ?_) (fun h4 => ?_))))))
        ·obtain ⟨v445, hv445, h4⟩ := ob h4; have q := si h4; subst q
         refine kw rfl (kw rfl (kw rfl (kw rfl (gw rfl (pkt rfl rfl) (s1 (pkt rfl rfl) (sm rfl (gw rfl (mv rfl) (gw rfl (mv rfl) (gw rfl (ixs rfl rfl rfl rfl (ix_str un9 (getI_some hv445).1 (getI_some hv445).2)) ?_)))))))))
         exact gw rfl (bi rfl rfl (q_u8_neq (b := (95 : UInt8)))) (s1 (pkt rfl rfl) (SO.nil ((wq rfl))))
        ·obtain ⟨v446, hv446, h4⟩ := ob h4
         refine gw rfl (mv rfl) (gw rfl (mv rfl) (gw rfl (ixs rfl rfl rfl rfl (ix_str un9 (getI_some hv446).1 (getI_some hv446).2)) (gw rfl (bi rfl rfl (q_u8_gtr (b := (57 : UInt8)))) (gw rfl (pkf rfl rfl) (s1 (pkt rfl rfl) (sm rfl (sp h4 (fun h4 => ?_) (fun h4 => ?_))))))))
         ·obtain ⟨v447, hv447, h4⟩ := ob h4; have q := si h4; subst q
          exact gw rfl (mv rfl) (gw rfl (mv rfl) (gw rfl (ixs rfl rfl rfl rfl (ix_str un9 (getI_some hv447).1 (getI_some hv447).2)) (gw rfl (bi rfl rfl (q_u8_neq (b := (95 : UInt8)))) (s1 (pkt rfl rfl) (SO.nil ((wq rfl)))))))
         ·have q := si h4; subst q
          exact kw rfl (kw rfl (kw rfl (kw rfl (s1 (pkf rfl rfl) (SO.nil ((wq rfl)))))))
       ·have q := si h4; subst q
        refine kw rfl (kw rfl (kw rfl (kw rfl (kw rfl (kw rfl (kw rfl (kw rfl (kw rfl (kw rfl ?_)))))))))
        exact s1 (pkf rfl rfl) (sm rfl (kw rfl (kw rfl (kw rfl (kw rfl (s1 (pkf rfl rfl) (SO.nil ((wq rfl)))))))))
     ·rintro y436 h3
      refine cB h3 rfl (fun h3 => ?_) (fun h3 => ?_)
      ·have q := si h3; subst q; have q : _ = _ := hv3; subst q; have q := si h1; subst q; have q := si h0; subst q
       exact sr (sa rfl (sn (SC.ret (finR (Wk.refl _) (lresT rfl lresN) rfl))))
      ·refine SC.skip ?_
       change SC _ _ _ _ _
       have q := si h3; subst q
       exact SC.region (sm rfl (s1 (bi rfl rfl q_i64_add) (sa rfl (SO.nil (lf (wq rfl))))))
    ·have q := si h3; subst q; have q : _ = _ := hv3; subst q; have q := si h1; subst q
     exact SC.exit (lf (wq rfl))
   ·intro _ h0
    have q := si h0; subst q
    exact sr (sa rfl (sn (SC.ret (finR (Wk.refl _) (lresT rfl lresN) rfl))))
noncomputable def ref06_utf8 (p0 : List UInt8) : Option Bool :=
 bindE (Y := Unit) (E := Bool)
 (Option.bind (α := Unit ⊕ Bool)
 (loop (Y := Int) (W := Unit ⊕ Bool) (fun y878 =>
 bif (decide (y878 < (p0.length : Int))) then
 Option.bind (getI p0 y878) fun v935 =>
 bindE (Y := Int × Int × Int) (E := Bool)
 (bif (decide ((v935.toNat : Int) < (128 : Int))) then
 some (Sum.inl ((1 : Int), (0 : Int), (v935.toNat : Int)))
 else
 Option.bind (α := Bool)
 (bif (decide ((v935.toNat : Int) ≥ (194 : Int))) then
 some (decide ((v935.toNat : Int) < (224 : Int)))
 else
 some false)
 fun y946 =>
 bif y946 then
 some (Sum.inl ((2 : Int), (128 : Int), (w64 ((v935.toNat : Int) - (192 : Int)))))
 else
 Option.bind (α := Bool)
 (bif (decide ((v935.toNat : Int) ≥ (224 : Int))) then
 some (decide ((v935.toNat : Int) < (240 : Int)))
 else
 some false)
 fun y948 =>
 bif y948 then
 some (Sum.inl ((3 : Int), (2048 : Int), (w64 ((v935.toNat : Int) - (224 : Int)))))
 else
 Option.bind (α := Bool)
 (bif (decide ((v935.toNat : Int) ≥ (240 : Int))) then
 some (decide ((v935.toNat : Int) < (245 : Int)))
 else
 some false)
 fun y950 =>
 bif y950 then
 some (Sum.inl ((4 : Int), (65536 : Int), (w64 ((v935.toNat : Int) - (240 : Int)))))
 else
 some (Sum.inr false))
 (fun (y942, y943, y944) =>
 bif (decide ((w64 (y878 + y942)) > (p0.length : Int))) then
 some (Sum.inr (Sum.inr false))
 else
 bindE (Y := Int) (E := Bool)
 (Option.bind (α := Int ⊕ Bool)
 (loop (Y := Int × Int) (W := Int ⊕ Bool) (fun (y973, y974) =>
 bif (decide (y974 < y942)) then
 Option.bind (getI p0 (w64 (y878 + y974))) fun v982 =>
 Option.bind (α := Bool)
 (bif (decide ((v982.toNat : Int) < (128 : Int))) then
 some true
 else
 some (decide ((v982.toNat : Int) ≥ (192 : Int))))
 fun y983 =>
 bif y983 then
 some (Sum.inr (Sum.inr false))
 else
 some (Sum.inl ((w64 ((w64 ((w64 (y973 * (64 : Int))) + (v982.toNat : Int))) - (128 : Int))), (w64 (y974 + (1 : Int)))))
 else
 some (Sum.inr (Sum.inl y973))) (y944, (1 : Int)))
 (Sum.elim (fun e => some (Sum.inl e)) (fun e => some (Sum.inr e))))
 (fun y968 =>
 Option.bind (α := Bool)
 (bif (decide (y968 < y943)) then
 some true
 else
 bif (decide (y968 > (1114111 : Int))) then
 some true
 else
 bif (decide (y968 ≥ (55296 : Int))) then
 some (decide (y968 < (57344 : Int)))
 else
 some false)
 fun y986 =>
 bif y986 then
 some (Sum.inr (Sum.inr false))
 else
 some (Sum.inl (w64 (y878 + y942))))
 (fun e => some (Sum.inr (Sum.inr e))))
 (fun e => some (Sum.inr (Sum.inr e)))
 else
 some (Sum.inr (Sum.inl ()))) (0 : Int))
 (Sum.elim (fun e => some (Sum.inl e)) (fun e => some (Sum.inr e))))
 (fun _ =>
 some true)
 (fun e => some e)
theorem ref06_utf8_ok (p0 : List UInt8) (r : Bool) (h0 : ref06_utf8 p0 = some r) : CallAt Tryz.prog 51 [.d (eS p0)] [] (.d (eB r)) [] := by
 unfold ref06_utf8 at h0
 refine fn0 [0] Tryz.func51 rfl rfl rfl rfl rfl ?_
 refine sr (sa rfl (sn (SC.seqB h0 (fun y => ⟨mk 95 [], []⟩) ?_ ?_)))
 ·intro u1_824 h1 h0
  obtain ⟨u2_934, h2, h1⟩ := ob h1
  refine sr (sa rfl (sn (SC.blk (SC.loopB h2 (fun y => ⟨mk 95 [(0, .d (eS p0)), (3, .d (eI y))], []⟩) (wq rfl) ?_))))
  intro n988
  rintro y878 w2_933 h3 hv3
  refine sq (sr (sm rfl (sm rfl (s1 (len rfl rfl rfl (len_str un9)) (s1 (bi rfl rfl q_i64_lss) (sn (cB h3 rfl (fun h3 => ?_) (fun h3 => ?_))))))))
  ·obtain ⟨v935, hv935, h3⟩ := ob h3
   refine sk (SC.blk (sr (sm rfl (sm rfl (s1 (ixs rfl rfl rfl rfl (ix_str un9 (getI_some hv935).1 (getI_some hv935).2)) (s1 (cvo rfl (cv_u8_i64 un5 un3 v935)) (sa rfl (sn (sr ?_)))))))))
   refine sa rfl (sn (sr (sa rfl (sn (sr (sm rfl (sa rfl (sn (SC.seqB h3 (fun y => ⟨mk 95 [(0, .d (eS p0)), (3, .d (eI y878)), (5, .d (eI y.1)), (6, .d (eI y.2.1)), (7, .d (eI y.2.2))], []⟩) ?_ ?_)))))))))
   ·intro u4_945 h4 h3
    refine SC.blk (sr (sm rfl (s1 (bi rfl rfl q_i64_lss) (sa rfl (sn (cB h4 rfl (fun h4 => ?_) (fun h4 => ?_)))))))
    ·have q := si h4; subst q
     exact SC.skip (lf (wq rfl))
    ·refine SC.seqP h4 (fun y => ⟨mk 95 [(0, .d (eS p0)), (3, .d (eI y878)), (4, .d (eI (v935.toNat : Int))), (22, .d (eB y))], []⟩) ?_ ?_
     ·intro u5_947 h5
      refine SC.region (sm rfl (s1 (bi rfl rfl q_i64_geq) (sm rfl (sp h5 (fun h5 => ?_) (fun h5 => ?_)))))
      ·have q := si h5; subst q
       exact gw rfl (mv rfl) (gw rfl (bi rfl rfl q_i64_lss) (s1 (pkt rfl rfl) (sa rfl (SO.nil ((wq rfl))))))
      ·have q := si h5; subst q
       exact kw rfl (kw rfl (s1 (pkf rfl rfl) (sa rfl (SO.nil ((wq rfl))))))
     ·rintro y946 h4
      refine cB h4 rfl (fun h4 => ?_) (fun h4 => ?_)
      ·have q := si h4; subst q
       exact SC.region (sm rfl (s1 (bi rfl rfl q_i64_sub) (sa rfl (sa rfl (sa rfl (SO.nil (lf (wq rfl))))))))
      ·refine SC.seqP h4 (fun y => ⟨mk 95 [(0, .d (eS p0)), (3, .d (eI y878)), (4, .d (eI (v935.toNat : Int))), (31, .d (eB y))], []⟩) ?_ ?_
       ·intro u5_949 h5
        refine SC.region (sm rfl (s1 (bi rfl rfl q_i64_geq) (sm rfl (sp h5 (fun h5 => ?_) (fun h5 => ?_)))))
        ·have q := si h5; subst q
         exact gw rfl (mv rfl) (gw rfl (bi rfl rfl q_i64_lss) (s1 (pkt rfl rfl) (sa rfl (SO.nil ((wq rfl))))))
        ·have q := si h5; subst q
         exact kw rfl (kw rfl (s1 (pkf rfl rfl) (sa rfl (SO.nil ((wq rfl))))))
       ·rintro y948 h4
        refine cB h4 rfl (fun h4 => ?_) (fun h4 => ?_)
        ·have q := si h4; subst q
         exact SC.region (sm rfl (s1 (bi rfl rfl q_i64_sub) (sa rfl (sa rfl (sa rfl (SO.nil (lf (wq rfl))))))))
        ·refine SC.seqP h4 (fun y => ⟨mk 95 [(0, .d (eS p0)), (3, .d (eI y878)), (4, .d (eI (v935.toNat : Int))), (40, .d (eB y))], []⟩) ?_ ?_
         ·intro u5_951 h5
          refine SC.region (sm rfl (s1 (bi rfl rfl q_i64_geq) (sm rfl (sp h5 (fun h5 => ?_) (fun h5 => ?_)))))
          ·have q := si h5; subst q
           exact gw rfl (mv rfl) (gw rfl (bi rfl rfl q_i64_lss) (s1 (pkt rfl rfl) (sa rfl (SO.nil ((wq rfl))))))
          ·have q := si h5; subst q
           exact kw rfl (kw rfl (s1 (pkf rfl rfl) (sa rfl (SO.nil ((wq rfl))))))
         ·rintro y950 h4
          refine cB h4 rfl (fun h4 => ?_) (fun h4 => ?_)
          ·have q := si h4; subst q
           exact SC.region (sm rfl (s1 (bi rfl rfl q_i64_sub) (sa rfl (sa rfl (sa rfl (SO.nil (lf (wq rfl))))))))
          ·have q := si h4; subst q; have q := si h3; subst q; have q : _ = _ := hv3; subst q; have q := si h1; subst q; have q := si h0; subst q
           exact sr (sa rfl (sn (SC.ret (finR (Wk.refl _) (lresT rfl lresN) rfl))))
   ·rintro ⟨y942, y943, y944⟩ h3
    refine sq (sr (sm rfl (sm rfl (s1 (bi rfl rfl q_i64_add) (sm rfl (s1 (len rfl rfl rfl (len_str un9)) (s1 (bi rfl rfl q_i64_gtr) (sn (cB h3 rfl (fun h3 => ?_) (fun h3 => ?_))))))))))
    ·have q := si h3; subst q; have q : _ = _ := hv3; subst q; have q := si h1; subst q; have q := si h0; subst q
     exact sr (sa rfl (sn (SC.ret (finR (Wk.refl _) (lresT rfl lresN) rfl))))
    ·refine sk (SC.seqB h3 (fun y => ⟨mk 95 [(0, .d (eS p0)), (3, .d (eI y878)), (5, .d (eI y942)), (6, .d (eI y943)), (7, .d (eI y))], []⟩) ?_ ?_)
     ·intro u4_969 h4 h3
      obtain ⟨u5_981, h5, h4⟩ := ob h4
      refine sr (sa rfl (sn (SC.blk (SC.loopB h5 (fun y => ⟨mk 95 [(0, .d (eS p0)), (3, .d (eI y878)), (5, .d (eI y942)), (6, .d (eI y943)), (7, .d (eI y.1)), (8, .d (eI y.2))], []⟩) (wq rfl) ?_))))
      intro n985
      rintro ⟨y973, y974⟩ w5_980 h6 hv6
      refine sq (sr (sm rfl (sm rfl (s1 (bi rfl rfl q_i64_lss) (sn (cB h6 rfl (fun h6 => ?_) (fun h6 => ?_)))))))
      ·obtain ⟨v982, hv982, h6⟩ := ob h6
       refine sk (sq (SC.blk (sr (sm rfl (sm rfl (sm rfl (s1 (bi rfl rfl q_i64_add) (s1 (ixs rfl rfl rfl rfl (ix_str un9 (getI_some hv982).1 (getI_some hv982).2)) (s1 (cvo rfl (cv_u8_i64 un5 un3 v982)) ?_)))))))))
       refine sa rfl (sn (sq (SC.seqP h6 (fun y => ⟨mk 95 [(0, .d (eS p0)), (3, .d (eI y878)), (5, .d (eI y942)), (6, .d (eI y943)), (7, .d (eI y973)), (8, .d (eI y974)), (9, .d (eI (v982.toNat : Int))), (71, .d (eB y))], []⟩) ?_ ?_)))
       ·intro u7_984 h7
        refine SC.region (sm rfl (s1 (bi rfl rfl q_i64_lss) (sm rfl (sp h7 (fun h7 => ?_) (fun h7 => ?_)))))
        ·have q := si h7; subst q
         exact kw rfl (kw rfl (s1 (pkt rfl rfl) (SO.nil ((wq rfl)))))
        ·have q := si h7; subst q
         exact gw rfl (mv rfl) (gw rfl (bi rfl rfl q_i64_geq) (s1 (pkf rfl rfl) (SO.nil ((wq rfl)))))
       ·rintro y983 h6
        refine cB h6 rfl (fun h6 => ?_) (fun h6 => ?_)
        ·have q := si h6; subst q; have q : _ = _ := hv6; subst q; have q := si h4; subst q; have q := si h3; subst q; have q : _ = _ := hv3; subst q; have q := si h1; subst q; have q := si h0; subst q
         exact sr (sa rfl (sn (SC.ret (finR (Wk.refl _) (lresT rfl lresN) rfl))))
        ·refine sk (SC.region (sm rfl (s1 (bi rfl rfl q_i64_mul) (sm rfl (s1 (bi rfl rfl q_i64_add) (s1 (bi rfl rfl q_i64_sub) (sa rfl (SO.nil ?_))))))))
         change SC _ _ _ _ _
         have q := si h6; subst q
         exact SC.region (sm rfl (s1 (bi rfl rfl q_i64_add) (sa rfl (SO.nil (lf (wq rfl))))))
      ·have q := si h6; subst q; have q : _ = _ := hv6; subst q; have q := si h4; subst q
       exact SC.exit (lf (wq rfl))
     ·rintro y968 h3
      refine sq (SC.seqP h3 (fun y => ⟨mk 95 [(0, .d (eS p0)), (3, .d (eI y878)), (5, .d (eI y942)), (91, .d (eB y))], []⟩) ?_ ?_)
      ·intro u4_987 h4
       refine SC.region (sm rfl (sm rfl (s1 (bi rfl rfl q_i64_lss) (sm rfl (sp h4 (fun h4 => ?_) (fun h4 => ?_))))))
       ·have q := si h4; subst q
        refine kw rfl (kw rfl (s1 (pkt rfl rfl) (sm rfl (kw rfl (kw rfl (kw rfl (kw rfl (kw rfl (kw rfl ?_)))))))))
        exact s1 (pkt rfl rfl) (SO.nil ((wq rfl)))
       ·refine gw rfl (mv rfl) (gw rfl (bi rfl rfl q_i64_gtr) (s1 (pkf rfl rfl) (sm rfl (sp h4 (fun h4 => ?_) (fun h4 => ?_)))))
        ·have q := si h4; subst q
         exact kw rfl (kw rfl (kw rfl (kw rfl (kw rfl (kw rfl (s1 (pkt rfl rfl) (SO.nil ((wq rfl)))))))))
        ·refine gw rfl (mv rfl) (gw rfl (bi rfl rfl q_i64_geq) (gw rfl (mv rfl) (sp h4 (fun h4 => ?_) (fun h4 => ?_))))
         ·have q := si h4; subst q
          exact gw rfl (mv rfl) (gw rfl (bi rfl rfl q_i64_lss) (gw rfl (pkt rfl rfl) (s1 (pkf rfl rfl) (SO.nil ((wq rfl))))))
         ·have q := si h4; subst q
          exact kw rfl (kw rfl (gw rfl (pkf rfl rfl) (s1 (pkf rfl rfl) (SO.nil ((wq rfl))))))
      ·rintro y986 h3
       refine cB h3 rfl (fun h3 => ?_) (fun h3 => ?_)
       ·have q := si h3; subst q; have q : _ = _ := hv3; subst q; have q := si h1; subst q; have q := si h0; subst q
        exact sr (sa rfl (sn (SC.ret (finR (Wk.refl _) (lresT rfl lresN) rfl))))
       ·have q := si h3; subst q
        exact sk (SC.region (sm rfl (sm rfl (s1 (bi rfl rfl q_i64_add) (sa rfl (SO.nil (lf (wq rfl))))))))
  ·have q := si h3; subst q; have q : _ = _ := hv3; subst q; have q := si h1; subst q
   exact SC.exit (lf (wq rfl))
 ·intro _ h0
  have q := si h0; subst q
  exact sr (sa rfl (sn (SC.ret (finR (Wk.refl _) (lresT rfl lresN) rfl))))
noncomputable def ref06_Valid (p0 : ApiValue) : Option Bool :=
 bif (p0.Kind == (0 : Int)) then
 Option.bind (α := Bool)
 (bif (p0.N == (0 : UInt64)) then
 some (p0.S == ([] : List UInt8))
 else
 some false)
 fun y30 =>
 some y30
 else
 Option.bind (α := Bool)
 (bif (p0.Kind == (1 : Int)) then
 some (p0.Kind == (1 : Int))
 else
 some (p0.Kind == (2 : Int)))
 fun y32 =>
 bif y32 then
 some (p0.S == ([] : List UInt8))
 else
 bif (p0.Kind == (3 : Int)) then
 Option.bind (α := Bool)
 (bif (decide (p0.N < (2 : UInt64))) then
 some (p0.S == ([] : List UInt8))
 else
 some false)
 fun y34 =>
 some y34
 else
 bif (p0.Kind == (4 : Int)) then
 Option.bind (α := Bool)
 (bif (p0.N == (0 : UInt64)) then
 some (decide ((p0.S.length : Int) ≤ (64 : Int)))
 else
 some false)
 fun y36 =>
 some y36
 else
 bif (p0.Kind == (5 : Int)) then
 Option.bind (α := Bool)
 (bif (p0.N == (0 : UInt64)) then
 bif (decide ((p0.S.length : Int) ≤ (64 : Int))) then
 Option.bind (ref06_utf8 p0.S) fun r43 =>
 some r43
 else
 some false
 else
 some false)
 fun y40 =>
 some y40
 else
 some false
theorem ref06_Valid_ok (p0 : ApiValue) (r : Bool) (h0 : ref06_Valid p0 = some r) : CallAt Tryz.prog 36 [.d (eApiValue p0)] [] (.d (eB r)) [] := by
 unfold ref06_Valid at h0
 refine fn0 [0] Tryz.func36 rfl rfl rfl rfl rfl ?_
 refine sr (s1 (bxo (k := 0) rfl rfl rfl) (sa rfl (sn (sq (sr (s1 (far (k := 0) rfl fo41_0 ts3 rfl) (s1 (lod rfl (ld_box ts3 ta3 rfl rfl)) (sn (SC.blk ?_)))))))))
 refine sr (s1 (bi rfl rfl q_i64_eql) (sa rfl (sn (cB h0 rfl (fun h0 => ?_) (fun h0 => ?_)))))
 ·refine SC.seqP h0 (fun y => ⟨mk 58 [(2, .d (eB y))], []⟩) ?_ ?_
  ·intro u1_31 h1
   refine SC.region (s1 (far (k := 1) rfl fo41_1 ts39 rfl) (s1 (lod rfl (ld_box ts39 ta39 rfl rfl)) (s1 (bi rfl rfl (q_u64_eql (b := (0 : UInt64)))) (sm rfl (sp h1 (fun h1 => ?_) (fun h1 => ?_))))))
   ·have q := si h1; subst q
    exact gw rfl (far (k := 2) rfl fo41_2 ts9 rfl) (gw rfl (lod rfl (ld_box ts9 ta9 rfl rfl)) (gw rfl (bi rfl rfl (q_str_eql (b := ([] : List UInt8)))) (s1 (pkt rfl rfl) (sa rfl (SO.nil ((wc [] [] (by kernel_rfl) rfl (by kernel_rfl))))))))
   ·have q := si h1; subst q
    exact kw rfl (kw rfl (kw rfl (s1 (pkf rfl rfl) (sa rfl (SO.nil ((wc [] [] (by kernel_rfl) rfl (by kernel_rfl))))))))
  ·rintro y30 h0
   have q := si h0; subst q
   exact SC.ret (finR (Wk.refl _) (lresT rfl lresN) rfl)
 ·refine SC.seqP h0 (fun y => ⟨mk 58 [(1, .ref 0 0 0), (4, .d (eI p0.Kind)), (15, .d (eB y))], [.box (.d (eApiValue p0))]⟩) ?_ ?_
  ·intro u1_33 h1
   refine sr (s1 (bi rfl rfl q_i64_eql) (sa rfl (sn (cB h1 rfl (fun h1 => ?_) (fun h1 => ?_)))))
   ·have q := si h1; subst q
    exact SC.skip ((wq rfl))
   ·have q := si h1; subst q
    exact SC.region (s1 (bi rfl rfl q_i64_eql) (sa rfl (SO.nil ((wq rfl)))))
  ·rintro y32 h0
   refine cB h0 rfl (fun h0 => ?_) (fun h0 => ?_)
   ·have q := si h0; subst q
    exact sr (s1 (far (k := 2) rfl fo41_2 ts9 rfl) (s1 (lod rfl (ld_box ts9 ta9 rfl rfl)) (s1 (bi rfl rfl (q_str_eql (b := ([] : List UInt8)))) (sa rfl (sn (SC.ret (finR (wc (e' := [(2, .d (eB (p0.S == ([] : List UInt8))))]) [] [] (by kernel_rfl) rfl (by kernel_rfl)) (lresT rfl lresN) rfl)))))))
   ·refine sr (s1 (bi rfl rfl q_i64_eql) (sa rfl (sn (cB h0 rfl (fun h0 => ?_) (fun h0 => ?_)))))
    ·refine SC.seqP h0 (fun y => ⟨mk 58 [(2, .d (eB y))], []⟩) ?_ ?_
     ·intro u1_35 h1
      refine SC.region (s1 (far (k := 1) rfl fo41_1 ts39 rfl) (s1 (lod rfl (ld_box ts39 ta39 rfl rfl)) (s1 (bi rfl rfl (q_u64_lss (b := (2 : UInt64)))) (sm rfl (sp h1 (fun h1 => ?_) (fun h1 => ?_))))))
      ·have q := si h1; subst q
       exact gw rfl (far (k := 2) rfl fo41_2 ts9 rfl) (gw rfl (lod rfl (ld_box ts9 ta9 rfl rfl)) (gw rfl (bi rfl rfl (q_str_eql (b := ([] : List UInt8)))) (s1 (pkt rfl rfl) (sa rfl (SO.nil ((wc [] [] (by kernel_rfl) rfl (by kernel_rfl))))))))
      ·have q := si h1; subst q
       exact kw rfl (kw rfl (kw rfl (s1 (pkf rfl rfl) (sa rfl (SO.nil ((wc [] [] (by kernel_rfl) rfl (by kernel_rfl))))))))
     ·rintro y34 h0
      have q := si h0; subst q
      exact SC.ret (finR (Wk.refl _) (lresT rfl lresN) rfl)
    ·refine sr (s1 (bi rfl rfl q_i64_eql) (sa rfl (sn (cB h0 rfl (fun h0 => ?_) (fun h0 => ?_)))))
     ·refine SC.seqP h0 (fun y => ⟨mk 58 [(2, .d (eB y))], []⟩) ?_ ?_
      ·intro u1_37 h1
       refine SC.region (s1 (far (k := 1) rfl fo41_1 ts39 rfl) (s1 (lod rfl (ld_box ts39 ta39 rfl rfl)) (s1 (bi rfl rfl (q_u64_eql (b := (0 : UInt64)))) (sm rfl (sp h1 (fun h1 => ?_) (fun h1 => ?_))))))
       ·have q := si h1; subst q
        exact gw rfl (far (k := 2) rfl fo41_2 ts9 rfl) (gw rfl (lod rfl (ld_box ts9 ta9 rfl rfl)) (gw rfl (len rfl rfl rfl (len_str un9)) (gw rfl (bi rfl rfl q_i64_leq) (s1 (pkt rfl rfl) (sa rfl (SO.nil ((wc [] [] (by kernel_rfl) rfl (by kernel_rfl)))))))))
       ·have q := si h1; subst q
        exact kw rfl (kw rfl (kw rfl (kw rfl (s1 (pkf rfl rfl) (sa rfl (SO.nil ((wc [] [] (by kernel_rfl) rfl (by kernel_rfl)))))))))
      ·rintro y36 h0
       have q := si h0; subst q
       exact SC.ret (finR (Wk.refl _) (lresT rfl lresN) rfl)
     ·refine sr (s1 (bi rfl rfl q_i64_eql) (sa rfl (sn (cB h0 rfl (fun h0 => ?_) (fun h0 => ?_)))))
      ·refine SC.seqP h0 (fun y => ⟨mk 58 [(2, .d (eB y))], []⟩) ?_ ?_
       ·intro u1_41 h1
        refine SC.region (s1 (far (k := 1) rfl fo41_1 ts39 rfl) (s1 (lod rfl (ld_box ts39 ta39 rfl rfl)) (s1 (bi rfl rfl (q_u64_eql (b := (0 : UInt64)))) (sm rfl (sp h1 (fun h1 => ?_) (fun h1 => ?_))))))
        ·refine gw rfl (far (k := 2) rfl fo41_2 ts9 rfl) (gw rfl (lod rfl (ld_box ts9 ta9 rfl rfl)) (gw rfl (len rfl rfl rfl (len_str un9)) (gw rfl (bi rfl rfl q_i64_leq) (s1 (pkt rfl rfl) (sm rfl (sp h1 (fun h1 => ?_) (fun h1 => ?_)))))))
         ·obtain ⟨r43, hq42, h1⟩ := ob h1; have q := si h1; subst q
          exact gw rfl (far (k := 2) rfl fo41_2 ts9 rfl) (gw rfl (lod rfl (ld_box ts9 ta9 rfl rfl)) (c0 (ref06_utf8_ok p0.S _ hq42) (ww rfl) rfl rfl rfl cb51 rfl (fun _ => rfl) (fun _ => rfl) (s1 (pkt rfl rfl) (sa rfl (SO.nil ((wc [] [] (by kernel_rfl) rfl (by kernel_rfl))))))))
         ·have q := si h1; subst q
          exact kw rfl (kw rfl (kw rfl (s1 (pkf rfl rfl) (sa rfl (SO.nil ((wc [] [] (by kernel_rfl) rfl (by kernel_rfl))))))))
        ·have q := si h1; subst q
         refine kw rfl (kw rfl (kw rfl (kw rfl (s1 (pkf rfl rfl) (sm rfl (kw rfl (kw rfl (kw rfl (s1 (pkf rfl rfl) ?_)))))))))
         exact sa rfl (SO.nil ((wc [] [] (by kernel_rfl) rfl (by kernel_rfl))))
       ·rintro y40 h0
        have q := si h0; subst q
        exact SC.ret (finR (Wk.refl _) (lresT rfl lresN) rfl)
      ·refine SC.skip ?_
       change SC _ _ _ _ _
       have q := si h0; subst q
       exact sr (sa rfl (sn (SC.ret (finR (wc (e' := [(2, .d (eB false))]) [] [] (by kernel_rfl) rfl (by kernel_rfl)) (lresT rfl lresN) rfl))))
noncomputable def ref06_Fits (p0 : ApiColumn) (p1 : ApiValue) : Option Int :=
 Option.bind (α := Bool)
 (Option.bind (ref06_Valid p1) fun r23 =>
 bif (!r23) then
 some true
 else
 bif (p1.Kind == (0 : Int)) then
 bif (!p0.Nulls) then
 some true
 else
 bif (p1.Kind != (0 : Int)) then
 some (p1.Kind != p0.Kind)
 else
 some false
 else
 bif (p1.Kind != (0 : Int)) then
 some (p1.Kind != p0.Kind)
 else
 some false)
 fun y20 =>
 bif y20 then
 some (8 : Int)
 else
 Option.bind (α := Bool)
 (bif (p1.Kind == (4 : Int)) then
 some (decide ((p1.S.length : Int) > p0.Max))
 else
 bif (p1.Kind == (5 : Int)) then
 some (decide ((p1.S.length : Int) > p0.Max))
 else
 some false)
 fun y24 =>
 bif y24 then
 some (7 : Int)
 else
 some (0 : Int)
theorem ref06_Fits_ok (p0 : ApiColumn) (p1 : ApiValue) (r : Int) (h0 : ref06_Fits p0 p1 = some r) : CallAt Tryz.prog 22 [.d (eApiColumn p0), .d (eApiValue p1)] [] (.d (eI r)) [] := by
 unfold ref06_Fits at h0
 refine fn0 [0, 1] Tryz.func22 rfl rfl rfl rfl rfl ?_
 refine sr (s1 (bxo (k := 0) rfl rfl rfl) (s1 (bxo (k := 1) rfl rfl rfl) (sa rfl (sn (sq (SC.seqP h0 (fun y => ⟨mk 46 [(2, .ref 0 0 0), (3, .ref 1 0 0), (29, .d (eB y))], [.box (.d (eApiColumn p0)), .box (.d (eApiValue p1))]⟩) ?_ ?_))))))
 ·intro u1_21 h1
  obtain ⟨r23, hq22, h1⟩ := ob h1
  refine SC.region (s1 (lod (v := .d (eApiValue p1)) rfl (ld_box ts41 ta41 rfl rfl)) (c0 (ref06_Valid_ok p1 _ hq22) wf rfl rfl rfl cb36 rfl (fun _ => rfl) (fun _ => rfl) (s1 (nt rfl) (sm rfl (sp h1 (fun h1 => ?_) (fun h1 => ?_))))))
  ·have q := si h1; subst q
   refine kw rfl (kw rfl (kw rfl (kw rfl (kw rfl (kw rfl (kw rfl (kw rfl (s1 (pkt rfl rfl) (sm rfl ?_)))))))))
   refine kw rfl (kw rfl (kw rfl (kw rfl (kw rfl (kw rfl (kw rfl (kw rfl (kw rfl (kw rfl ?_)))))))))
   exact s1 (pkt rfl rfl) (SO.nil ((wq rfl)))
  ·refine gw rfl (far (k := 0) rfl fo41_0 ts3 rfl) (gw rfl (lod rfl (ld_box ts3 ta3 rfl rfl)) (gw rfl (bi rfl rfl q_i64_eql) (gw rfl (mv rfl) (sp h1 (fun h1 => ?_) (fun h1 => ?_)))))
   ·refine gw rfl (far (k := 3) rfl fo50_3 ts4 rfl) (gw rfl (lod rfl (ld_box ts4 ta4 rfl rfl)) (gw rfl (nt rfl) (gw rfl (pkt rfl rfl) (s1 (pkf rfl rfl) (sm rfl (sp h1 (fun h1 => ?_) (fun h1 => ?_)))))))
    ·have q := si h1; subst q
     refine kw rfl (kw rfl (kw rfl (kw rfl (kw rfl (kw rfl (kw rfl (kw rfl (kw rfl (kw rfl ?_)))))))))
     exact s1 (pkt rfl rfl) (SO.nil ((wq rfl)))
    ·refine gw rfl (far (k := 0) rfl fo41_0 ts3 rfl) (gw rfl (lod rfl (ld_box ts3 ta3 rfl rfl)) (gw rfl (bi rfl rfl q_i64_neq) (gw rfl (mv rfl) (sp h1 (fun h1 => ?_) (fun h1 => ?_)))))
     ·have q := si h1; subst q
      exact gw rfl (far (k := 0) rfl fo41_0 ts3 rfl) (gw rfl (lod rfl (ld_box ts3 ta3 rfl rfl)) (gw rfl (far (k := 1) rfl fo50_1 ts3 rfl) (gw rfl (lod rfl (ld_box ts3 ta3 rfl rfl)) (gw rfl (bi rfl rfl q_i64_neq) (gw rfl (pkt rfl rfl) (s1 (pkf rfl rfl) (SO.nil ((wq rfl)))))))))
     ·have q := si h1; subst q
      exact kw rfl (kw rfl (kw rfl (kw rfl (kw rfl (gw rfl (pkf rfl rfl) (s1 (pkf rfl rfl) (SO.nil ((wq rfl)))))))))
   ·refine kw rfl (kw rfl (kw rfl (gw rfl (pkf rfl rfl) (s1 (pkf rfl rfl) (sm rfl (gw rfl (far (k := 0) rfl fo41_0 ts3 rfl) (gw rfl (lod rfl (ld_box ts3 ta3 rfl rfl)) (gw rfl (bi rfl rfl q_i64_neq) (gw rfl (mv rfl) ?_)))))))))
    refine sp h1 (fun h1 => ?_) (fun h1 => ?_)
    ·have q := si h1; subst q
     exact gw rfl (far (k := 0) rfl fo41_0 ts3 rfl) (gw rfl (lod rfl (ld_box ts3 ta3 rfl rfl)) (gw rfl (far (k := 1) rfl fo50_1 ts3 rfl) (gw rfl (lod rfl (ld_box ts3 ta3 rfl rfl)) (gw rfl (bi rfl rfl q_i64_neq) (gw rfl (pkt rfl rfl) (s1 (pkf rfl rfl) (SO.nil ((wq rfl)))))))))
    ·have q := si h1; subst q
     exact kw rfl (kw rfl (kw rfl (kw rfl (kw rfl (gw rfl (pkf rfl rfl) (s1 (pkf rfl rfl) (SO.nil ((wq rfl)))))))))
 ·rintro y20 h0
  refine cB h0 rfl (fun h0 => ?_) (fun h0 => ?_)
  ·have q := si h0; subst q
   exact sr (sa rfl (sn (SC.ret (finR (wc (e' := [(4, .d (eI (8 : Int)))]) [] [] (by kernel_rfl) rfl (by kernel_rfl)) (lresT rfl lresN) rfl))))
  ·refine sk (sq (SC.seqP h0 (fun y => ⟨mk 46 [(45, .d (eB y))], []⟩) ?_ ?_))
   ·intro u1_25 h1
    refine SC.region (s1 (far (k := 0) rfl fo41_0 ts3 rfl) (s1 (lod rfl (ld_box ts3 ta3 rfl rfl)) (s1 (bi rfl rfl q_i64_eql) (sm rfl (sp h1 (fun h1 => ?_) (fun h1 => ?_))))))
    ·have q := si h1; subst q
     refine kw rfl (kw rfl (kw rfl (s1 (pkt rfl rfl) (sm rfl (gw rfl (far (k := 2) rfl fo41_2 ts9 rfl) (gw rfl (lod rfl (ld_box ts9 ta9 rfl rfl)) (gw rfl (len rfl rfl rfl (len_str un9)) (gw rfl (far (k := 2) rfl fo50_2 ts3 rfl) (gw rfl (lod rfl (ld_box ts3 ta3 rfl rfl)) ?_)))))))))
     exact gw rfl (bi rfl rfl q_i64_gtr) (s1 (pkt rfl rfl) (SO.nil ((wc [] [] (by kernel_rfl) rfl (by kernel_rfl)))))
    ·refine gw rfl (far (k := 0) rfl fo41_0 ts3 rfl) (gw rfl (lod rfl (ld_box ts3 ta3 rfl rfl)) (gw rfl (bi rfl rfl q_i64_eql) (s1 (pkf rfl rfl) (sm rfl (sp h1 (fun h1 => ?_) (fun h1 => ?_))))))
     ·have q := si h1; subst q
      exact gw rfl (far (k := 2) rfl fo41_2 ts9 rfl) (gw rfl (lod rfl (ld_box ts9 ta9 rfl rfl)) (gw rfl (len rfl rfl rfl (len_str un9)) (gw rfl (far (k := 2) rfl fo50_2 ts3 rfl) (gw rfl (lod rfl (ld_box ts3 ta3 rfl rfl)) (gw rfl (bi rfl rfl q_i64_gtr) (s1 (pkt rfl rfl) (SO.nil ((wc [] [] (by kernel_rfl) rfl (by kernel_rfl))))))))))
     ·have q := si h1; subst q
      exact kw rfl (kw rfl (kw rfl (kw rfl (kw rfl (kw rfl (s1 (pkf rfl rfl) (SO.nil ((wc [] [] (by kernel_rfl) rfl (by kernel_rfl))))))))))
   ·rintro y24 h0
    refine cB h0 rfl (fun h0 => ?_) (fun h0 => ?_)
    ·have q := si h0; subst q
     exact sr (sa rfl (sn (SC.ret (finR (Wk.refl _) (lresT rfl lresN) rfl))))
    ·have q := si h0; subst q
     exact sk (sr (sa rfl (sn (SC.ret (finR (Wk.refl _) (lresT rfl lresN) rfl)))))
noncomputable def ref06_Column (p0 : ApiColumn) : Option Int :=
 Option.bind (ref06_Name p0.Name) fun r19 =>
 bif (!r19) then
 some (1 : Int)
 else
 Option.bind (α := Bool)
 (bif (decide (p0.Kind < (1 : Int))) then
 some true
 else
 some (decide (p0.Kind > (5 : Int))))
 fun y20 =>
 bif y20 then
 some (8 : Int)
 else
 Option.bind (α := Bool)
 (bif (decide (p0.Kind < (4 : Int))) then
 bif (p0.Max != (0 : Int)) then
 some true
 else
 bif (decide (p0.Kind > (3 : Int))) then
 bif (decide (p0.Max < (1 : Int))) then
 some true
 else
 some (decide (p0.Max > (64 : Int)))
 else
 some false
 else
 bif (decide (p0.Kind > (3 : Int))) then
 bif (decide (p0.Max < (1 : Int))) then
 some true
 else
 some (decide (p0.Max > (64 : Int)))
 else
 some false)
 fun y22 =>
 bif y22 then
 some (7 : Int)
 else
 Option.bind (ref06_Fits p0 p0.Default) fun r25 =>
 some r25
theorem ref06_Column_ok (p0 : ApiColumn) (r : Int) (h0 : ref06_Column p0 = some r) : CallAt Tryz.prog 35 [.d (eApiColumn p0)] [] (.d (eI r)) [] := by
 unfold ref06_Column at h0
 refine fn0 [0] Tryz.func35 rfl rfl rfl rfl rfl ?_
 obtain ⟨r19, hq18, h0⟩ := ob h0
 refine sr (s1 (bxo (k := 0) rfl rfl rfl) (sa rfl (sn (sq (sr (s1 (far (k := 0) rfl fo50_0 ts9 rfl) (s1 (lod rfl (ld_box ts9 ta9 rfl rfl)) (c0 (ref06_Name_ok p0.Name _ hq18) wf rfl rfl rfl cb50 rfl (fun _ => rfl) (fun _ => rfl) (s1 (nt rfl) ?_)))))))))
 refine sn (cB h0 rfl (fun h0 => ?_) (fun h0 => ?_))
 ·have q := si h0; subst q
  exact sr (sa rfl (sn (SC.ret (finR (wc (e' := [(2, .d (eI (1 : Int)))]) [] [] (by kernel_rfl) rfl (by kernel_rfl)) (lresT rfl lresN) rfl))))
 ·refine sk (sq (SC.seqP h0 (fun y => ⟨mk 42 [(1, .ref 0 0 0), (14, .d (eB y))], [.box (.d (eApiColumn p0))]⟩) ?_ ?_))
  ·intro u1_21 h1
   refine SC.region (s1 (far (k := 1) rfl fo50_1 ts3 rfl) (s1 (lod rfl (ld_box ts3 ta3 rfl rfl)) (s1 (bi rfl rfl q_i64_lss) (sm rfl (sp h1 (fun h1 => ?_) (fun h1 => ?_))))))
   ·have q := si h1; subst q
    exact kw rfl (kw rfl (kw rfl (s1 (pkt rfl rfl) (SO.nil ((wq rfl))))))
   ·have q := si h1; subst q
    exact gw rfl (far (k := 1) rfl fo50_1 ts3 rfl) (gw rfl (lod rfl (ld_box ts3 ta3 rfl rfl)) (gw rfl (bi rfl rfl q_i64_gtr) (s1 (pkf rfl rfl) (SO.nil ((wq rfl))))))
  ·rintro y20 h0
   refine cB h0 rfl (fun h0 => ?_) (fun h0 => ?_)
   ·have q := si h0; subst q
    exact sr (sa rfl (sn (SC.ret (finR (wc (e' := [(2, .d (eI (8 : Int)))]) [] [] (by kernel_rfl) rfl (by kernel_rfl)) (lresT rfl lresN) rfl))))
   ·refine sk (sq (SC.seqP h0 (fun y => ⟨mk 42 [(1, .ref 0 0 0), (37, .d (eB y))], [.box (.d (eApiColumn p0))]⟩) ?_ ?_))
    ·intro u1_23 h1
     refine SC.region (s1 (far (k := 1) rfl fo50_1 ts3 rfl) (s1 (lod rfl (ld_box ts3 ta3 rfl rfl)) (s1 (bi rfl rfl q_i64_lss) (sm rfl (sp h1 (fun h1 => ?_) (fun h1 => ?_))))))
     ·refine gw rfl (far (k := 2) rfl fo50_2 ts3 rfl) (gw rfl (lod rfl (ld_box ts3 ta3 rfl rfl)) (gw rfl (bi rfl rfl q_i64_neq) (s1 (pkt rfl rfl) (sm rfl (sp h1 (fun h1 => ?_) (fun h1 => ?_))))))
      ·have q := si h1; subst q
       refine kw rfl (kw rfl (kw rfl (kw rfl (kw rfl (kw rfl (kw rfl (kw rfl (kw rfl (kw rfl ?_)))))))))
       exact kw rfl (kw rfl (kw rfl (s1 (pkt rfl rfl) (SO.nil ((wq rfl))))))
      ·refine gw rfl (far (k := 1) rfl fo50_1 ts3 rfl) (gw rfl (lod rfl (ld_box ts3 ta3 rfl rfl)) (gw rfl (bi rfl rfl q_i64_gtr) (gw rfl (mv rfl) (sp h1 (fun h1 => ?_) (fun h1 => ?_)))))
       ·refine gw rfl (far (k := 2) rfl fo50_2 ts3 rfl) (gw rfl (lod rfl (ld_box ts3 ta3 rfl rfl)) (gw rfl (bi rfl rfl q_i64_lss) (gw rfl (mv rfl) (sp h1 (fun h1 => ?_) (fun h1 => ?_)))))
        ·have q := si h1; subst q
         exact kw rfl (kw rfl (kw rfl (gw rfl (pkt rfl rfl) (gw rfl (pkt rfl rfl) (s1 (pkf rfl rfl) (SO.nil ((wq rfl))))))))
        ·have q := si h1; subst q
         exact gw rfl (far (k := 2) rfl fo50_2 ts3 rfl) (gw rfl (lod rfl (ld_box ts3 ta3 rfl rfl)) (gw rfl (bi rfl rfl q_i64_gtr) (gw rfl (pkf rfl rfl) (gw rfl (pkt rfl rfl) (s1 (pkf rfl rfl) (SO.nil ((wq rfl))))))))
       ·have q := si h1; subst q
        refine kw rfl (kw rfl (kw rfl (kw rfl (kw rfl (kw rfl (kw rfl (kw rfl (gw rfl (pkf rfl rfl) (s1 (pkf rfl rfl) ?_)))))))))
        exact SO.nil ((wq rfl))
     ·refine kw rfl (kw rfl (kw rfl (s1 (pkf rfl rfl) (sm rfl (gw rfl (far (k := 1) rfl fo50_1 ts3 rfl) (gw rfl (lod rfl (ld_box ts3 ta3 rfl rfl)) (gw rfl (bi rfl rfl q_i64_gtr) (gw rfl (mv rfl) (sp h1 (fun h1 => ?_) (fun h1 => ?_))))))))))
      ·refine gw rfl (far (k := 2) rfl fo50_2 ts3 rfl) (gw rfl (lod rfl (ld_box ts3 ta3 rfl rfl)) (gw rfl (bi rfl rfl q_i64_lss) (gw rfl (mv rfl) (sp h1 (fun h1 => ?_) (fun h1 => ?_)))))
       ·have q := si h1; subst q
        exact kw rfl (kw rfl (kw rfl (gw rfl (pkt rfl rfl) (gw rfl (pkt rfl rfl) (s1 (pkf rfl rfl) (SO.nil ((wq rfl))))))))
       ·have q := si h1; subst q
        exact gw rfl (far (k := 2) rfl fo50_2 ts3 rfl) (gw rfl (lod rfl (ld_box ts3 ta3 rfl rfl)) (gw rfl (bi rfl rfl q_i64_gtr) (gw rfl (pkf rfl rfl) (gw rfl (pkt rfl rfl) (s1 (pkf rfl rfl) (SO.nil ((wq rfl))))))))
      ·have q := si h1; subst q
       refine kw rfl (kw rfl (kw rfl (kw rfl (kw rfl (kw rfl (kw rfl (kw rfl (gw rfl (pkf rfl rfl) (s1 (pkf rfl rfl) ?_)))))))))
       exact SO.nil ((wq rfl))
    ·rintro y22 h0
     refine cB h0 rfl (fun h0 => ?_) (fun h0 => ?_)
     ·have q := si h0; subst q
      exact sr (sa rfl (sn (SC.ret (finR (wc (e' := [(2, .d (eI (7 : Int)))]) [] [] (by kernel_rfl) rfl (by kernel_rfl)) (lresT rfl lresN) rfl))))
     ·obtain ⟨r25, hq24, h0⟩ := ob h0; have q := si h0; subst q
      exact sk (sr (s1 (lod (v := .d (eApiColumn p0)) rfl (ld_box ts50 ta50 rfl rfl)) (s1 (far (k := 4) rfl fo50_4 ts41 rfl) (s1 (lod (v := .d (eApiValue p0.Default)) rfl (ld_box ts41 ta41 rfl rfl)) (c0 (ref06_Fits_ok p0 p0.Default _ hq24) wf rfl rfl rfl cb22 rfl (fun _ => rfl) (fun _ => rfl) (sa rfl (sn (SC.ret (finR (wc (e' := [(2, .d (eI r25))]) [] [] (by kernel_rfl) rfl (by kernel_rfl)) (lresT rfl lresN) rfl)))))))))
noncomputable def ref08_Columns (p0 : List ApiColumn) : Option Bool :=
 Option.bind (α := Bool)
 (bif (decide ((p0.length : Int) < (1 : Int))) then
 some true
 else
 some (decide ((p0.length : Int) > (24 : Int))))
 fun y64 =>
 bif y64 then
 some false
 else
 bindE (Y := Unit) (E := Bool)
 (Option.bind (α := Unit ⊕ Bool)
 (loop (Y := Int) (W := Unit ⊕ Bool) (fun y84 =>
 bif (decide (y84 < (p0.length : Int))) then
 Option.bind (getI p0 y84) fun v91 =>
 Option.bind (ref06_Column v91) fun r93 =>
 bif (r93 != (0 : Int)) then
 some (Sum.inr (Sum.inr false))
 else
 some (Sum.inl (w64 (y84 + (1 : Int))))
 else
 some (Sum.inr (Sum.inl ()))) (0 : Int))
 (Sum.elim (fun e => some (Sum.inl e)) (fun e => some (Sum.inr e))))
 (fun _ =>
 some true)
 (fun e => some e)
theorem ref08_Columns_ok (p0 : List ApiColumn) (r : Bool) (h0 : ref08_Columns p0 = some r) : CallAt Tryz.prog 21 [.d ((eL 7 eApiColumn) p0)] [] (.d (eB r)) [] := by
 unfold ref08_Columns at h0
 refine fn0 [0] Tryz.func21 rfl rfl rfl rfl rfl ?_
 refine sr (sa rfl (sn (sq (SC.seqP h0 (fun y => ⟨mk 24 [(0, .d ((eL 7 eApiColumn) p0)), (11, .d (eB y))], []⟩) ?_ ?_))))
 ·intro u1_65 h1
  refine SC.region (sm rfl (s1 (len rfl rfl rfl (len_lst un22)) (s1 (bi rfl rfl q_i64_lss) (sm rfl (sp h1 (fun h1 => ?_) (fun h1 => ?_))))))
  ·have q := si h1; subst q
   exact kw rfl (kw rfl (kw rfl (s1 (pkt rfl rfl) (SO.nil ((wq rfl))))))
  ·have q := si h1; subst q
   exact gw rfl (mv rfl) (gw rfl (len rfl rfl rfl (len_lst un22)) (gw rfl (bi rfl rfl q_i64_gtr) (s1 (pkf rfl rfl) (SO.nil ((wq rfl))))))
 ·rintro y64 h0
  refine cB h0 rfl (fun h0 => ?_) (fun h0 => ?_)
  ·have q := si h0; subst q
   exact sr (sa rfl (sn (SC.ret (finR (Wk.refl _) (lresT rfl lresN) rfl))))
  ·refine sk (SC.seqB h0 (fun y => ⟨mk 24 [], []⟩) ?_ ?_)
   ·intro u1_80 h1 h0
    obtain ⟨u2_90, h2, h1⟩ := ob h1
    refine sr (sa rfl (sn (SC.blk (SC.loopB h2 (fun y => ⟨mk 24 [(0, .d ((eL 7 eApiColumn) p0)), (3, .d (eI y))], []⟩) (wq rfl) ?_))))
    intro n94
    rintro y84 w2_89 h3 hv3
    refine sq (sr (sm rfl (sm rfl (s1 (len rfl rfl rfl (len_lst un22)) (s1 (bi rfl rfl q_i64_lss) (sn (cB h3 rfl (fun h3 => ?_) (fun h3 => ?_))))))))
    ·obtain ⟨v91, hv91, h3⟩ := ob h3; obtain ⟨r93, hq92, h3⟩ := ob h3
     refine sk (sq (SC.blk (sr (sm rfl (sm rfl (s1 (ial rfl rfl un22 ts50 (getI_some hv91).1 (map_get (getI_some hv91).2) rfl) (s1 (lod (v := .d (eApiColumn v91)) rfl (ld_rop ts50 ta50 rfl)) (c0 (ref06_Column_ok v91 _ hq92) wf rfl rfl rfl cb35 rfl (fun _ => rfl) (fun _ => rfl) (s1 (bi rfl rfl q_i64_neq) ?_)))))))))
     refine sn (cB h3 rfl (fun h3 => ?_) (fun h3 => ?_))
     ·have q := si h3; subst q; have q : _ = _ := hv3; subst q; have q := si h1; subst q; have q := si h0; subst q
      exact sr (sa rfl (sn (SC.ret (finR (Wk.refl _) (lresT rfl lresN) rfl))))
     ·refine SC.skip ?_
      change SC _ _ _ _ _
      have q := si h3; subst q
      exact SC.region (sm rfl (s1 (bi rfl rfl q_i64_add) (sa rfl (SO.nil (lf (wq rfl))))))
    ·have q := si h3; subst q; have q : _ = _ := hv3; subst q; have q := si h1; subst q
     exact SC.exit (lf (wq rfl))
   ·intro _ h0
    have q := si h0; subst q
    exact sr (sa rfl (sn (SC.ret (finR (Wk.refl _) (lresT rfl lresN) rfl))))
noncomputable def ref08_Fits (p0 : List ApiColumn) (p1 : List ApiValue) : Option Int :=
 Option.bind (α := Bool)
 (Option.bind (ref08_Columns p0) fun r89 =>
 bif (!r89) then
 some true
 else
 some ((p1.length : Int) != (p0.length : Int)))
 fun y86 =>
 bif y86 then
 some (1 : Int)
 else
 bindE (Y := Unit) (E := Int)
 (Option.bind (α := Unit ⊕ Int)
 (loop (Y := Int) (W := Unit ⊕ Int) (fun y112 =>
 bif (decide (y112 < (p1.length : Int))) then
 Option.bind (getI p0 y112) fun v120 =>
 Option.bind (getI p1 y112) fun v121 =>
 Option.bind (ref06_Fits v120 v121) fun r123 =>
 bif (r123 != (0 : Int)) then
 some (Sum.inr (Sum.inr r123))
 else
 some (Sum.inl (w64 (y112 + (1 : Int))))
 else
 some (Sum.inr (Sum.inl ()))) (0 : Int))
 (Sum.elim (fun e => some (Sum.inl e)) (fun e => some (Sum.inr e))))
 (fun _ =>
 some (0 : Int))
 (fun e => some e)
theorem ref08_Fits_ok (p0 : List ApiColumn) (p1 : List ApiValue) (r : Int) (h0 : ref08_Fits p0 p1 = some r) : CallAt Tryz.prog 10 [.d ((eL 7 eApiColumn) p0), .d ((eL 3 eApiValue) p1)] [] (.d (eI r)) [] := by
 unfold ref08_Fits at h0
 refine fn0 [0, 1] Tryz.func10 rfl rfl rfl rfl rfl ?_
 refine sr (sa rfl (sn (sq (SC.seqP h0 (fun y => ⟨mk 35 [(0, .d ((eL 7 eApiColumn) p0)), (1, .d ((eL 3 eApiValue) p1)), (16, .d (eB y))], []⟩) ?_ ?_))))
 ·intro u1_87 h1
  obtain ⟨r89, hq88, h1⟩ := ob h1
  refine SC.region (sm rfl (c0 (ref08_Columns_ok p0 _ hq88) wf rfl rfl rfl cb21 rfl (fun _ => rfl) (fun _ => rfl) (s1 (nt rfl) (sm rfl (sp h1 (fun h1 => ?_) (fun h1 => ?_))))))
  ·have q := si h1; subst q
   exact kw rfl (kw rfl (kw rfl (kw rfl (kw rfl (s1 (pkt rfl rfl) (SO.nil ((wq rfl))))))))
  ·have q := si h1; subst q
   exact gw rfl (mv rfl) (gw rfl (len rfl rfl rfl (len_lst un24)) (gw rfl (mv rfl) (gw rfl (len rfl rfl rfl (len_lst un22)) (gw rfl (bi rfl rfl q_i64_neq) (s1 (pkf rfl rfl) (SO.nil ((wq rfl))))))))
 ·rintro y86 h0
  refine cB h0 rfl (fun h0 => ?_) (fun h0 => ?_)
  ·have q := si h0; subst q
   exact sr (sa rfl (sn (SC.ret (finR (Wk.refl _) (lresT rfl lresN) rfl))))
  ·refine sk (SC.seqB h0 (fun y => ⟨mk 35 [], []⟩) ?_ ?_)
   ·intro u1_107 h1 h0
    obtain ⟨u2_119, h2, h1⟩ := ob h1
    refine sr (sa rfl (sn (SC.blk (SC.loopB h2 (fun y => ⟨mk 35 [(0, .d ((eL 7 eApiColumn) p0)), (1, .d ((eL 3 eApiValue) p1)), (5, .d (eI y))], []⟩) (wq rfl) ?_))))
    intro n124
    rintro y112 w2_118 h3 hv3
    refine sq (sr (sm rfl (sm rfl (s1 (len rfl rfl rfl (len_lst un24)) (s1 (bi rfl rfl q_i64_lss) (sn (cB h3 rfl (fun h3 => ?_) (fun h3 => ?_))))))))
    ·obtain ⟨v120, hv120, h3⟩ := ob h3; obtain ⟨v121, hv121, h3⟩ := ob h3; obtain ⟨r123, hq122, h3⟩ := ob h3
     refine sk (sq (SC.blk (sd (by kernel_rfl) (t1 ([], false) (mv rfl) rfl (t1 ([], false) (mv rfl) rfl (t1 ([], false) (ial rfl rfl un22 ts50 (getI_some hv120).1 (map_get (getI_some hv120).2) rfl) rfl (t1 ([], false) (lod (v := .d (eApiColumn v120)) rfl (ld_rop ts50 ta50 rfl)) rfl (t1 ([], false) (mv rfl) rfl (t1 ([], false) (mv rfl) rfl ?_)))))))))
     refine t1 ([], false) (ial rfl rfl un24 ts41 (getI_some hv121).1 (map_get (getI_some hv121).2) rfl) rfl (t1 ([], false) (lod (v := .d (eApiValue v121)) rfl (ld_rop ts41 ta41 rfl)) rfl (tc0 (ref06_Fits_ok v120 v121 _ hq122) wf rfl rfl rfl cb22 rfl (fun _ => rfl) (fun _ => rfl) (t1 ([], false) (asg rfl) rfl (tn (by decide +kernel) (sr (sm rfl (s1 (bi rfl rfl q_i64_neq) (sn (cB h3 rfl (fun h3 => ?_) (fun h3 => ?_))))))))))
     ·have q := si h3; subst q; have q : _ = _ := hv3; subst q; have q := si h1; subst q; have q := si h0; subst q
      exact sr (sm rfl (sa rfl (sn (SC.ret (finR (Wk.refl _) (lresT rfl lresN) rfl)))))
     ·refine SC.skip ?_
      change SC _ _ _ _ _
      have q := si h3; subst q
      exact SC.region (sm rfl (s1 (bi rfl rfl q_i64_add) (sa rfl (SO.nil (lf (wq rfl))))))
    ·have q := si h3; subst q; have q : _ = _ := hv3; subst q; have q := si h1; subst q
     exact SC.exit (lf (wq rfl))
   ·intro _ h0
    have q := si h0; subst q
    exact sr (sa rfl (sn (SC.ret (finR (Wk.refl _) (lresT rfl lresN) rfl))))
noncomputable def ref01_Out_Num (p0 : UInt64) (p1 : Int) : Option ((List UInt8)) :=
 Option.bind (α := (List UInt8))
 (loop (Y := Int × (List UInt8)) (W := (List UInt8)) (fun (y30, y31) =>
 bif (decide (y30 ≥ (0 : Int))) then
 bif decide (0 ≤ (w64 ((8 : Int) * y30))) then
 bif decide ((y31.length + [((shr64 p0 ((w64 ((8 : Int) * y30)).toNat)).toUInt8)].length) * 1 ≤ room) then
 some (Sum.inl ((w64 (y30 - (1 : Int))), (y31 ++ [((shr64 p0 ((w64 ((8 : Int) * y30)).toNat)).toUInt8)])))
 else none
 else none
 else
 some (Sum.inr y31)) ((w64 (p1 - (1 : Int))), ([] : List UInt8)))
 (fun e => some e)
theorem ref01_Out_Num_ok (p0 : UInt64) (p1 : Int) (r : (List UInt8)) (h0 : ref01_Out_Num p0 p1 = some r) : CallAt Tryz.prog 91 [.ref 0 0 0, .d (eU64 p0), .d (eI p1)] [.box (.d (.agg [.nils]))] (.tuple []) [.box (.agg [.slc 1 1 0 r.length none]), .row 1 (List.map eU8 r) true] := by
 unfold ref01_Out_Num at h0
 refine fn0 [0, 1, 2] Tryz.func91 rfl rfl rfl rfl rfl ?_
 obtain ⟨u1_37, h1, h0⟩ := ob h0
 refine sr (sm rfl (s1 (bi rfl rfl q_i64_sub) (sa rfl (sn (SC.blk (SC.loopB h1 (fun y => ⟨mk 27 [(0, .ref 0 0 0), (1, .d (eU64 p0)), (6, .d (eI y.1))], [.box (.agg [.slc 1 1 0 y.2.length none]), .row 1 (List.map eU8 y.2) true]⟩) (Wk.trans (Wk.pushE (σ' := [.box (.d (.agg [.nils])), .row 1 (List.map eU8 ([] : List UInt8)) true]) (.row 1 [] true) (fun _ hh => by cases hh) rfl) (Wk.trans (Wk.boxE (id := 0) (y := .agg [.slc 1 1 0 (([] : List UInt8).length) none]) (σ' := [.box (.agg [.slc 1 1 0 (([] : List UInt8).length) none]), .row 1 (List.map eU8 ([] : List UInt8)) true]) rfl (AWs.cons (AW.slcn _ _ _) AWs.nil) rfl) (wq rfl))) ?_))))))
 intro n40
 rintro ⟨y30, y31⟩ w1_36 h2 hv2
 refine sq (sr (sm rfl (s1 (bi rfl rfl q_i64_geq) (sn (cB h2 rfl (fun h2 => ?_) (fun h2 => ?_))))))
 ·obtain ⟨hg38, h2⟩ := gd h2; obtain ⟨hg39, h2⟩ := gd h2
  refine sk (sq (SC.blk (SC.draws (by kernel_rfl) (t1 ([], false) (mv rfl) rfl (t1 ([], false) (mv rfl) rfl (t1 ([], false) (nkr rfl) rfl (t1 ([], false) (far (k := 0) rfl fo137_0 ts95 rfl) rfl (t1 ([0], false) (lod rfl (ld_box ts95 ta95 rfl rfl)) rfl (t1 ([], false) (mv rfl) rfl ?_)))))))))
  refine t1 ([], false) (mv rfl) rfl (t1 ([], false) (bi rfl rfl q_i64_mul) rfl (t1 ([], false) (bi (v := .d (eU64 (shr64 p0 ((w64 ((8 : Int) * y30)).toNat)))) rfl rfl (fun X Y => b_u64_shr _ X Y p0 _ hg38)) rfl (t1 ([], false) (cvo rfl (cv_u64_u8 un39 un5 (shr64 p0 ((w64 ((8 : Int) * y30)).toNat)))) rfl (t1 ([2], true) (bsn (k := 2) (ds := List.map eU8 [((shr64 p0 ((w64 ((8 : Int) * y30)).toNat)).toUInt8)]) (off := 0) (l' := [((shr64 p0 ((w64 ((8 : Int) * y30)).toNat)).toUInt8)].length) rfl un95 ei5 rfl rfl (by rfl) rfl rfl rfl) rfl (t1 ([1, 2, 3], true) (app rfl rfl rfl rfl bc95 (aF (f := eU8) (xs := y31) (k := 3) rfl un95 ei5 rfl (el_full (xs := [((shr64 p0 ((w64 ((8 : Int) * y30)).toNat)).toUInt8)]) rfl) hg39 rfl)) rfl (t1 ([], false) (nkr rfl) rfl (t1 ([], false) (far (k := 0) rfl fo137_0 ts95 rfl) rfl (t0 ([0, 3], true) (sto rfl rfl (sB (d' := .agg [.slc 3 1 0 ((y31 ++ [((shr64 p0 ((w64 ((8 : Int) * y30)).toNat)).toUInt8)]).length) none]) ts95 rfl rfl rfl rfl rfl rfl rfl)) rfl (ST.nil (And.intro (by decide +kernel) ?_))))))))))
  change SC _ _ _ _ _
  have q := si h2; subst q
  exact SC.region (sm rfl (s1 (bi rfl rfl q_i64_sub) (sa rfl (SO.nil (lf (wc [0, 3] [0, 0] (by kernel_rfl) rfl (by kernel_rfl)))))))
 ·have q := si h2; subst q; have q : _ = _ := hv2; subst q; have q := si h0; subst q
  exact SC.exit (finN (Wk.refl _) lresN rfl)
noncomputable def ref01_Out_Num_1 (p0 : UInt64) (p1 : Int) (p2 : List UInt8) : Option ((List UInt8)) :=
 Option.bind (α := (List UInt8))
 (loop (Y := Int × (List UInt8)) (W := (List UInt8)) (fun (y30, y31) =>
 bif (decide (y30 ≥ (0 : Int))) then
 bif decide (0 ≤ (w64 ((8 : Int) * y30))) then
 bif decide ((y31.length + [((shr64 p0 ((w64 ((8 : Int) * y30)).toNat)).toUInt8)].length) * 1 ≤ room) then
 some (Sum.inl ((w64 (y30 - (1 : Int))), (y31 ++ [((shr64 p0 ((w64 ((8 : Int) * y30)).toNat)).toUInt8)])))
 else none
 else none
 else
 some (Sum.inr y31)) ((w64 (p1 - (1 : Int))), p2))
 (fun e => some e)
theorem ref01_Out_Num_1_ok (p0 : UInt64) (p1 : Int) (p2 : List UInt8) (r : (List UInt8)) (h0 : ref01_Out_Num_1 p0 p1 p2 = some r) : CallAt Tryz.prog 91 [.ref 0 0 0, .d (eU64 p0), .d (eI p1)] [.box (.agg [.slc 1 1 0 p2.length none]), .row 1 (List.map eU8 p2) true] (.tuple []) [.box (.agg [.slc 2 1 0 r.length none]), .dead, .row 1 (List.map eU8 r) true] := by
 unfold ref01_Out_Num_1 at h0
 refine fn0 [0, 1, 2] Tryz.func91 rfl rfl rfl rfl rfl ?_
 obtain ⟨u1_37, h1, h0⟩ := ob h0
 refine sr (sm rfl (s1 (bi rfl rfl q_i64_sub) (sa rfl (sn (SC.blk (SC.loopB h1 (fun y => ⟨mk 27 [(0, .ref 0 0 0), (1, .d (eU64 p0)), (6, .d (eI y.1))], [.box (.agg [.slc 2 1 0 y.2.length none]), .dead, .row 1 (List.map eU8 y.2) true]⟩) (Wk.trans (wq (e' := [(0, .ref 0 0 0), (1, .d (eU64 p0)), (6, .d (eI (w64 (p1 - (1 : Int)))))]) rfl) (Wk.trans (Wk.move (e' := [(0, .ref 0 0 0), (1, .d (eU64 p0)), (6, .d (eI (w64 (p1 - (1 : Int)))))]) (os := [.box (.agg [.slc 2 1 0 p2.length none]), .row 1 (List.map eU8 p2) true]) (o := .row 1 (List.map eU8 p2) true) (σ' := [.box (.agg [.slc 2 1 0 p2.length none]), .dead, .row 1 (List.map eU8 p2) true]) 1 (Nat.le_of_ble_eq_true rfl) rfl rfl rfl rfl) (wq rfl))) ?_))))))
 intro n40
 rintro ⟨y30, y31⟩ w1_36 h2 hv2
 refine sq (sr (sm rfl (s1 (bi rfl rfl q_i64_geq) (sn (cB h2 rfl (fun h2 => ?_) (fun h2 => ?_))))))
 ·obtain ⟨hg38, h2⟩ := gd h2; obtain ⟨hg39, h2⟩ := gd h2
  refine sk (sq (SC.blk (SC.draws (by kernel_rfl) (t1 ([], false) (mv rfl) rfl (t1 ([], false) (mv rfl) rfl (t1 ([], false) (nkr rfl) rfl (t1 ([], false) (far (k := 0) rfl fo137_0 ts95 rfl) rfl (t1 ([0], false) (lod rfl (ld_box ts95 ta95 rfl rfl)) rfl (t1 ([], false) (mv rfl) rfl ?_)))))))))
  refine t1 ([], false) (mv rfl) rfl (t1 ([], false) (bi rfl rfl q_i64_mul) rfl (t1 ([], false) (bi (v := .d (eU64 (shr64 p0 ((w64 ((8 : Int) * y30)).toNat)))) rfl rfl (fun X Y => b_u64_shr _ X Y p0 _ hg38)) rfl (t1 ([], false) (cvo rfl (cv_u64_u8 un39 un5 (shr64 p0 ((w64 ((8 : Int) * y30)).toNat)))) rfl (t1 ([3], true) (bsn (k := 3) (ds := List.map eU8 [((shr64 p0 ((w64 ((8 : Int) * y30)).toNat)).toUInt8)]) (off := 0) (l' := [((shr64 p0 ((w64 ((8 : Int) * y30)).toNat)).toUInt8)].length) rfl un95 ei5 rfl rfl (by rfl) rfl rfl rfl) rfl (t1 ([2, 3, 4], true) (app rfl rfl rfl rfl bc95 (aF (f := eU8) (xs := y31) (k := 4) rfl un95 ei5 rfl (el_full (xs := [((shr64 p0 ((w64 ((8 : Int) * y30)).toNat)).toUInt8)]) rfl) hg39 rfl)) rfl (t1 ([], false) (nkr rfl) rfl (t1 ([], false) (far (k := 0) rfl fo137_0 ts95 rfl) rfl (t0 ([0, 4], true) (sto rfl rfl (sB (d' := .agg [.slc 4 1 0 ((y31 ++ [((shr64 p0 ((w64 ((8 : Int) * y30)).toNat)).toUInt8)]).length) none]) ts95 rfl rfl rfl rfl rfl rfl rfl)) rfl (ST.nil (And.intro (by decide +kernel) ?_))))))))))
  change SC _ _ _ _ _
  have q := si h2; subst q
  exact SC.region (sm rfl (s1 (bi rfl rfl q_i64_sub) (sa rfl (SO.nil (lf (Wk.trans (wq (e' := [(0, .ref 0 0 0), (1, .d (eU64 p0)), (6, .d (eI (w64 (y30 - (1 : Int)))))]) rfl) (wc [0, 1, 4] [0, 1, 0] (by kernel_rfl) rfl (by kernel_rfl))))))))
 ·have q := si h2; subst q; have q : _ = _ := hv2; subst q; have q := si h0; subst q
  exact SC.exit (finN (Wk.refl _) lresN rfl)
end Lv
