/- Part of the proof of a law: functions and their walks. -/
import Derived.Test.YtiipocnfifahpaaGreatDoorXPrims
namespace Lv
open Go Go.Proofs
set_option linter.unusedVariables false
set_option linter.unusedSimpArgs false
set_option linter.unusedSectionVars false
set_option maxRecDepth 100000
variable [BaseTab] [TabOk]
noncomputable def pred_Node_takes (p0 : PredNode) : Option Int :=
 Option.bind (α := Bool)
 (bif (p0.Kind == (4 : Int)) then
 some (p0.Kind == (4 : Int))
 else
 some (p0.Kind == (5 : Int)))
 fun y6 =>
 bif y6 then
 some (2 : Int)
 else
 bif (p0.Kind == (6 : Int)) then
 some (1 : Int)
 else
 some (0 : Int)
theorem pred_Node_takes_ok (p0 : PredNode) (r : Int) (h0 : pred_Node_takes p0 = some r) : CallAt Tryz.prog 16 [.d (ePredNode p0)] [] (.d (eI r)) [] := by
 unfold pred_Node_takes at h0
 refine fn0 [0] Tryz.func16 rfl rfl rfl rfl rfl ?_
 refine sr (s1 (bxo (k := 0) rfl rfl rfl) (sa rfl (sn (sq (sr (s1 (far (k := 0) rfl fo43_0 ts3 rfl) (s1 (lod rfl (ld_box ts3 ta3 rfl rfl)) (sn (SC.blk ?_)))))))))
 refine SC.seqP h0 (fun y => ⟨mk 10 [(4, .d (eI p0.Kind)), (5, .d (eB y))], []⟩) ?_ ?_
 ·intro u1_7 h1
  refine sr (s1 (bi rfl rfl q_i64_eql) (sa rfl (sn (cB h1 rfl (fun h1 => ?_) (fun h1 => ?_)))))
  ·have q := si h1; subst q
   exact SC.skip ((wc [] [] (by kernel_rfl) rfl (by kernel_rfl)))
  ·have q := si h1; subst q
   exact SC.region (s1 (bi rfl rfl q_i64_eql) (sa rfl (SO.nil ((wc [] [] (by kernel_rfl) rfl (by kernel_rfl))))))
 ·rintro y6 h0
  refine cB h0 rfl (fun h0 => ?_) (fun h0 => ?_)
  ·have q := si h0; subst q
   exact sr (sa rfl (sn (SC.ret (finR (Wk.refl _) (lresT rfl lresN) rfl))))
  ·refine sr (s1 (bi rfl rfl q_i64_eql) (sa rfl (sn (cB h0 rfl (fun h0 => ?_) (fun h0 => ?_)))))
   ·have q := si h0; subst q
    exact sr (sa rfl (sn (SC.ret (finR (Wk.refl _) (lresT rfl lresN) rfl))))
   ·refine SC.skip ?_
    change SC _ _ _ _ _
    have q := si h0; subst q
    exact sr (sa rfl (sn (SC.ret (finR (Wk.refl _) (lresT rfl lresN) rfl))))
noncomputable def pred_conjuncts : Nat → (List PredNode) → Int → Bool → Option ((List PredNode) × Int)
 | 0, _, _, _ => none
 | n + 1, p0, p1, p2 =>
  Option.bind (getI p0 p1) fun v229 =>
  Option.bind (α := Bool)
   (bif p2 then
    Option.bind (pred_Node_takes v229) fun r235 =>
    bif (r235 == (0 : Int)) then
     some true
    else
     bif p2 then
      some (v229.Kind == (4 : Int))
     else
      some false
   else
    bif p2 then
     some (v229.Kind == (4 : Int))
    else
     some false)
   fun y232 =>
  Option.bind (α := (List PredNode) × Int)
   (Option.bind (pred_Node_takes v229) fun r263 =>
   Option.bind (α := (List PredNode) × Int)
    (loop (Y := (List PredNode) × Int × Int) (W := (List PredNode) × Int) (fun (y268, y269, y270) =>
     bif (decide (y270 < r263)) then
      Option.bind (pred_conjuncts n p0 y269 y232) fun (r281, r282) =>
      bif decide ((r281.length + y268.length) * 56 ≤ room) then
      some (Sum.inl ((r281 ++ y268), r282, (w64 (y270 + (1 : Int)))))
      else none
     else
      some (Sum.inr (y268, y269))) (([] : List PredNode), (w64 (p1 - (1 : Int))), (0 : Int)))
    (fun e => some e))
   fun (y259, y260) =>
  Option.bind (α := (List PredNode))
   (Option.bind (α := Bool)
    (bif y232 then
     bif (v229.Kind == (2 : Int)) then
      some true
     else
      some (v229.Kind == (3 : Int))
    else
     some false)
    fun y290 =>
   bif y290 then
    bif decide ((y259.length + [v229].length) * 56 ≤ room) then
    some (y259 ++ [v229])
    else none
   else
    some y259)
   fun y288 =>
  some (y288, y260)
theorem pred_conjuncts_ok : ∀ (n : Nat) (p0 : List PredNode) (p1 : Int) (p2 : Bool) (r : (List PredNode) × Int) (h0 : pred_conjuncts n p0 p1 p2 = some r), CallAt Tryz.prog 24 [.d ((eL 6 ePredNode) p0), .d (eI p1), .d (eB p2)] [] (.tuple [.slc 0 6 0 r.1.length none, .d (eI r.2)]) [.row 6 (List.map ePredNode r.1) true]
 | 0, _, _, _, _, h0 => by cases h0
 | n + 1, p0, p1, p2, r, h0 => by
  unfold pred_conjuncts at h0
  refine fn0 [0, 1, 2] Tryz.func24 rfl rfl rfl rfl rfl ?_
  obtain ⟨v229, hv229, h0⟩ := ob h0
  refine sr (s1 (asg (v := .d .nils) rfl) (sa rfl (sn (sr (sm rfl (sm rfl (s1 (ial rfl rfl un23 ts43 (getI_some hv229).1 (map_get (getI_some hv229).2) rfl) (s1 (lod (v := .d (ePredNode v229)) rfl (ld_rop ts43 ta43 rfl)) (s1 (alo (k := 0) zo43 rfl) ?_)))))))))
  refine s0 (sto rfl rfl (sB (d' := .d (ePredNode v229)) ts43 rfl rfl rfl rfl rfl rfl rfl)) (sn (SC.seqP h0 (fun y => ⟨mk 64 [(0, .d ((eL 6 ePredNode) p0)), (1, .d (eI p1)), (2, .d (eB y)), (8, .ref 0 0 0)], [.box (.d (ePredNode v229))]⟩) ?_ ?_))
  ·intro u1_233 h1
   refine SC.region (sm rfl (sm rfl (sp h1 (fun h1 => ?_) (fun h1 => ?_))))
   ·obtain ⟨r235, hq234, h1⟩ := ob h1
    refine gw rfl (lod (v := .d (ePredNode v229)) rfl (ld_box ts43 ta43 rfl rfl)) (c0 (pred_Node_takes_ok v229 _ hq234) (ww rfl) rfl rfl rfl cb16 rfl (fun _ => rfl) (fun _ => rfl) (gw rfl (bi rfl rfl q_i64_eql) (s1 (pkt rfl rfl) (sm rfl (sp h1 (fun h1 => ?_) (fun h1 => ?_))))))
    ·have q := si h1; subst q
     exact kw rfl (kw rfl (kw rfl (kw rfl (kw rfl (kw rfl (s1 (pkt rfl rfl) (sa rfl (SO.nil ((wq rfl))))))))))
    ·refine gw rfl (mv rfl) (gw rfl (mv rfl) (sp h1 (fun h1 => ?_) (fun h1 => ?_)))
     ·have q := si h1; subst q
      exact gw rfl (far (k := 0) rfl fo43_0 ts3 rfl) (gw rfl (lod rfl (ld_box ts3 ta3 rfl rfl)) (gw rfl (bi rfl rfl q_i64_eql) (gw rfl (pkt rfl rfl) (s1 (pkf rfl rfl) (sa rfl (SO.nil ((wq rfl))))))))
     ·have q := si h1; subst q
      exact kw rfl (kw rfl (kw rfl (gw rfl (pkf rfl rfl) (s1 (pkf rfl rfl) (sa rfl (SO.nil ((wq rfl))))))))
   ·refine kw rfl (kw rfl (kw rfl (s1 (pkf rfl rfl) (sm rfl (gw rfl (mv rfl) (gw rfl (mv rfl) (sp h1 (fun h1 => ?_) (fun h1 => ?_))))))))
    ·have q := si h1; subst q
     exact gw rfl (far (k := 0) rfl fo43_0 ts3 rfl) (gw rfl (lod rfl (ld_box ts3 ta3 rfl rfl)) (gw rfl (bi rfl rfl q_i64_eql) (gw rfl (pkt rfl rfl) (s1 (pkf rfl rfl) (sa rfl (SO.nil ((wq rfl))))))))
    ·have q := si h1; subst q
     exact kw rfl (kw rfl (kw rfl (gw rfl (pkf rfl rfl) (s1 (pkf rfl rfl) (sa rfl (SO.nil ((wq rfl))))))))
  ·rintro y232 h0
   refine sr (s1 (asg (v := .d .nils) rfl) (sn (sr (sm rfl (s1 (bi rfl rfl q_i64_sub) (sa rfl (sn (SC.seqP h0 (fun y => ⟨mk 64 [(2, .d (eB y232)), (8, .ref 0 0 0), (9, .slc 1 6 0 y.1.length none), (10, .d (eI y.2))], [.box (.d (ePredNode v229)), .row 6 (List.map ePredNode y.1) true]⟩) ?_ ?_))))))))
   ·intro u1_261 h1
    obtain ⟨r263, hq262, h1⟩ := ob h1; obtain ⟨u2_279, h2, h1⟩ := ob h1
    refine sr (s1 (lod (v := .d (ePredNode v229)) rfl (ld_box ts43 ta43 rfl rfl)) (c0 (pred_Node_takes_ok v229 _ hq262) wf rfl rfl rfl cb16 rfl (fun _ => rfl) (fun _ => rfl) (sm rfl (sn (SC.blk (SC.loopB h2 (fun y => ⟨mk 64 [(0, .d ((eL 6 ePredNode) p0)), (2, .d (eB y232)), (8, .ref 0 0 0), (9, .slc 1 6 0 y.1.length none), (10, .d (eI y.2.1)), (33, .d (eI r263)), (34, .d (eI y.2.2))], [.box (.d (ePredNode v229)), .row 6 (List.map ePredNode y.1) true]⟩) (Wk.trans (Wk.pushE (σ' := [.box (.d (ePredNode v229)), .row 6 (List.map ePredNode ([] : List PredNode)) true]) (.row 6 [] true) (fun _ hh => by cases hh) rfl) (Wk.trans (Wk.env (e' := [(0, .d ((eL 6 ePredNode) p0)), (2, .d (eB y232)), (8, .ref 0 0 0), (9, .slc 1 6 0 (([] : List PredNode).length) none), (10, .d (eI (w64 (p1 - (1 : Int))))), (33, .d (eI r263)), (34, .d (eI (0 : Int)))]) (EW.cons (AW.refl _) (EW.cons (AW.refl _) (EW.cons (AW.refl _) (EW.cons (AW.slcn _ _ _) (EW.cons (AW.refl _) (EW.cons (AW.refl _) (EW.cons (AW.refl _) EW.nil)))))))) (wq rfl))) ?_))))))
    intro n284
    rintro ⟨y268, y269, y270⟩ w2_278 h3 hv3
    refine sr (s1 (bi rfl rfl q_i64_lss) (sn (sq (cB h3 rfl (fun h3 => ?_) (fun h3 => ?_)))))
    ·obtain ⟨⟨r281, r282⟩, hq280, h3⟩ := ob h3; obtain ⟨hg283, h3⟩ := gd h3
     refine sk (sq (SC.blk (sr (s1 (asg (v := .d .nils) rfl) (sn (sr (sm rfl (sm rfl (sm rfl ?_)))))))))
     refine cq [] [2] (pred_conjuncts_ok n p0 y269 y232 _ hq280) wf rfl rfl rfl cb24 rfl rfl rfl rfl rfl rfl rfl rfl (sm rfl (s1 (ext rfl rfl) (s1 (ext rfl rfl) (sa rfl (sa rfl (sn (SC.region (sm rfl (sm rfl ?_)))))))))
     refine s1 (app rfl rfl rfl rfl bc23 (aF (f := ePredNode) (xs := r281) (k := 3) rfl un23 ei43 rfl (el_full (xs := y268) rfl) hg283 rfl)) (sa rfl (SO.nil ?_))
     change SC _ _ _ _ _
     have q := si h3; subst q
     exact SC.region (s1 (bi rfl rfl q_i64_add) (sm rfl (SO.nil (lf (wc [0, 3] [0, 3] (by kernel_rfl) rfl (by kernel_rfl))))))
    ·have q := si h3; subst q; have q : _ = _ := hv3; subst q; have q := si h1; subst q
     exact SC.exit ((wq rfl))
   ·rintro ⟨y259, y260⟩ h0
    refine SC.seqP h0 (fun y => ⟨mk 64 [(9, .slc 0 6 0 y.length none), (10, .d (eI y260))], [.row 6 (List.map ePredNode y) true]⟩) ?_ ?_
    ·intro u1_289 h1
     refine SC.seqP h1 (fun y => ⟨mk 64 [(8, .ref 0 0 0), (9, .slc 1 6 0 y259.length none), (10, .d (eI y260)), (57, .d (eB y))], [.box (.d (ePredNode v229)), .row 6 (List.map ePredNode y259) true]⟩) ?_ ?_
     ·intro u2_291 h2
      refine SC.region (sm rfl (sm rfl (sp h2 (fun h2 => ?_) (fun h2 => ?_))))
      ·refine gw rfl (far (k := 0) rfl fo43_0 ts3 rfl) (gw rfl (lod rfl (ld_box ts3 ta3 rfl rfl)) (gw rfl (bi rfl rfl q_i64_eql) (gw rfl (mv rfl) (sp h2 (fun h2 => ?_) (fun h2 => ?_)))))
       ·have q := si h2; subst q
        exact kw rfl (kw rfl (kw rfl (gw rfl (pkt rfl rfl) (s1 (pkt rfl rfl) (SO.nil ((wq rfl)))))))
       ·have q := si h2; subst q
        exact gw rfl (far (k := 0) rfl fo43_0 ts3 rfl) (gw rfl (lod rfl (ld_box ts3 ta3 rfl rfl)) (gw rfl (bi rfl rfl q_i64_eql) (gw rfl (pkf rfl rfl) (s1 (pkt rfl rfl) (SO.nil ((wq rfl)))))))
      ·have q := si h2; subst q
       refine kw rfl (kw rfl (kw rfl (kw rfl (kw rfl (kw rfl (kw rfl (kw rfl (s1 (pkf rfl rfl) (SO.nil ?_)))))))))
       exact (wq rfl)
     ·rintro y290 h1
      refine cB h1 rfl (fun h1 => ?_) (fun h1 => ?_)
      ·obtain ⟨hg292, h1⟩ := gd h1; have q := si h1; subst q
       exact SC.region (sm rfl (s1 (lod (v := .d (ePredNode v229)) rfl (ld_box ts43 ta43 rfl rfl)) (s1 (bsn (k := 2) (ds := List.map ePredNode [v229]) (off := 0) (l' := [v229].length) rfl un23 ei43 rfl rfl (by rfl) rfl rfl rfl) (s1 (app rfl rfl rfl rfl bc23 (aF (f := ePredNode) (xs := y259) (k := 3) rfl un23 ei43 rfl (el_full (xs := [v229]) rfl) hg292 rfl)) (sa rfl (SO.nil ((wc [3] [3] (by kernel_rfl) rfl (by kernel_rfl)))))))))
      ·have q := si h1; subst q
       exact SC.skip ((wc [1] [1] (by kernel_rfl) rfl (by kernel_rfl)))
    ·rintro y288 h0
     have q := si h0; subst q
     exact sr (sm rfl (sm rfl (sa rfl (sa rfl (sn (SC.ret (finR (Wk.refl _) (lresT rfl (lresT rfl lresN)) rfl)))))))
noncomputable def pred_Node_fixes (p0 : PredNode) (p1 : Int) : Option Bool :=
 Option.bind (α := Bool)
 (bif (p0.Col == p1) then
 bif (p0.Kind == (3 : Int)) then
 some true
 else
 some (p0.Op == (3 : Int))
 else
 some false)
 fun y6 =>
 some y6
theorem pred_Node_fixes_ok (p0 : PredNode) (p1 : Int) (r : Bool) (h0 : pred_Node_fixes p0 p1 = some r) : CallAt Tryz.prog 27 [.d (ePredNode p0), .d (eI p1)] [] (.d (eB r)) [] := by
 unfold pred_Node_fixes at h0
 refine fn0 [0, 1] Tryz.func27 rfl rfl rfl rfl rfl ?_
 refine sr (s1 (bxo (k := 0) rfl rfl rfl) (sa rfl (sn (SC.seqP h0 (fun y => ⟨mk 19 [(4, .d (eB y))], []⟩) ?_ ?_))))
 ·intro u1_7 h1
  refine SC.region (s1 (far (k := 1) rfl fo43_1 ts3 rfl) (s1 (lod rfl (ld_box ts3 ta3 rfl rfl)) (sm rfl (s1 (bi rfl rfl q_i64_eql) (sm rfl (sp h1 (fun h1 => ?_) (fun h1 => ?_)))))))
  ·refine gw rfl (far (k := 0) rfl fo43_0 ts3 rfl) (gw rfl (lod rfl (ld_box ts3 ta3 rfl rfl)) (gw rfl (bi rfl rfl q_i64_eql) (gw rfl (mv rfl) (sp h1 (fun h1 => ?_) (fun h1 => ?_)))))
   ·have q := si h1; subst q
    exact kw rfl (kw rfl (kw rfl (gw rfl (pkt rfl rfl) (s1 (pkt rfl rfl) (sa rfl (SO.nil ((wc [] [] (by kernel_rfl) rfl (by kernel_rfl)))))))))
   ·have q := si h1; subst q
    exact gw rfl (far (k := 2) rfl fo43_2 ts3 rfl) (gw rfl (lod rfl (ld_box ts3 ta3 rfl rfl)) (gw rfl (bi rfl rfl q_i64_eql) (gw rfl (pkf rfl rfl) (s1 (pkt rfl rfl) (sa rfl (SO.nil ((wc [] [] (by kernel_rfl) rfl (by kernel_rfl)))))))))
  ·have q := si h1; subst q
   refine kw rfl (kw rfl (kw rfl (kw rfl (kw rfl (kw rfl (kw rfl (kw rfl (s1 (pkf rfl rfl) (sa rfl ?_)))))))))
   exact SO.nil ((wc [] [] (by kernel_rfl) rfl (by kernel_rfl)))
 ·rintro y6 h0
  have q := si h0; subst q
  exact SC.ret (finR (Wk.refl _) (lresT rfl lresN) rfl)
noncomputable def pred_Bounds_1 (p0 : PredNode) (p1 : ApiPart) : Option Bool :=
 Option.bind (pred_Node_fixes p0 p1.Col) fun r7 =>
 some r7
theorem pred_Bounds_1_ok (p0 : PredNode) (p1 : ApiPart) (r : Bool) (h0 : pred_Bounds_1 p0 p1 = some r) : CallAt Tryz.prog 26 [.d (ePredNode p0), .ref 0 0 0] [.box (.d (eApiPart p1))] (.d (eB r)) [.box (.d (eApiPart p1))] := by
 unfold pred_Bounds_1 at h0
 refine fn0 [0, 1] Tryz.func26 rfl rfl rfl rfl rfl ?_
 obtain ⟨r7, hq6, h0⟩ := ob h0; have q := si h0; subst q
 refine sr (s1 (bxo (k := 1) rfl rfl rfl) (sa rfl (sn (sr (s1 (lod (v := .d (ePredNode p0)) rfl (ld_box ts43 ta43 rfl rfl)) (s1 (far (k := 0) rfl fo52_0 ts3 rfl) (s1 (lod rfl (ld_box ts3 ta3 rfl rfl)) (c0 (pred_Node_fixes_ok p0 p1.Col _ hq6) wf rfl rfl rfl cb27 rfl (fun _ => rfl) (fun _ => rfl) (sa rfl ?_)))))))))
 exact sn (SC.ret (finR (wc (e' := [(3, .d (eB r7))]) [0] [0] (by kernel_rfl) rfl (by kernel_rfl)) (lresT rfl lresN) rfl))
noncomputable def slices_IndexFunc_pred_Node_pred_Node (p0 : List PredNode) (p1 : ApiPart) : Option Int :=
 bindE (Y := Unit) (E := Int)
 (Option.bind (α := Unit ⊕ Int)
 (loop (Y := Int) (W := Unit ⊕ Int) (fun y78 =>
 bif (decide (y78 < (p0.length : Int))) then
 Option.bind (getI p0 y78) fun v85 =>
 Option.bind (pred_Bounds_1 v85 p1) fun r87 =>
 bif r87 then
 some (Sum.inr (Sum.inr y78))
 else
 some (Sum.inl (w64 (y78 + (1 : Int))))
 else
 some (Sum.inr (Sum.inl ()))) (0 : Int))
 (Sum.elim (fun e => some (Sum.inl e)) (fun e => some (Sum.inr e))))
 (fun _ =>
 some (-1 : Int))
 (fun e => some e)
theorem slices_IndexFunc_pred_Node_pred_Node_ok (p0 : List PredNode) (p1 : ApiPart) (r : Int) (h0 : slices_IndexFunc_pred_Node_pred_Node p0 p1 = some r) : CallAt Tryz.prog 25 [.d ((eL 6 ePredNode) p0), .fn (.func 26) [] [.ref 0 0 0]] [.box (.d (eApiPart p1))] (.d (eI r)) [.box (.d (eApiPart p1))] := by
 unfold slices_IndexFunc_pred_Node_pred_Node at h0
 refine fn0 [0, 1] Tryz.func25 rfl rfl rfl rfl rfl ?_
 refine sr (sa rfl (sn (SC.seqB h0 (fun y => ⟨mk 19 [], [.box (.d (eApiPart p1))]⟩) ?_ ?_)))
 ·intro u1_74 h1 h0
  obtain ⟨u2_84, h2, h1⟩ := ob h1
  refine sr (sm rfl (s1 (len rfl rfl rfl (len_lst un23)) (sm rfl (sn (SC.blk (SC.loopB h2 (fun y => ⟨mk 19 [(0, .d ((eL 6 ePredNode) p0)), (1, .fn (.func 26) [] [.ref 0 0 0]), (7, .d (eI (p0.length : Int))), (8, .d (eI y))], [.box (.d (eApiPart p1))]⟩) (wq rfl) ?_))))))
  intro n88
  rintro y78 w2_83 h3 hv3
  refine sr (s1 (bi rfl rfl q_i64_lss) (sn (sq (cB h3 rfl (fun h3 => ?_) (fun h3 => ?_)))))
  ·obtain ⟨v85, hv85, h3⟩ := ob h3; obtain ⟨r87, hq86, h3⟩ := ob h3
   refine sk (sq (SC.blk (sr (sm rfl (sa rfl (sn (sr (sm rfl (sm rfl ?_)))))))))
   refine sm rfl (s1 (ial rfl rfl un23 ts43 (getI_some hv85).1 (map_get (getI_some hv85).2) rfl) (s1 (lod (v := .d (ePredNode v85)) rfl (ld_rop ts43 ta43 rfl)) (cq [0] [] (pred_Bounds_1_ok v85 p1 _ hq86) wf rfl rfl rfl cb26 rfl rfl rfl rfl rfl rfl rfl rfl (sn (cB h3 rfl (fun h3 => ?_) (fun h3 => ?_))))))
   ·have q := si h3; subst q; have q : _ = _ := hv3; subst q; have q := si h1; subst q; have q := si h0; subst q
    exact sr (sm rfl (sa rfl (sn (SC.ret (finR (Wk.refl _) (lresT rfl lresN) rfl)))))
   ·refine SC.skip ?_
    change SC _ _ _ _ _
    have q := si h3; subst q
    exact SC.region (s1 (bi rfl rfl q_i64_add) (sm rfl (SO.nil (lf (wq rfl)))))
  ·have q := si h3; subst q; have q : _ = _ := hv3; subst q; have q := si h1; subst q
   exact SC.exit (lf (wq rfl))
 ·intro _ h0
  have q := si h0; subst q
  exact sr (sa rfl (sn (SC.ret (finR (Wk.refl _) (lresT rfl lresN) rfl))))
noncomputable def value_Valid (p0 : ApiValue) : Option Bool :=
 bif (p0.Kind == (0 : Int)) then
 some (eqApiValue p0 (ApiValue.mk (0 : Int) (0 : UInt64) ([] : List UInt8)))
 else
 Option.bind (α := Bool)
 (bif (p0.Kind == (1 : Int)) then
 some (p0.Kind == (1 : Int))
 else
 some (p0.Kind == (2 : Int)))
 fun y26 =>
 bif y26 then
 some (p0.S == ([] : List UInt8))
 else
 bif (p0.Kind == (3 : Int)) then
 Option.bind (α := Bool)
 (bif (decide (p0.N ≤ (1 : UInt64))) then
 some (p0.S == ([] : List UInt8))
 else
 some false)
 fun y28 =>
 some y28
 else
 bif (p0.Kind == (4 : Int)) then
 Option.bind (α := Bool)
 (bif (p0.N == (0 : UInt64)) then
 some (decide ((p0.S.length : Int) ≤ (64 : Int)))
 else
 some false)
 fun y30 =>
 some y30
 else
 bif (p0.Kind == (5 : Int)) then
 Option.bind (α := Bool)
 (bif (p0.N == (0 : UInt64)) then
 bif (decide ((p0.S.length : Int) ≤ (64 : Int))) then
 Option.bind (validF p0.S) fun r37 =>
 some r37
 else
 some false
 else
 some false)
 fun y34 =>
 some y34
 else
 some false
theorem value_Valid_ok (p0 : ApiValue) (r : Bool) (h0 : value_Valid p0 = some r) : CallAt Tryz.prog 18 [.d (eApiValue p0)] [] (.d (eB r)) [] := by
 unfold value_Valid at h0
 refine fn0 [0] Tryz.func18 rfl rfl rfl rfl rfl ?_
 refine sr (s1 (bxo (k := 0) rfl rfl rfl) (sa rfl (sn (sq (sr (s1 (far (k := 0) rfl fo41_0 ts3 rfl) (s1 (lod rfl (ld_box ts3 ta3 rfl rfl)) (sn (SC.blk ?_)))))))))
 refine sr (s1 (bi rfl rfl q_i64_eql) (sa rfl (sn (cB h0 rfl (fun h0 => ?_) (fun h0 => ?_)))))
 ·have q := si h0; subst q
  exact sr (s1 (lod (v := .d (eApiValue p0)) rfl (ld_box ts41 ta41 rfl rfl)) (s1 (bld rfl (bd41_ )) (s1 (bi (v := .d (eB (eqApiValue p0 (ApiValue.mk (0 : Int) (0 : UInt64) ([] : List UInt8))))) rfl rfl (fun X Y => eqApiValue_eql_41 X Y p0 (ApiValue.mk (0 : Int) (0 : UInt64) ([] : List UInt8)))) (sa rfl (sn (SC.ret (finR (wc (e' := [(2, .d (eB (eqApiValue p0 (ApiValue.mk (0 : Int) (0 : UInt64) ([] : List UInt8)))))]) [] [] (by kernel_rfl) rfl (by kernel_rfl)) (lresT rfl lresN) rfl)))))))
 ·refine SC.seqP h0 (fun y => ⟨mk 53 [(1, .ref 0 0 0), (4, .d (eI p0.Kind)), (10, .d (eB y))], [.box (.d (eApiValue p0))]⟩) ?_ ?_
  ·intro u1_27 h1
   refine sr (s1 (bi rfl rfl q_i64_eql) (sa rfl (sn (cB h1 rfl (fun h1 => ?_) (fun h1 => ?_)))))
   ·have q := si h1; subst q
    exact SC.skip ((wq rfl))
   ·have q := si h1; subst q
    exact SC.region (s1 (bi rfl rfl q_i64_eql) (sa rfl (SO.nil ((wq rfl)))))
  ·rintro y26 h0
   refine cB h0 rfl (fun h0 => ?_) (fun h0 => ?_)
   ·have q := si h0; subst q
    exact sr (s1 (far (k := 2) rfl fo41_2 ts9 rfl) (s1 (lod rfl (ld_box ts9 ta9 rfl rfl)) (s1 (bi rfl rfl (q_str_eql (b := ([] : List UInt8)))) (sa rfl (sn (SC.ret (finR (wc (e' := [(2, .d (eB (p0.S == ([] : List UInt8))))]) [] [] (by kernel_rfl) rfl (by kernel_rfl)) (lresT rfl lresN) rfl)))))))
   ·refine sr (s1 (bi rfl rfl q_i64_eql) (sa rfl (sn (cB h0 rfl (fun h0 => ?_) (fun h0 => ?_)))))
    ·refine SC.seqP h0 (fun y => ⟨mk 53 [(2, .d (eB y))], []⟩) ?_ ?_
     ·intro u1_29 h1
      refine SC.region (s1 (far (k := 1) rfl fo41_1 ts39 rfl) (s1 (lod rfl (ld_box ts39 ta39 rfl rfl)) (s1 (bi rfl rfl (q_u64_leq (b := (1 : UInt64)))) (sm rfl (sp h1 (fun h1 => ?_) (fun h1 => ?_))))))
      ·have q := si h1; subst q
       exact gw rfl (far (k := 2) rfl fo41_2 ts9 rfl) (gw rfl (lod rfl (ld_box ts9 ta9 rfl rfl)) (gw rfl (bi rfl rfl (q_str_eql (b := ([] : List UInt8)))) (s1 (pkt rfl rfl) (sa rfl (SO.nil ((wc [] [] (by kernel_rfl) rfl (by kernel_rfl))))))))
      ·have q := si h1; subst q
       exact kw rfl (kw rfl (kw rfl (s1 (pkf rfl rfl) (sa rfl (SO.nil ((wc [] [] (by kernel_rfl) rfl (by kernel_rfl))))))))
     ·rintro y28 h0
      have q := si h0; subst q
      exact SC.ret (finR (Wk.refl _) (lresT rfl lresN) rfl)
    ·refine sr (s1 (bi rfl rfl q_i64_eql) (sa rfl (sn (cB h0 rfl (fun h0 => ?_) (fun h0 => ?_)))))
     ·refine SC.seqP h0 (fun y => ⟨mk 53 [(2, .d (eB y))], []⟩) ?_ ?_
      ·intro u1_31 h1
       refine SC.region (s1 (far (k := 1) rfl fo41_1 ts39 rfl) (s1 (lod rfl (ld_box ts39 ta39 rfl rfl)) (s1 (bi rfl rfl (q_u64_eql (b := (0 : UInt64)))) (sm rfl (sp h1 (fun h1 => ?_) (fun h1 => ?_))))))
       ·have q := si h1; subst q
        exact gw rfl (far (k := 2) rfl fo41_2 ts9 rfl) (gw rfl (lod rfl (ld_box ts9 ta9 rfl rfl)) (gw rfl (len rfl rfl rfl (len_str un9)) (gw rfl (bi rfl rfl q_i64_leq) (s1 (pkt rfl rfl) (sa rfl (SO.nil ((wc [] [] (by kernel_rfl) rfl (by kernel_rfl)))))))))
       ·have q := si h1; subst q
        exact kw rfl (kw rfl (kw rfl (kw rfl (s1 (pkf rfl rfl) (sa rfl (SO.nil ((wc [] [] (by kernel_rfl) rfl (by kernel_rfl)))))))))
      ·rintro y30 h0
       have q := si h0; subst q
       exact SC.ret (finR (Wk.refl _) (lresT rfl lresN) rfl)
     ·refine sr (s1 (bi rfl rfl q_i64_eql) (sa rfl (sn (cB h0 rfl (fun h0 => ?_) (fun h0 => ?_)))))
      ·refine SC.seqP h0 (fun y => ⟨mk 53 [(2, .d (eB y))], []⟩) ?_ ?_
       ·intro u1_35 h1
        refine SC.region (s1 (far (k := 1) rfl fo41_1 ts39 rfl) (s1 (lod rfl (ld_box ts39 ta39 rfl rfl)) (s1 (bi rfl rfl (q_u64_eql (b := (0 : UInt64)))) (sm rfl (sp h1 (fun h1 => ?_) (fun h1 => ?_))))))
        ·refine gw rfl (far (k := 2) rfl fo41_2 ts9 rfl) (gw rfl (lod rfl (ld_box ts9 ta9 rfl rfl)) (gw rfl (len rfl rfl rfl (len_str un9)) (gw rfl (bi rfl rfl q_i64_leq) (s1 (pkt rfl rfl) (sm rfl (sp h1 (fun h1 => ?_) (fun h1 => ?_)))))))
         ·obtain ⟨r37, hq36, h1⟩ := ob h1; have q := si h1; subst q
          exact gw rfl (far (k := 2) rfl fo41_2 ts9 rfl) (gw rfl (lod rfl (ld_box ts9 ta9 rfl rfl)) (c0 (valid_ok p0.S _ hq36) (ww rfl) rfl rfl rfl cb34 rfl (fun _ => rfl) (fun _ => rfl) (s1 (pkt rfl rfl) (sa rfl (SO.nil ((wc [] [] (by kernel_rfl) rfl (by kernel_rfl))))))))
         ·have q := si h1; subst q
          exact kw rfl (kw rfl (kw rfl (s1 (pkf rfl rfl) (sa rfl (SO.nil ((wc [] [] (by kernel_rfl) rfl (by kernel_rfl))))))))
        ·have q := si h1; subst q
         refine kw rfl (kw rfl (kw rfl (kw rfl (s1 (pkf rfl rfl) (sm rfl (kw rfl (kw rfl (kw rfl (s1 (pkf rfl rfl) ?_)))))))))
         exact sa rfl (SO.nil ((wc [] [] (by kernel_rfl) rfl (by kernel_rfl))))
       ·rintro y34 h0
        have q := si h0; subst q
        exact SC.ret (finR (Wk.refl _) (lresT rfl lresN) rfl)
      ·refine SC.skip ?_
       change SC _ _ _ _ _
       have q := si h0; subst q
       exact sr (sa rfl (sn (SC.ret (finR (wc (e' := [(2, .d (eB false))]) [] [] (by kernel_rfl) rfl (by kernel_rfl)) (lresT rfl lresN) rfl))))
noncomputable def key_Encode_1 (p0 : ApiValue) : Option Bool :=
 Option.bind (value_Valid p0) fun r7 =>
 some (!r7)
theorem key_Encode_1_ok (p0 : ApiValue) (r : Bool) (h0 : key_Encode_1 p0 = some r) : CallAt Tryz.prog 54 [.d (eApiValue p0)] [] (.d (eB r)) [] := by
 unfold key_Encode_1 at h0
 refine fn0 [0] Tryz.func54 rfl rfl rfl rfl rfl ?_
 obtain ⟨r7, hq6, h0⟩ := ob h0; have q := si h0; subst q
 refine sr (s1 (bxo (k := 0) rfl rfl rfl) (sa rfl (sn (sr (s1 (lod (v := .d (eApiValue p0)) rfl (ld_box ts41 ta41 rfl rfl)) (c0 (value_Valid_ok p0 _ hq6) wf rfl rfl rfl cb18 rfl (fun _ => rfl) (fun _ => rfl) (s1 (nt rfl) (sa rfl (sn ?_)))))))))
 exact SC.ret (finR (wc (e' := [(2, .d (eB (!r7)))]) [] [] (by kernel_rfl) rfl (by kernel_rfl)) (lresT rfl lresN) rfl)
noncomputable def slices_IndexFunc_api_Value_api_Value (p0 : List ApiValue) : Option Int :=
 bindE (Y := Unit) (E := Int)
 (Option.bind (α := Unit ⊕ Int)
 (loop (Y := Int) (W := Unit ⊕ Int) (fun y78 =>
 bif (decide (y78 < (p0.length : Int))) then
 Option.bind (getI p0 y78) fun v85 =>
 Option.bind (key_Encode_1 v85) fun r87 =>
 bif r87 then
 some (Sum.inr (Sum.inr y78))
 else
 some (Sum.inl (w64 (y78 + (1 : Int))))
 else
 some (Sum.inr (Sum.inl ()))) (0 : Int))
 (Sum.elim (fun e => some (Sum.inl e)) (fun e => some (Sum.inr e))))
 (fun _ =>
 some (-1 : Int))
 (fun e => some e)
theorem slices_IndexFunc_api_Value_api_Value_ok (p0 : List ApiValue) (r : Int) (h0 : slices_IndexFunc_api_Value_api_Value p0 = some r) : CallAt Tryz.prog 69 [.d ((eL 3 eApiValue) p0), .fn (.func 54) [] []] [] (.d (eI r)) [] := by
 unfold slices_IndexFunc_api_Value_api_Value at h0
 refine fn0 [0, 1] Tryz.func69 rfl rfl rfl rfl rfl ?_
 refine sr (sa rfl (sn (SC.seqB h0 (fun y => ⟨mk 19 [], []⟩) ?_ ?_)))
 ·intro u1_74 h1 h0
  obtain ⟨u2_84, h2, h1⟩ := ob h1
  refine sr (sm rfl (s1 (len rfl rfl rfl (len_lst un24)) (sm rfl (sn (SC.blk (SC.loopB h2 (fun y => ⟨mk 19 [(0, .d ((eL 3 eApiValue) p0)), (1, .fn (.func 54) [] []), (7, .d (eI (p0.length : Int))), (8, .d (eI y))], []⟩) (wq rfl) ?_))))))
  intro n88
  rintro y78 w2_83 h3 hv3
  refine sr (s1 (bi rfl rfl q_i64_lss) (sn (sq (cB h3 rfl (fun h3 => ?_) (fun h3 => ?_)))))
  ·obtain ⟨v85, hv85, h3⟩ := ob h3; obtain ⟨r87, hq86, h3⟩ := ob h3
   refine sk (sq (SC.blk (sr (sm rfl (sa rfl (sn (sr (sm rfl (sm rfl ?_)))))))))
   refine sm rfl (s1 (ial rfl rfl un24 ts41 (getI_some hv85).1 (map_get (getI_some hv85).2) rfl) (s1 (lod (v := .d (eApiValue v85)) rfl (ld_rop ts41 ta41 rfl)) (c0 (key_Encode_1_ok v85 _ hq86) wf rfl rfl rfl cb54 rfl (fun _ => rfl) (fun _ => rfl) (sn (cB h3 rfl (fun h3 => ?_) (fun h3 => ?_))))))
   ·have q := si h3; subst q; have q : _ = _ := hv3; subst q; have q := si h1; subst q; have q := si h0; subst q
    exact sr (sm rfl (sa rfl (sn (SC.ret (finR (Wk.refl _) (lresT rfl lresN) rfl)))))
   ·refine SC.skip ?_
    change SC _ _ _ _ _
    have q := si h3; subst q
    exact SC.region (s1 (bi rfl rfl q_i64_add) (sm rfl (SO.nil (lf (wq rfl)))))
  ·have q := si h3; subst q; have q : _ = _ := hv3; subst q; have q := si h1; subst q
   exact SC.exit (lf (wq rfl))
 ·intro _ h0
  have q := si h0; subst q
  exact sr (sa rfl (sn (SC.ret (finR (Wk.refl _) (lresT rfl lresN) rfl))))
noncomputable def slices_ContainsFunc_api_Value_api_Value (p0 : List ApiValue) : Option Bool :=
 Option.bind (slices_IndexFunc_api_Value_api_Value p0) fun r7 =>
 some (decide (r7 ≥ (0 : Int)))
theorem slices_ContainsFunc_api_Value_api_Value_ok (p0 : List ApiValue) (r : Bool) (h0 : slices_ContainsFunc_api_Value_api_Value p0 = some r) : CallAt Tryz.prog 53 [.d ((eL 3 eApiValue) p0), .fn (.func 54) [] []] [] (.d (eB r)) [] := by
 unfold slices_ContainsFunc_api_Value_api_Value at h0
 refine fn0 [0, 1] Tryz.func53 rfl rfl rfl rfl rfl ?_
 obtain ⟨r7, hq6, h0⟩ := ob h0; have q := si h0; subst q
 refine sr (sa rfl (sn (sr (sm rfl (sm rfl (c0 (slices_IndexFunc_api_Value_api_Value_ok p0 _ hq6) wf rfl rfl rfl cb69 rfl (fun _ => rfl) (fun _ => rfl) (s1 (bi rfl rfl q_i64_geq) (sa rfl (sn ?_)))))))))
 exact SC.ret (finR (Wk.refl _) (lresT rfl lresN) rfl)
noncomputable def pack_Out_put (p0 : List UInt8) : Option Unit :=
 bif decide (p0.length * 1 ≤ room) then
 some ()
 else none
theorem pack_Out_put_ok (p0 : List UInt8) (r : Unit) (h0 : pack_Out_put p0 = some r) : CallAt Tryz.prog 88 [.ref 0 0 0, .d ((eL 1 eU8) p0)] [.box (.d (.agg [.nils]))] (.tuple []) [.box (.agg [.slc 1 1 0 p0.length none]), .row 1 (List.map eU8 p0) true] := by
 unfold pack_Out_put at h0
 refine fn0 [0, 1] Tryz.func88 rfl rfl rfl rfl rfl ?_
 obtain ⟨hg3, h0⟩ := gd h0; have q := si h0; subst q
 refine sr (sm rfl (s1 (bi (v := .d (eB true)) rfl rfl (fun _ _ => nil_neq un131)) (sn (cT rfl (SC.region (sm rfl (sm rfl (s1 (nkr rfl) (s1 (far (k := 0) rfl fo113_0 ts95 rfl) ?_)))))))))
 exact s1 (lod rfl (ld_box ts95 ta95 rfl rfl)) (sm rfl (s1 (app rfl rfl rfl rfl bc95 (aN (f := eU8) (k := 1) un95 ei5 el_lst hg3 rfl)) (s1 (nkr rfl) (s1 (far (k := 0) rfl fo113_0 ts95 rfl) (s0 (sto rfl rfl (sB (d' := .agg [.slc 1 1 0 p0.length none]) ts95 rfl rfl rfl rfl rfl rfl rfl)) (SO.nil (finN (Wk.refl _) lresN rfl)))))))
noncomputable def pack_Out_Flag (p0 : Bool) : Option ((List UInt8)) :=
 bif p0 then
 Option.bind (pack_Out_put [(1 : UInt8)]) fun _ =>
 some [(1 : UInt8)]
 else
 Option.bind (pack_Out_put [(0 : UInt8)]) fun _ =>
 some [(0 : UInt8)]
theorem pack_Out_Flag_ok (p0 : Bool) (r : (List UInt8)) (h0 : pack_Out_Flag p0 = some r) : CallAt Tryz.prog 70 [.ref 0 0 0, .d (eB p0)] [.box (.d (.agg [.nils]))] (.tuple []) [.box (.agg [.slc 1 1 0 r.length none]), .row 1 (List.map eU8 r) true] := by
 unfold pack_Out_Flag at h0
 refine fn0 [0, 1] Tryz.func70 rfl rfl rfl rfl rfl ?_
 refine sr (sm rfl (sn (cB h0 rfl (fun h0 => ?_) (fun h0 => ?_))))
 ·obtain ⟨_, hq6, h0⟩ := ob h0; have q := si h0; subst q
  exact SC.region (sm rfl (s1 (bsn (k := 1) (ds := List.map eU8 [(1 : UInt8)]) (off := 0) (l' := [(1 : UInt8)].length) rfl un95 ei5 rfl rfl (by rfl) rfl rfl rfl) (cq (args' := [.ref 0 0 0, .slc 1 1 0 ([(1 : UInt8)].length) none]) (σc := [.box (.d (.agg [.nils])), .row 1 (List.map eU8 [(1 : UInt8)]) true]) [0, 1] [2] (CallAt.frz (ArgF.keep (ArgF.frz (fF rfl rfl rfl) (ArgF.nil _))) (fq [0] [2] (pack_Out_put_ok [(1 : UInt8)] _ hq6) rfl rfl rfl rfl rfl rfl rfl rfl)) wf rfl rfl rfl cb88 rfl rfl rfl rfl rfl rfl rfl rfl (SO.nil (finN (wc (e' := []) [0, 2] [0] (by kernel_rfl) rfl (by kernel_rfl)) lresN rfl)))))
 ·obtain ⟨_, hq7, h0⟩ := ob h0; have q := si h0; subst q
  exact SC.region (sm rfl (s1 (bsn (k := 1) (ds := List.map eU8 [(0 : UInt8)]) (off := 0) (l' := [(0 : UInt8)].length) rfl un95 ei5 rfl rfl (by rfl) rfl rfl rfl) (cq (args' := [.ref 0 0 0, .slc 1 1 0 ([(0 : UInt8)].length) none]) (σc := [.box (.d (.agg [.nils])), .row 1 (List.map eU8 [(0 : UInt8)]) true]) [0, 1] [2] (CallAt.frz (ArgF.keep (ArgF.frz (fF rfl rfl rfl) (ArgF.nil _))) (fq [0] [2] (pack_Out_put_ok [(0 : UInt8)] _ hq7) rfl rfl rfl rfl rfl rfl rfl rfl)) wf rfl rfl rfl cb88 rfl rfl rfl rfl rfl rfl rfl rfl (SO.nil (finN (wc (e' := []) [0, 2] [0] (by kernel_rfl) rfl (by kernel_rfl)) lresN rfl)))))
noncomputable def pack_Out_put_1 (p0 : List UInt8) (p1 : List UInt8) : Option Unit :=
 bif decide ((p1.length + p0.length) * 1 ≤ room) then
 some ()
 else none
theorem pack_Out_put_1_ok (p0 : List UInt8) (p1 : List UInt8) (r : Unit) (h0 : pack_Out_put_1 p0 p1 = some r) : CallAt Tryz.prog 88 [.ref 0 0 0, .d ((eL 1 eU8) p0)] [.box (.agg [.slc 1 1 0 p1.length none]), .row 1 (List.map eU8 p1) true] (.tuple []) [.box (.agg [.slc 2 1 0 ((p1 ++ p0).length) none]), .dead, .row 1 (List.map eU8 (p1 ++ p0)) true] := by
 unfold pack_Out_put_1 at h0
 refine fn0 [0, 1] Tryz.func88 rfl rfl rfl rfl rfl ?_
 obtain ⟨hg3, h0⟩ := gd h0; have q := si h0; subst q
 refine sr (sm rfl (s1 (bi (v := .d (eB true)) rfl rfl (fun _ _ => nil_neq un131)) (sn (cT rfl (SC.region (sm rfl (sm rfl (s1 (nkr rfl) (s1 (far (k := 0) rfl fo113_0 ts95 rfl) ?_)))))))))
 exact s1 (lod rfl (ld_box ts95 ta95 rfl rfl)) (sm rfl (s1 (app rfl rfl rfl rfl bc95 (aF (f := eU8) (xs := p1) (k := 2) rfl un95 ei5 rfl el_lst hg3 rfl)) (s1 (nkr rfl) (s1 (far (k := 0) rfl fo113_0 ts95 rfl) (s0 (sto rfl rfl (sB (d' := .agg [.slc 2 1 0 ((p1 ++ p0).length) none]) ts95 rfl rfl rfl rfl rfl rfl rfl)) (SO.nil (finN (Wk.refl _) lresN rfl)))))))
noncomputable def pack_Out_U16 (p0 : UInt16) (p1 : List UInt8) : Option Unit :=
 Option.bind (pack_Out_put_1 [((shr16 p0 8).toUInt8), (p0.toUInt8)] p1) fun _ =>
 some ()
theorem pack_Out_U16_ok (p0 : UInt16) (p1 : List UInt8) (r : Unit) (h0 : pack_Out_U16 p0 p1 = some r) : CallAt Tryz.prog 96 [.ref 0 0 0, .d (eU16 p0)] [.box (.agg [.slc 1 1 0 p1.length none]), .row 1 (List.map eU8 p1) true] (.tuple []) [.box (.agg [.slc 2 1 0 ((p1 ++ [((shr16 p0 8).toUInt8), (p0.toUInt8)]).length) none]), .dead, .row 1 (List.map eU8 (p1 ++ [((shr16 p0 8).toUInt8), (p0.toUInt8)])) true] := by
 unfold pack_Out_U16 at h0
 refine fn0 [0, 1] Tryz.func96 rfl rfl rfl rfl rfl ?_
 obtain ⟨_, hq3, h0⟩ := ob h0; have q := si h0; subst q
 refine SC.region (sm rfl (sm rfl (s1 (bi (v := .d (eU16 (shr16 p0 8))) rfl rfl (fun X Y => b_u16_shr _ X Y p0 _ (by decide))) (s1 (cvo rfl (cv_u16_u8 un145 un5 (shr16 p0 8))) (sm rfl (s1 (cvo rfl (cv_u16_u8 un145 un5 p0)) (s1 (bsn (k := 2) (ds := List.map eU8 [((shr16 p0 8).toUInt8), (p0.toUInt8)]) (off := 0) (l' := [((shr16 p0 8).toUInt8), (p0.toUInt8)].length) rfl un95 ei5 rfl rfl (by rfl) rfl rfl rfl) (cq (args' := [.ref 0 0 0, .slc 1 1 0 ([((shr16 p0 8).toUInt8), (p0.toUInt8)].length) none]) (σc := [.box (.agg [.slc 2 1 0 p1.length none]), .row 1 (List.map eU8 [((shr16 p0 8).toUInt8), (p0.toUInt8)]) true, .row 1 (List.map eU8 p1) true]) [0, 2, 1] [3] (CallAt.frz (ArgF.keep (ArgF.frz (fF rfl rfl rfl) (ArgF.nil _))) (fq [0, 2] [3] (pack_Out_put_1_ok [((shr16 p0 8).toUInt8), (p0.toUInt8)] p1 _ hq3) rfl rfl rfl rfl rfl rfl rfl rfl)) wf rfl rfl rfl cb88 rfl rfl rfl rfl rfl rfl rfl rfl (SO.nil ?_)))))))))
 exact finN (wc (e' := []) [0, 1, 3] [0, 1] (by kernel_rfl) rfl (by kernel_rfl)) lresN rfl
noncomputable def pack_Out_U32 (p0 : UInt32) (p1 : List UInt8) : Option Unit :=
 Option.bind (pack_Out_U16 ((shr32 p0 16).toUInt16) p1) fun _ =>
 Option.bind (pack_Out_U16 (p0.toUInt16) (p1 ++ [((shr16 ((shr32 p0 16).toUInt16) 8).toUInt8), (((shr32 p0 16).toUInt16).toUInt8)])) fun _ =>
 some ()
theorem pack_Out_U32_ok (p0 : UInt32) (p1 : List UInt8) (r : Unit) (h0 : pack_Out_U32 p0 p1 = some r) : CallAt Tryz.prog 89 [.ref 0 0 0, .d (eU32 p0)] [.box (.agg [.slc 1 1 0 p1.length none]), .row 1 (List.map eU8 p1) true] (.tuple []) [.box (.agg [.slc 2 1 0 (((p1 ++ [((shr16 ((shr32 p0 16).toUInt16) 8).toUInt8), (((shr32 p0 16).toUInt16).toUInt8)]) ++ [((shr16 (p0.toUInt16) 8).toUInt8), ((p0.toUInt16).toUInt8)]).length) none]), .dead, .row 1 (List.map eU8 ((p1 ++ [((shr16 ((shr32 p0 16).toUInt16) 8).toUInt8), (((shr32 p0 16).toUInt16).toUInt8)]) ++ [((shr16 (p0.toUInt16) 8).toUInt8), ((p0.toUInt16).toUInt8)])) true] := by
 unfold pack_Out_U32 at h0
 refine fn0 [0, 1] Tryz.func89 rfl rfl rfl rfl rfl ?_
 obtain ⟨_, hq5, h0⟩ := ob h0; obtain ⟨_, hq6, h0⟩ := ob h0; have q := si h0; subst q
 refine sr (sm rfl (sm rfl (s1 (bi (v := .d (eU32 (shr32 p0 16))) rfl rfl (fun X Y => b_u32_shr _ X Y p0 _ (by decide))) (s1 (cvo rfl (cv_u32_u16 un108 un145 (shr32 p0 16))) (cq [0, 1] [2] (pack_Out_U16_ok ((shr32 p0 16).toUInt16) p1 _ hq5) wf rfl rfl rfl cb96 rfl rfl rfl rfl rfl rfl rfl rfl (sn (SC.region (sm rfl (sm rfl ?_)))))))))
 exact s1 (cvo rfl (cv_u32_u16 un108 un145 p0)) (cq [0, 2] [3] (pack_Out_U16_ok (p0.toUInt16) (p1 ++ [((shr16 ((shr32 p0 16).toUInt16) 8).toUInt8), (((shr32 p0 16).toUInt16).toUInt8)]) _ hq6) wf rfl rfl rfl cb96 rfl rfl rfl rfl rfl rfl rfl rfl (SO.nil (finN (wc (e' := []) [0, 1, 3] [0, 1] (by kernel_rfl) rfl (by kernel_rfl)) lresN rfl)))
noncomputable def pack_Out_U64 (p0 : UInt64) (p1 : List UInt8) : Option Unit :=
 Option.bind (pack_Out_U32 ((shr64 p0 32).toUInt32) p1) fun _ =>
 Option.bind (pack_Out_U32 (p0.toUInt32) ((p1 ++ [((shr16 ((shr32 ((shr64 p0 32).toUInt32) 16).toUInt16) 8).toUInt8), (((shr32 ((shr64 p0 32).toUInt32) 16).toUInt16).toUInt8)]) ++ [((shr16 (((shr64 p0 32).toUInt32).toUInt16) 8).toUInt8), ((((shr64 p0 32).toUInt32).toUInt16).toUInt8)])) fun _ =>
 some ()
theorem pack_Out_U64_ok (p0 : UInt64) (p1 : List UInt8) (r : Unit) (h0 : pack_Out_U64 p0 p1 = some r) : CallAt Tryz.prog 71 [.ref 0 0 0, .d (eU64 p0)] [.box (.agg [.slc 1 1 0 p1.length none]), .row 1 (List.map eU8 p1) true] (.tuple []) [.box (.agg [.slc 2 1 0 (((((p1 ++ [((shr16 ((shr32 ((shr64 p0 32).toUInt32) 16).toUInt16) 8).toUInt8), (((shr32 ((shr64 p0 32).toUInt32) 16).toUInt16).toUInt8)]) ++ [((shr16 (((shr64 p0 32).toUInt32).toUInt16) 8).toUInt8), ((((shr64 p0 32).toUInt32).toUInt16).toUInt8)]) ++ [((shr16 ((shr32 (p0.toUInt32) 16).toUInt16) 8).toUInt8), (((shr32 (p0.toUInt32) 16).toUInt16).toUInt8)]) ++ [((shr16 ((p0.toUInt32).toUInt16) 8).toUInt8), (((p0.toUInt32).toUInt16).toUInt8)]).length) none]), .dead, .row 1 (List.map eU8 ((((p1 ++ [((shr16 ((shr32 ((shr64 p0 32).toUInt32) 16).toUInt16) 8).toUInt8), (((shr32 ((shr64 p0 32).toUInt32) 16).toUInt16).toUInt8)]) ++ [((shr16 (((shr64 p0 32).toUInt32).toUInt16) 8).toUInt8), ((((shr64 p0 32).toUInt32).toUInt16).toUInt8)]) ++ [((shr16 ((shr32 (p0.toUInt32) 16).toUInt16) 8).toUInt8), (((shr32 (p0.toUInt32) 16).toUInt16).toUInt8)]) ++ [((shr16 ((p0.toUInt32).toUInt16) 8).toUInt8), (((p0.toUInt32).toUInt16).toUInt8)])) true] := by
 unfold pack_Out_U64 at h0
 refine fn0 [0, 1] Tryz.func71 rfl rfl rfl rfl rfl ?_
 obtain ⟨_, hq5, h0⟩ := ob h0; obtain ⟨_, hq6, h0⟩ := ob h0; have q := si h0; subst q
 refine sr (sm rfl (sm rfl (s1 (bi (v := .d (eU64 (shr64 p0 32))) rfl rfl (fun X Y => b_u64_shr _ X Y p0 _ (by decide))) (s1 (cvo rfl (cv_u64_u32 un39 un108 (shr64 p0 32))) (cq [0, 1] [2] (pack_Out_U32_ok ((shr64 p0 32).toUInt32) p1 _ hq5) wf rfl rfl rfl cb89 rfl rfl rfl rfl rfl rfl rfl rfl (sn (SC.region (sm rfl (sm rfl ?_)))))))))
 exact s1 (cvo rfl (cv_u64_u32 un39 un108 p0)) (cq [0, 2] [3] (pack_Out_U32_ok (p0.toUInt32) ((p1 ++ [((shr16 ((shr32 ((shr64 p0 32).toUInt32) 16).toUInt16) 8).toUInt8), (((shr32 ((shr64 p0 32).toUInt32) 16).toUInt16).toUInt8)]) ++ [((shr16 (((shr64 p0 32).toUInt32).toUInt16) 8).toUInt8), ((((shr64 p0 32).toUInt32).toUInt16).toUInt8)]) _ hq6) wf rfl rfl rfl cb89 rfl rfl rfl rfl rfl rfl rfl rfl (SO.nil (finN (wc (e' := []) [0, 1, 3] [0, 1] (by kernel_rfl) rfl (by kernel_rfl)) lresN rfl)))
noncomputable def pack_Out_U8 (p0 : UInt8) (p1 : List UInt8) : Option Unit :=
 Option.bind (pack_Out_put_1 [p0] p1) fun _ =>
 some ()
theorem pack_Out_U8_ok (p0 : UInt8) (p1 : List UInt8) (r : Unit) (h0 : pack_Out_U8 p0 p1 = some r) : CallAt Tryz.prog 72 [.ref 0 0 0, .d (eU8 p0)] [.box (.agg [.slc 1 1 0 p1.length none]), .row 1 (List.map eU8 p1) true] (.tuple []) [.box (.agg [.slc 2 1 0 ((p1 ++ [p0]).length) none]), .dead, .row 1 (List.map eU8 (p1 ++ [p0])) true] := by
 unfold pack_Out_U8 at h0
 refine fn0 [0, 1] Tryz.func72 rfl rfl rfl rfl rfl ?_
 obtain ⟨_, hq3, h0⟩ := ob h0; have q := si h0; subst q
 exact SC.region (sm rfl (sm rfl (s1 (bsn (k := 2) (ds := List.map eU8 [p0]) (off := 0) (l' := [p0].length) rfl un95 ei5 rfl rfl (by rfl) rfl rfl rfl) (cq (args' := [.ref 0 0 0, .slc 1 1 0 ([p0].length) none]) (σc := [.box (.agg [.slc 2 1 0 p1.length none]), .row 1 (List.map eU8 [p0]) true, .row 1 (List.map eU8 p1) true]) [0, 2, 1] [3] (CallAt.frz (ArgF.keep (ArgF.frz (fF rfl rfl rfl) (ArgF.nil _))) (fq [0, 2] [3] (pack_Out_put_1_ok [p0] p1 _ hq3) rfl rfl rfl rfl rfl rfl rfl rfl)) wf rfl rfl rfl cb88 rfl rfl rfl rfl rfl rfl rfl rfl (SO.nil (finN (wc (e' := []) [0, 1, 3] [0, 1] (by kernel_rfl) rfl (by kernel_rfl)) lresN rfl))))))
noncomputable def pack_Out_Bytes (p0 : List UInt8) : Option Unit :=
 bif decide (p0.length * 1 ≤ room) then
 some ()
 else none
theorem pack_Out_Bytes_ok (p0 : List UInt8) (r : Unit) (h0 : pack_Out_Bytes p0 = some r) : CallAt Tryz.prog 73 [.ref 0 0 0] [.box (.agg [.slc 1 1 0 p0.length none]), .row 1 (List.map eU8 p0) true] (.slc 2 1 0 p0.length none) [.box (.agg [.slc 1 1 0 p0.length none]), .row 1 (List.map eU8 p0) true, .row 1 (List.map eU8 p0) true] := by
 unfold pack_Out_Bytes at h0
 refine fn0 [0] Tryz.func73 rfl rfl rfl rfl rfl ?_
 obtain ⟨hg3, h0⟩ := gd h0; have q := si h0; subst q
 refine sr (s1 (asg (v := .d .nils) rfl) (sn (sq (sr (sm rfl (s1 (bi (v := .d (eB false)) rfl rfl (fun _ _ => nil_eql un131)) (sn (cF rfl (sk ?_)))))))))
 exact sr (sm rfl (s1 (nkr rfl) (s1 (far (k := 0) rfl fo113_0 ts95 rfl) (s1 (lod rfl (ld_box ts95 ta95 rfl rfl)) (s1 (app rfl rfl rfl rfl bc95 (aN (f := eU8) (k := 2) un95 ei5 (el_full (xs := p0) rfl) hg3 rfl)) (sa rfl (sn (SC.ret (finR (Wk.refl _) (lresT rfl lresN) rfl)))))))))
noncomputable def key_turned (p0 : List UInt8) : Option ((List UInt8)) :=
 Option.bind (α := (List UInt8))
 (Option.bind (α := (List UInt8))
 (loop (Y := (List UInt8) × Int) (W := (List UInt8)) (fun (y75, y76) =>
 bif (decide (y76 < (p0.length : Int))) then
 Option.bind (getI y75 y76) fun v83 =>
 Option.bind (getI y75 y76) fun v84 =>
 some (Sum.inl ((List.set y75 y76.toNat (~~~ v83)), (w64 (y76 + (1 : Int)))))
 else
 some (Sum.inr y75)) (p0, (0 : Int)))
 (fun e => some e))
 fun y71 =>
 some y71
theorem key_turned_ok (p0 : List UInt8) (r : (List UInt8)) (h0 : key_turned p0 = some r) : CallAt Tryz.prog 75 [.slc 0 1 0 p0.length none] [.row 1 (List.map eU8 p0) true] (.slc 0 1 0 r.length none) [.row 1 (List.map eU8 r) true] := by
 unfold key_turned at h0
 refine fn0 [0] Tryz.func75 rfl rfl rfl rfl rfl ?_
 refine sr (s1 (asg (v := .d .nils) rfl) (sn (SC.seqP h0 (fun y => ⟨mk 19 [(0, .slc 0 1 0 y.length none)], [.row 1 (List.map eU8 y) true]⟩) ?_ ?_)))
 ·intro u1_72 h1
  obtain ⟨u2_82, h2, h1⟩ := ob h1
  refine sr (sm rfl (s1 (len rfl rfl rfl (len_slc un95)) (sm rfl (sn (SC.blk (SC.loopB h2 (fun y => ⟨mk 19 [(0, .slc 0 1 0 y.1.length none), (5, .d (eI (p0.length : Int))), (6, .d (eI y.2))], [.row 1 (List.map eU8 y.1) true]⟩) (wq rfl) ?_))))))
  intro n85
  rintro ⟨y75, y76⟩ w2_81 h3 hv3
  refine sr (s1 (bi rfl rfl q_i64_lss) (sn (sq (cB h3 rfl (fun h3 => ?_) (fun h3 => ?_)))))
  ·obtain ⟨v83, hv83, h3⟩ := ob h3; obtain ⟨v84, hv84, h3⟩ := ob h3
   refine sk (sq (SC.blk (sr (sm rfl (sa rfl (sn (SC.region (sm rfl (sm rfl ?_)))))))))
   refine sm rfl (sm rfl (s1 (iaz rfl rfl un95 ts5 (getI_lt hv83)) (s1 (lod rfl (ld_row ts5 ta5 rfl (map_get (getI_some hv83).2) rfl)) (s1 (uo rfl rfl (un_u8_xor v83)) (s1 (iaz rfl rfl un95 ts5 (getI_lt hv84)) (s0 (sto (b := .d (eU8 (~~~ v83))) rfl rfl (sR (f := eU8) (v := (~~~ v83)) ts5 rfl rfl rfl rfl (getI_some hv84).2 rfl rfl)) (SO.nil ?_)))))))
   change SC _ _ _ _ _
   have q := si h3; subst q
   exact SC.region (s1 (bi rfl rfl q_i64_add) (sm rfl (SO.nil (lf (Wk.env (EW.cons (AW.slc rfl (by simp)) (EW.cons (AW.refl _) (EW.cons (AW.refl _) EW.nil))))))))
  ·have q := si h3; subst q; have q : _ = _ := hv3; subst q; have q := si h1; subst q
   exact SC.exit ((wq rfl))
 ·rintro y71 h0
  have q := si h0; subst q
  exact sr (sm rfl (sa rfl (sn (SC.ret (finR (Wk.refl _) (lresT rfl lresN) rfl)))))
noncomputable def key_one (p0 : ApiValue) (p1 : Bool) : Option ((List UInt8)) :=
 Option.bind (pack_Out_Flag (p0.Kind != (0 : Int))) fun r57 =>
 Option.bind (α := (List UInt8))
 (bif (p0.Kind == (1 : Int)) then
 Option.bind (pack_Out_U64 (p0.N ^^^ (9223372036854775808 : UInt64)) r57) fun _ =>
 some ((((r57 ++ [((shr16 ((shr32 ((shr64 (p0.N ^^^ (9223372036854775808 : UInt64)) 32).toUInt32) 16).toUInt16) 8).toUInt8), (((shr32 ((shr64 (p0.N ^^^ (9223372036854775808 : UInt64)) 32).toUInt32) 16).toUInt16).toUInt8)]) ++ [((shr16 (((shr64 (p0.N ^^^ (9223372036854775808 : UInt64)) 32).toUInt32).toUInt16) 8).toUInt8), ((((shr64 (p0.N ^^^ (9223372036854775808 : UInt64)) 32).toUInt32).toUInt16).toUInt8)]) ++ [((shr16 ((shr32 ((p0.N ^^^ (9223372036854775808 : UInt64)).toUInt32) 16).toUInt16) 8).toUInt8), (((shr32 ((p0.N ^^^ (9223372036854775808 : UInt64)).toUInt32) 16).toUInt16).toUInt8)]) ++ [((shr16 (((p0.N ^^^ (9223372036854775808 : UInt64)).toUInt32).toUInt16) 8).toUInt8), ((((p0.N ^^^ (9223372036854775808 : UInt64)).toUInt32).toUInt16).toUInt8)])
 else
 bif (p0.Kind == (2 : Int)) then
 Option.bind (pack_Out_U64 p0.N r57) fun _ =>
 some ((((r57 ++ [((shr16 ((shr32 ((shr64 p0.N 32).toUInt32) 16).toUInt16) 8).toUInt8), (((shr32 ((shr64 p0.N 32).toUInt32) 16).toUInt16).toUInt8)]) ++ [((shr16 (((shr64 p0.N 32).toUInt32).toUInt16) 8).toUInt8), ((((shr64 p0.N 32).toUInt32).toUInt16).toUInt8)]) ++ [((shr16 ((shr32 (p0.N.toUInt32) 16).toUInt16) 8).toUInt8), (((shr32 (p0.N.toUInt32) 16).toUInt16).toUInt8)]) ++ [((shr16 ((p0.N.toUInt32).toUInt16) 8).toUInt8), (((p0.N.toUInt32).toUInt16).toUInt8)])
 else
 bif (p0.Kind == (3 : Int)) then
 Option.bind (pack_Out_U8 (p0.N.toUInt8) r57) fun _ =>
 some (r57 ++ [(p0.N.toUInt8)])
 else
 some r57)
 fun y61 =>
 Option.bind (pack_Out_Bytes y61) fun _ =>
 Option.bind (α := (List UInt8))
 (Option.bind (α := Bool)
 (bif (p0.Kind == (4 : Int)) then
 some true
 else
 some (p0.Kind == (5 : Int)))
 fun y75 =>
 bif y75 then
 Option.bind (replF p0.S ([0] : List UInt8) ([0, 255] : List UInt8)) fun r78 =>
 bif decide ((y61.length + r78.length) * 1 ≤ room) then
 bif decide (((y61 ++ r78).length + [(0 : UInt8), (0 : UInt8)].length) * 1 ≤ room) then
 some ((y61 ++ r78) ++ [(0 : UInt8), (0 : UInt8)])
 else none
 else none
 else
 some y61)
 fun y73 =>
 bif p1 then
 Option.bind (key_turned y73) fun r82 =>
 some r82
 else
 some y73
theorem key_one_ok (p0 : ApiValue) (p1 : Bool) (r : (List UInt8)) (h0 : key_one p0 p1 = some r) : CallAt Tryz.prog 55 [.d (eApiValue p0), .d (eB p1)] [] (.d ((eL 1 eU8) r)) [] := by
 unfold key_one at h0
 refine fn0 [0, 1] Tryz.func55 rfl rfl rfl rfl rfl ?_
 obtain ⟨r57, hq56, h0⟩ := ob h0
 refine sr (s1 (bxo (k := 0) rfl rfl rfl) (s1 (asg (v := .d .nils) rfl) (sn (sr (s1 (alo (k := 1) zo113 rfl) (sn (sr (s1 (far (k := 0) rfl fo41_0 ts3 rfl) (s1 (lod rfl (ld_box ts3 ta3 rfl rfl)) ?_)))))))))
 refine s1 (bi rfl rfl q_i64_neq) (cq [1] [2] (pack_Out_Flag_ok (p0.Kind != (0 : Int)) _ hq56) wf rfl rfl rfl cb70 rfl rfl rfl rfl rfl rfl rfl rfl (sn (SC.seqP h0 (fun y => ⟨mk 51 [(1, .d (eB p1)), (2, .ref 0 0 0), (5, .ref 1 0 0)], [.box (.d (eApiValue p0)), .box (.agg [.slc 2 1 0 y.length none]), .row 1 (List.map eU8 y) true]⟩) ?_ ?_)))
 ·intro u1_62 h1
  refine sr (s1 (far (k := 0) rfl fo41_0 ts3 rfl) (s1 (lod rfl (ld_box ts3 ta3 rfl rfl)) (sn (SC.blk (sr (s1 (bi rfl rfl q_i64_eql) (sa rfl (sn (cB h1 rfl (fun h1 => ?_) (fun h1 => ?_))))))))))
  ·obtain ⟨_, hq63, h1⟩ := ob h1; have q := si h1; subst q
   exact SC.region (s1 (far (k := 1) rfl fo41_1 ts39 rfl) (s1 (lod rfl (ld_box ts39 ta39 rfl rfl)) (s1 (bi rfl rfl (q_u64_xor (b := (9223372036854775808 : UInt64)))) (cq [1, 2] [3] (pack_Out_U64_ok (p0.N ^^^ (9223372036854775808 : UInt64)) r57 _ hq63) wf rfl rfl rfl cb71 rfl rfl rfl rfl rfl rfl rfl rfl (SO.nil ((wc [0, 1, 3] [0, 1] (by kernel_rfl) rfl (by kernel_rfl))))))))
  ·refine sr (s1 (bi rfl rfl q_i64_eql) (sa rfl (sn (cB h1 rfl (fun h1 => ?_) (fun h1 => ?_)))))
   ·obtain ⟨_, hq64, h1⟩ := ob h1; have q := si h1; subst q
    exact SC.region (s1 (far (k := 1) rfl fo41_1 ts39 rfl) (s1 (lod rfl (ld_box ts39 ta39 rfl rfl)) (cq [1, 2] [3] (pack_Out_U64_ok p0.N r57 _ hq64) wf rfl rfl rfl cb71 rfl rfl rfl rfl rfl rfl rfl rfl (SO.nil ((wc [0, 1, 3] [0, 1] (by kernel_rfl) rfl (by kernel_rfl)))))))
   ·refine sr (s1 (bi rfl rfl q_i64_eql) (sa rfl (sn (cB h1 rfl (fun h1 => ?_) (fun h1 => ?_)))))
    ·obtain ⟨_, hq65, h1⟩ := ob h1; have q := si h1; subst q
     exact SC.region (s1 (far (k := 1) rfl fo41_1 ts39 rfl) (s1 (lod rfl (ld_box ts39 ta39 rfl rfl)) (s1 (cvo rfl (cv_u64_u8 un39 un5 p0.N)) (cq [1, 2] [3] (pack_Out_U8_ok (p0.N.toUInt8) r57 _ hq65) wf rfl rfl rfl cb72 rfl rfl rfl rfl rfl rfl rfl rfl (SO.nil ((wc [0, 1, 3] [0, 1] (by kernel_rfl) rfl (by kernel_rfl))))))))
    ·have q := si h1; subst q
     exact SC.skip ((wq rfl))
 ·rintro y61 h0
  obtain ⟨_, hq66, h0⟩ := ob h0
  refine sr (cq [1, 2] [3] (pack_Out_Bytes_ok y61 _ hq66) wf rfl rfl rfl cb73 rfl rfl rfl rfl rfl rfl rfl rfl (sa rfl (sn (SC.seqP h0 (fun y => ⟨mk 51 [(1, .d (eB p1)), (6, .slc 0 1 0 y.length none)], [.row 1 (List.map eU8 y) true]⟩) ?_ ?_))))
  ·intro u1_74 h1
   refine SC.seqP h1 (fun y => ⟨mk 51 [(1, .d (eB p1)), (2, .ref 0 0 0), (6, .slc 1 1 0 y61.length none), (38, .d (eB y))], [.box (.d (eApiValue p0)), .row 1 (List.map eU8 y61) true]⟩) ?_ ?_
   ·intro u2_76 h2
    refine SC.region (s1 (far (k := 0) rfl fo41_0 ts3 rfl) (s1 (lod rfl (ld_box ts3 ta3 rfl rfl)) (s1 (bi rfl rfl q_i64_eql) (sm rfl (sp h2 (fun h2 => ?_) (fun h2 => ?_))))))
    ·have q := si h2; subst q
     exact kw rfl (kw rfl (kw rfl (s1 (pkt rfl rfl) (SO.nil ((wc [0, 3] [0, 3] (by kernel_rfl) rfl (by kernel_rfl)))))))
    ·have q := si h2; subst q
     exact gw rfl (far (k := 0) rfl fo41_0 ts3 rfl) (gw rfl (lod rfl (ld_box ts3 ta3 rfl rfl)) (gw rfl (bi rfl rfl q_i64_eql) (s1 (pkf rfl rfl) (SO.nil ((wc [0, 3] [0, 3] (by kernel_rfl) rfl (by kernel_rfl)))))))
   ·rintro y75 h1
    refine cB h1 rfl (fun h1 => ?_) (fun h1 => ?_)
    ·obtain ⟨r78, hq77, h1⟩ := ob h1; obtain ⟨hg79, h1⟩ := gd h1; obtain ⟨hg80, h1⟩ := gd h1; have q := si h1; subst q
     refine sr (sm rfl (s1 (far (k := 2) rfl fo41_2 ts9 rfl) (s1 (lod rfl (ld_box ts9 ta9 rfl rfl)) (c0 (repl_ok p0.S ([0] : List UInt8) ([0, 255] : List UInt8) _ hq77) wf rfl rfl rfl cb74 rfl (fun _ => rfl) (fun _ => rfl) (s1 (app rfl rfl rfl rfl bc9 (aF (f := eU8) (xs := y61) (k := 2) rfl un95 ei5 rfl el_str hg79 rfl)) (sa rfl (sn (SC.region (sm rfl ?_)))))))))
     exact s1 (bsn (k := 3) (ds := List.map eU8 [(0 : UInt8), (0 : UInt8)]) (off := 0) (l' := [(0 : UInt8), (0 : UInt8)].length) rfl un95 ei5 rfl rfl (by rfl) rfl rfl rfl) (s1 (app rfl rfl rfl rfl bc95 (aF (f := eU8) (xs := (y61 ++ r78)) (k := 4) rfl un95 ei5 rfl (el_full (xs := [(0 : UInt8), (0 : UInt8)]) rfl) hg80 rfl)) (sa rfl (SO.nil ((wc [4] [4] (by kernel_rfl) rfl (by kernel_rfl))))))
    ·have q := si h1; subst q
     exact SC.skip ((wc [1] [1] (by kernel_rfl) rfl (by kernel_rfl)))
  ·rintro y73 h0
   refine sq (sr (sm rfl (sn (cB h0 rfl (fun h0 => ?_) (fun h0 => ?_)))))
   ·obtain ⟨r82, hq81, h0⟩ := ob h0; have q := si h0; subst q
    exact sr (sm rfl (cq [0] [] (key_turned_ok y73 _ hq81) wf rfl rfl rfl cb75 rfl rfl rfl rfl rfl rfl rfl rfl (sa rfl (sn (SC.ret (finR (Wk.trans (Wk.frz (i := 4) (x := .slc 0 1 0 r82.length none) rfl rfl (fF rfl rfl rfl)) (wc (e' := [(4, .d ((eL 1 eU8) r82))]) [] [] (by kernel_rfl) rfl (by kernel_rfl))) (lresT rfl lresN) rfl))))))
   ·have q := si h0; subst q
    exact sk (sr (sm rfl (sa rfl (sn (SC.ret (finR (Wk.trans (Wk.frz (i := 4) (x := .slc 0 1 0 y73.length none) rfl rfl (fF rfl rfl rfl)) (wc (e' := [(4, .d ((eL 1 eU8) y73))]) [] [] (by kernel_rfl) rfl (by kernel_rfl))) (lresT rfl lresN) rfl))))))
noncomputable def key_Encode (p0 : List ApiValue) (p1 : List Bool) : Option ((List UInt8) × Int) :=
 bif ((p0.length : Int) != (p1.length : Int)) then
 some (([] : List UInt8), (1 : Int))
 else
 Option.bind (slices_ContainsFunc_api_Value_api_Value p0) fun r100 =>
 bif r100 then
 some (([] : List UInt8), (8 : Int))
 else
 Option.bind (α := (List UInt8))
 (Option.bind (α := (List UInt8))
 (loop (Y := (List UInt8) × Int) (W := (List UInt8)) (fun (y130, y131) =>
 bif (decide (y131 < (p0.length : Int))) then
 Option.bind (getI p0 y131) fun v141 =>
 Option.bind (getI p1 y131) fun v142 =>
 Option.bind (key_one v141 v142) fun r144 =>
 bif decide ((y130.length + r144.length) * 1 ≤ room) then
 some (Sum.inl ((y130 ++ r144), (w64 (y131 + (1 : Int)))))
 else none
 else
 some (Sum.inr y130)) (([] : List UInt8), (0 : Int)))
 (fun e => some e))
 fun y123 =>
 bif (decide ((y123.length : Int) > (256 : Int))) then
 some (([] : List UInt8), (7 : Int))
 else
 some (y123, (0 : Int))
theorem key_Encode_ok (p0 : List ApiValue) (p1 : List Bool) (r : (List UInt8) × Int) (h0 : key_Encode p0 p1 = some r) : CallAt Tryz.prog 43 [.d ((eL 3 eApiValue) p0), .d ((eL 1 eB) p1)] [] (.tuple [.d (eS r.1), .d (eI r.2)]) [] := by
 unfold key_Encode at h0
 refine fn0 [0, 1] Tryz.func43 rfl rfl rfl rfl rfl ?_
 refine sr (s1 (asg (v := .d (eS ([] : List UInt8))) rfl) (sa rfl (sn (sq (sr (sm rfl (s1 (len rfl rfl rfl (len_lst un24)) (sm rfl (s1 (len rfl rfl rfl (len_lst un63)) ?_)))))))))
 refine s1 (bi rfl rfl q_i64_neq) (sn (cB h0 rfl (fun h0 => ?_) (fun h0 => ?_)))
 ·have q := si h0; subst q
  exact sr (s1 (asg (v := .d (eS ([] : List UInt8))) rfl) (sa rfl (sn (SC.ret (finR (Wk.refl _) (lresT rfl (lresT rfl lresN)) rfl)))))
 ·obtain ⟨r100, hq99, h0⟩ := ob h0
  refine sk (sq (sr (sm rfl (c0 (slices_ContainsFunc_api_Value_api_Value_ok p0 _ hq99) wf rfl rfl rfl cb53 rfl (fun _ => rfl) (fun _ => rfl) (sn (cB h0 rfl (fun h0 => ?_) (fun h0 => ?_)))))))
  ·have q := si h0; subst q
   exact sr (s1 (asg (v := .d (eS ([] : List UInt8))) rfl) (sa rfl (sn (SC.ret (finR (Wk.refl _) (lresT rfl (lresT rfl lresN)) rfl)))))
  ·refine sk (sr (s1 (asg (v := .d .nils) rfl) (sn (SC.seqP h0 (fun y => ⟨mk 37 [(6, .slc 0 1 0 y.length none)], [.row 1 (List.map eU8 y) true]⟩) ?_ ?_))))
   ·intro u1_124 h1
    obtain ⟨u2_140, h2, h1⟩ := ob h1
    refine sr (sm rfl (s1 (len rfl rfl rfl (len_lst un24)) (sm rfl (sn (SC.blk (SC.loopB h2 (fun y => ⟨mk 37 [(1, .d ((eL 1 eB) p1)), (6, .slc 0 1 0 y.1.length none), (16, .d ((eL 3 eApiValue) p0)), (17, .d (eI (p0.length : Int))), (18, .d (eI y.2))], [.row 1 (List.map eU8 y.1) true]⟩) (Wk.trans (Wk.pushE (σ' := [.row 1 (List.map eU8 ([] : List UInt8)) true]) (.row 1 [] true) (fun _ hh => by cases hh) rfl) (Wk.trans (Wk.env (e' := [(1, .d ((eL 1 eB) p1)), (6, .slc 0 1 0 (([] : List UInt8).length) none), (16, .d ((eL 3 eApiValue) p0)), (17, .d (eI (p0.length : Int))), (18, .d (eI (0 : Int)))]) (EW.cons (AW.refl _) (EW.cons (AW.slcn _ _ _) (EW.cons (AW.refl _) (EW.cons (AW.refl _) (EW.cons (AW.refl _) EW.nil)))))) (wq rfl))) ?_))))))
    intro n146
    rintro ⟨y130, y131⟩ w2_139 h3 hv3
    refine sr (s1 (bi rfl rfl q_i64_lss) (sn (sq (cB h3 rfl (fun h3 => ?_) (fun h3 => ?_)))))
    ·obtain ⟨v141, hv141, h3⟩ := ob h3; obtain ⟨v142, hv142, h3⟩ := ob h3; obtain ⟨r144, hq143, h3⟩ := ob h3; obtain ⟨hg145, h3⟩ := gd h3
     refine sk (sq (SC.blk (sr (sm rfl (s1 (ial rfl rfl un24 ts41 (getI_some hv141).1 (map_get (getI_some hv141).2) rfl) (s1 (lod (v := .d (eApiValue v141)) rfl (ld_rop ts41 ta41 rfl)) (s1 (alo (k := 1) zo41 rfl) (sa rfl (s0 (sto rfl rfl (sB (d' := .d (eApiValue v141)) ts41 rfl rfl rfl rfl rfl rfl rfl)) ?_)))))))))
     refine sn (SC.draws (by kernel_rfl) (t1 ([], false) (mv rfl) rfl (t1 ([1], false) (lod (v := .d (eApiValue v141)) rfl (ld_box ts41 ta41 rfl rfl)) rfl (t1 ([], false) (mv rfl) rfl (t1 ([], false) (mv rfl) rfl (t1 ([], false) (ial rfl rfl un63 ts4 (getI_some hv142).1 (map_get (getI_some hv142).2) rfl) rfl (t1 ([], false) (lod rfl (ld_rop ts4 ta4 rfl)) rfl (tc0 (key_one_ok v141 v142 _ hq143) wf rfl rfl rfl cb55 rfl (fun _ => rfl) (fun _ => rfl) (t1 ([0, 2], true) (app rfl rfl rfl rfl bc95 (aF (f := eU8) (xs := y130) (k := 2) rfl un95 ei5 rfl el_lst hg145 rfl)) rfl ?_)))))))))
     refine t1 ([], false) (asg rfl) rfl (ST.nil (And.intro (by decide +kernel) ?_))
     change SC _ _ _ _ _
     have q := si h3; subst q
     exact SC.region (s1 (bi rfl rfl q_i64_add) (sm rfl (SO.nil (lf (wc [2] [2] (by kernel_rfl) rfl (by kernel_rfl))))))
    ·have q := si h3; subst q; have q : _ = _ := hv3; subst q; have q := si h1; subst q
     exact SC.exit ((wq rfl))
   ·rintro y123 h0
    refine sq (sr (sm rfl (s1 (len rfl rfl rfl (len_slc un95)) (s1 (bi rfl rfl q_i64_gtr) (sn (cB h0 rfl (fun h0 => ?_) (fun h0 => ?_)))))))
    ·have q := si h0; subst q
     exact sr (s1 (asg (v := .d (eS ([] : List UInt8))) rfl) (sa rfl (sn (SC.ret (finR (wc (e' := [(4, .d (eS ([] : List UInt8))), (5, .d (eI (7 : Int)))]) [] [] (by kernel_rfl) rfl (by kernel_rfl)) (lresT rfl (lresT rfl lresN)) rfl)))))
    ·have q := si h0; subst q
     exact sk (sr (sm rfl (s1 (cvo (v := .d (eS y123)) rfl (cv_bytes_str un95 un9 un5 (el_full (xs := y123) rfl) (fun _ hh => by cases hh))) (sa rfl (sa rfl (sn (SC.ret (finR (wc (e' := [(4, .d (eS y123)), (5, .d (eI (0 : Int)))]) [] [] (by kernel_rfl) rfl (by kernel_rfl)) (lresT rfl (lresT rfl lresN)) rfl))))))))
noncomputable def pred_one (p0 : ApiValue) (p1 : Bool) : Option ((List UInt8)) :=
 Option.bind (key_Encode [p0] [p1]) fun (r9, r10) =>
 some r9
theorem pred_one_ok (p0 : ApiValue) (p1 : Bool) (r : (List UInt8)) (h0 : pred_one p0 p1 = some r) : CallAt Tryz.prog 28 [.d (eApiValue p0), .d (eB p1)] [] (.d (eS r)) [] := by
 unfold pred_one at h0
 refine fn0 [0, 1] Tryz.func28 rfl rfl rfl rfl rfl ?_
 obtain ⟨⟨r9, r10⟩, hq8, h0⟩ := ob h0; have q := si h0; subst q
 refine sr (s1 (bxo (k := 0) rfl rfl rfl) (s1 (asg (v := .d (eS ([] : List UInt8))) rfl) (sn (sr (s1 (lod (v := .d (eApiValue p0)) rfl (ld_box ts41 ta41 rfl rfl)) (s1 (bsn (k := 1) (ds := List.map eApiValue [p0]) (off := 0) (l' := [p0].length) rfl un24 ei41 rfl rfl (by rfl) rfl rfl rfl) (sm rfl (s1 (bsn (k := 2) (ds := List.map eB [p1]) (off := 0) (l' := [p1].length) rfl un63 ei4 rfl rfl (by rfl) rfl rfl rfl) (cq (args' := [.slc 0 3 0 ([p0].length) none, .slc 1 1 0 ([p1].length) none]) (σc := [.row 3 (List.map eApiValue [p0]) true, .row 1 (List.map eB [p1]) true]) [1, 2] [] (CallAt.frz (ArgF.frz (fF rfl rfl rfl) (ArgF.frz (fF rfl rfl rfl) (ArgF.nil _))) (fq [] [] (key_Encode_ok [p0] [p1] _ hq8) rfl rfl rfl rfl rfl rfl rfl rfl)) wf rfl rfl rfl cb43 rfl rfl rfl rfl rfl rfl rfl rfl ?_)))))))))
 refine sm rfl (s1 (ext rfl rfl) (s1 (ext rfl rfl) (sa rfl (sa rfl (sn (sr (sm rfl (sa rfl (sn ?_)))))))))
 exact SC.ret (finR (wc (e' := [(4, .d (eS r9))]) [] [] (by kernel_rfl) rfl (by kernel_rfl)) (lresT rfl lresN) rfl)
noncomputable def key_After (p0 : List UInt8) : Option ((List UInt8) × Bool) :=
 Option.bind (α := Nat)
 (Option.bind (α := Nat)
 (loop (Y := Nat) (W := Nat) (fun y120 =>
 Option.bind (α := Bool)
 (bif (decide ((y120 : Int) > (0 : Int))) then
 Option.bind (getS p0 0 y120 (w64 ((y120 : Int) - (1 : Int)))) fun v132 =>
 some (v132 == (255 : UInt8))
 else
 some false)
 fun y130 =>
 bif y130 then
 bif decide (0 ≤ (w64 ((y120 : Int) - (1 : Int))) ∧ (w64 ((y120 : Int) - (1 : Int))) ≤ (y120 : Int)) then
 some (Sum.inl ((w64 ((y120 : Int) - (1 : Int))).toNat))
 else none
 else
 some (Sum.inr y120)) p0.length)
 (fun e => some e))
 fun y113 =>
 bif ((y113 : Int) == (0 : Int)) then
 some (([] : List UInt8), false)
 else
 Option.bind (getS p0 0 y113 (w64 ((y113 : Int) - (1 : Int)))) fun v135 =>
 Option.bind (getS p0 0 y113 (w64 ((y113 : Int) - (1 : Int)))) fun v136 =>
 bif decide (0 + y113 ≤ (List.set p0 ((w64 ((y113 : Int) - (1 : Int))).toNat) (v135 + (1 : UInt8))).length) then
 some ((List.take y113 (List.drop 0 (List.set p0 ((w64 ((y113 : Int) - (1 : Int))).toNat) (v135 + (1 : UInt8))))), true)
 else none
theorem key_After_ok (p0 : List UInt8) (r : (List UInt8) × Bool) (h0 : key_After p0 = some r) : CallAt Tryz.prog 45 [.d (eS p0)] [] (.tuple [.d (eS r.1), .d (eB r.2)]) [] := by
 unfold key_After at h0
 refine fn0 [0] Tryz.func45 rfl rfl rfl rfl rfl ?_
 refine sr (s1 (asg (v := .d (eS ([] : List UInt8))) rfl) (sa rfl (sn (sr (sm rfl (s1 (cvs (s := p0) (k := 0) rfl un9 un95 un5 ts5 rfl) (sa rfl (sn (SC.seqP h0 (fun y => ⟨mk 37 [(4, .slc 0 1 0 y none)], [.row 1 (List.map eU8 p0) true]⟩) ?_ ?_)))))))))
 ·intro u1_114 h1
  obtain ⟨u2_128, h2, h1⟩ := ob h1
  refine SC.blk (SC.loopB h2 (fun y => ⟨mk 37 [(4, .slc 0 1 0 y none)], [.row 1 (List.map eU8 p0) true]⟩) (wq rfl) ?_)
  intro n134
  rintro y120 w2_127 h3 hv3
  refine sq (SC.seqP h3 (fun y => ⟨mk 37 [(4, .slc 0 1 0 y120 none), (18, .d (eB y))], [.row 1 (List.map eU8 p0) true]⟩) ?_ ?_)
  ·intro u4_131 h4
   refine SC.region (sm rfl (s1 (len rfl rfl rfl (len_slc un95)) (s1 (bi rfl rfl q_i64_gtr) (sm rfl (sp h4 (fun h4 => ?_) (fun h4 => ?_))))))
   ·obtain ⟨v132, hv132, h4⟩ := ob h4; have q := si h4; subst q
    exact gw rfl (mv rfl) (gw rfl (mv rfl) (gw rfl (len rfl rfl rfl (len_slc un95)) (gw rfl (bi rfl rfl q_i64_sub) (gw rfl (iaz rfl rfl un95 ts5 (getS_some hv132).1) (gw rfl (lod rfl (ld_row ts5 ta5 rfl (map_get (by have q := (getS_some hv132).2; simpa using q)) rfl)) (gw rfl (bi rfl rfl (q_u8_eql (b := (255 : UInt8)))) (s1 (pkt rfl rfl) (SO.nil ((wq rfl))))))))))
   ·have q := si h4; subst q
    exact kw rfl (kw rfl (kw rfl (kw rfl (kw rfl (kw rfl (kw rfl (s1 (pkf rfl rfl) (SO.nil ((wq rfl))))))))))
  ·rintro y130 h3
   refine cB h3 rfl (fun h3 => ?_) (fun h3 => ?_)
   ·obtain ⟨hg133, h3⟩ := gd h3; have q := si h3; subst q
    refine sk (SC.blk (SC.region (sm rfl (sm rfl (s1 (len rfl rfl rfl (len_slc un95)) (s1 (bi rfl rfl q_i64_sub) (s1 (slo rfl rfl rfl rfl (sl_slc_hi un95 ts5 hg133)) (sa rfl (SO.nil ?_)))))))))
    exact lf (wq rfl)
   ·have q := si h3; subst q; have q : _ = _ := hv3; subst q; have q := si h1; subst q
    exact SC.exit ((wq rfl))
 ·rintro y113 h0
  refine sq (sr (sm rfl (s1 (len rfl rfl rfl (len_slc un95)) (s1 (bi rfl rfl q_i64_eql) (sn (cB h0 rfl (fun h0 => ?_) (fun h0 => ?_)))))))
  ·have q := si h0; subst q
   exact sr (s1 (asg (v := .d (eS ([] : List UInt8))) rfl) (sa rfl (sn (SC.ret (finR (wc (e' := [(2, .d (eS ([] : List UInt8))), (3, .d (eB false))]) [] [] (by kernel_rfl) rfl (by kernel_rfl)) (lresT rfl (lresT rfl lresN)) rfl)))))
  ·obtain ⟨v135, hv135, h0⟩ := ob h0; obtain ⟨v136, hv136, h0⟩ := ob h0; obtain ⟨hg137, h0⟩ := gd h0; have q := si h0; subst q
   refine sk (sr (sm rfl (sm rfl (s1 (len rfl rfl rfl (len_slc un95)) (s1 (bi rfl rfl q_i64_sub) (s1 (iaz rfl rfl un95 ts5 (getS_some hv135).1) (s1 (lod rfl (ld_row ts5 ta5 rfl (map_get (by have q := (getS_some hv135).2; simpa using q)) rfl)) (s1 (bi rfl rfl (q_u8_add (b := (1 : UInt8)))) (s1 (iaz rfl rfl un95 ts5 (getS_some hv136).1) ?_)))))))))
   exact s0 (sto (b := .d (eU8 (v135 + (1 : UInt8)))) rfl rfl (sR (f := eU8) (v := (v135 + (1 : UInt8))) ts5 rfl rfl rfl rfl (by have q := (getS_some hv136).2; simpa using q) rfl rfl)) (sn (sr (sm rfl (s1 (cvo (v := .d (eS (List.take y113 (List.drop 0 (List.set p0 ((w64 ((y113 : Int) - (1 : Int))).toNat) (v135 + (1 : UInt8))))))) rfl (cv_bytes_str un95 un9 un5 (el_slc (xs := (List.set p0 ((w64 ((y113 : Int) - (1 : Int))).toNat) (v135 + (1 : UInt8)))) rfl hg137) (fun _ hh => by cases hh))) (sa rfl (sa rfl (sn (SC.ret (finR (wc (e' := [(2, .d (eS (List.take y113 (List.drop 0 (List.set p0 ((w64 ((y113 : Int) - (1 : Int))).toNat) (v135 + (1 : UInt8))))))), (3, .d (eB true))]) [] [] (by kernel_rfl) rfl (by kernel_rfl)) (lresT rfl (lresT rfl lresN)) rfl)))))))))
noncomputable def pred_end (p0 : List UInt8) : Option ((List UInt8)) :=
 Option.bind (key_After p0) fun (r9, r10) =>
 some r9
theorem pred_end_ok (p0 : List UInt8) (r : (List UInt8)) (h0 : pred_end p0 = some r) : CallAt Tryz.prog 44 [.d (eS p0)] [] (.d (eS r)) [] := by
 unfold pred_end at h0
 refine fn0 [0] Tryz.func44 rfl rfl rfl rfl rfl ?_
 obtain ⟨⟨r9, r10⟩, hq8, h0⟩ := ob h0; have q := si h0; subst q
 refine sr (s1 (asg (v := .d (eS ([] : List UInt8))) rfl) (sn (sr (sm rfl (c0 (key_After_ok p0 _ hq8) wf rfl rfl rfl cb45 rfl (fun _ => rfl) (fun _ => rfl) (sm rfl (s1 (ext rfl rfl) (s1 (ext rfl rfl) (sa rfl ?_)))))))))
 exact sa rfl (sn (sr (sm rfl (sa rfl (sn (SC.ret (finR (Wk.refl _) (lresT rfl lresN) rfl)))))))
noncomputable def pred_bounded (p0 : ApiPart) (p1 : List PredNode) (p2 : List UInt8) : Option (Bool × ApiSpan) :=
 bif decide (p2.length + ([1] : List UInt8).length ≤ 9223372036854775807) then
 bif decide (p2.length + ([1] : List UInt8).length ≤ 9223372036854775807) then
 Option.bind (pred_end (p2 ++ ([1] : List UInt8))) fun r492 =>
 Option.bind (α := ApiSpan)
 (bif p0.Down then
 bif decide (p2.length + ([254] : List UInt8).length ≤ 9223372036854775807) then
 Option.bind (pred_end (p2 ++ ([254] : List UInt8))) fun r500 =>
 some (ApiSpan.mk p2 r500 false)
 else none
 else
 some (ApiSpan.mk (p2 ++ ([1] : List UInt8)) r492 false))
 fun y496 =>
 Option.bind (α := Bool × ApiSpan)
 (Option.bind (α := Bool × ApiSpan)
 (loop (Y := Bool × Int × ApiSpan) (W := Bool × ApiSpan) (fun (y653, y654, y655) =>
 bif (decide (y654 < (p1.length : Int))) then
 Option.bind (α := Bool × ApiSpan)
 (Option.bind (getI p1 y654) fun v715 =>
 Option.bind (α := Bool)
 (bif (v715.Kind != (2 : Int)) then
 some true
 else
 bif (v715.Col != p0.Col) then
 some true
 else
 bif (v715.Op == (3 : Int)) then
 some true
 else
 some (v715.Op == (6 : Int)))
 fun y716 =>
 bif y716 then
 some (y653, y655)
 else
 Option.bind (pred_one v715.Val p0.Down) fun r719 =>
 bif decide (p2.length + r719.length ≤ 9223372036854775807) then
 Option.bind (α := Bool)
 (bif (v715.Op == (4 : Int)) then
 some true
 else
 some (v715.Op == (5 : Int)))
 fun y721 =>
 Option.bind (α := Bool)
 (bif (y721 == p0.Down) then
 bif (v715.Op == (4 : Int)) then
 some true
 else
 some (v715.Op == (2 : Int))
 else
 some false)
 fun y723 =>
 bif y723 then
 Option.bind (pred_end (p2 ++ r719)) fun r726 =>
 some (true, (ApiSpan.mk y655.Lo (minS y655.Hi r726) y655.Open))
 else
 bif (y721 == p0.Down) then
 some (true, (ApiSpan.mk y655.Lo (minS y655.Hi (p2 ++ r719)) y655.Open))
 else
 Option.bind (α := Bool)
 (bif (v715.Op == (4 : Int)) then
 some true
 else
 some (v715.Op == (2 : Int)))
 fun y727 =>
 bif y727 then
 some (true, (ApiSpan.mk (maxS y655.Lo (p2 ++ r719)) y655.Hi y655.Open))
 else
 Option.bind (pred_end (p2 ++ r719)) fun r730 =>
 some (true, (ApiSpan.mk (maxS y655.Lo r730) y655.Hi y655.Open))
 else none)
 fun (y712, y713) =>
 some (Sum.inl (y712, (w64 (y654 + (1 : Int))), y713))
 else
 some (Sum.inr (y653, y655))) (false, (0 : Int), y496))
 (fun e => some e))
 fun (y615, y616) =>
 some (y615, y616)
 else none
 else none
theorem pred_bounded_ok (p0 : ApiPart) (p1 : List PredNode) (p2 : List UInt8) (r : Bool × ApiSpan) (h0 : pred_bounded p0 p1 p2 = some r) : CallAt Tryz.prog 29 [.d (eApiPart p0), .d ((eL 6 ePredNode) p1), .d (eS p2)] [] (.tuple [.d (eApiSpan r.2), .d (eB r.1)]) [.box (.d (eApiSpan r.2))] := by
 unfold pred_bounded at h0
 refine fn0 [0, 1, 2] Tryz.func29 rfl rfl rfl rfl rfl ?_
 obtain ⟨hg489, h0⟩ := gd h0; obtain ⟨hg490, h0⟩ := gd h0; obtain ⟨r492, hq491, h0⟩ := ob h0
 refine sr (s1 (bxo (k := 0) rfl rfl rfl) (s1 (alo (k := 1) zo33 rfl) (sa rfl (sn (sr (sm rfl (s1 (bi (v := .d (eS (p2 ++ ([1] : List UInt8)))) rfl rfl (fun X Y => b_str_add _ X Y p2 ([1] : List UInt8) hg489)) (sm rfl (s1 (bi (v := .d (eS (p2 ++ ([1] : List UInt8)))) rfl rfl (fun X Y => b_str_add _ X Y p2 ([1] : List UInt8) hg490)) ?_)))))))))
 refine c0 (pred_end_ok (p2 ++ ([1] : List UInt8)) _ hq491) wf rfl rfl rfl cb44 rfl (fun _ => rfl) (fun _ => rfl) (s1 (bld rfl (bd33_0_1 (p2 ++ ([1] : List UInt8)) r492)) (s1 (alo (k := 2) zo33 rfl) (s0 (sto rfl rfl (sB (d' := .d (eApiSpan (ApiSpan.mk (p2 ++ ([1] : List UInt8)) r492 false))) ts33 rfl rfl rfl rfl rfl rfl rfl)) (sn (SC.seqP h0 (fun y => ⟨mk 122 [(1, .d ((eL 6 ePredNode) p1)), (2, .d (eS p2)), (3, .ref 0 0 0), (6, .ref 1 0 0), (8, .ref 2 0 0)], [.box (.d (eApiPart p0)), .box (.d (eApiSpan (ApiSpan.mk ([] : List UInt8) ([] : List UInt8) false))), .box (.d (eApiSpan y))]⟩) ?_ ?_)))))
 ·intro u1_497 h1
  refine sr (s1 (far (k := 1) rfl fo52_1 ts4 rfl) (s1 (lod rfl (ld_box ts4 ta4 rfl rfl)) (sn (cB h1 rfl (fun h1 => ?_) (fun h1 => ?_)))))
  ·obtain ⟨hg498, h1⟩ := gd h1; obtain ⟨r500, hq499, h1⟩ := ob h1; have q := si h1; subst q
   exact SC.region (sm rfl (sm rfl (s1 (bi (v := .d (eS (p2 ++ ([254] : List UInt8)))) rfl rfl (fun X Y => b_str_add _ X Y p2 ([254] : List UInt8) hg498)) (c0 (pred_end_ok (p2 ++ ([254] : List UInt8)) _ hq499) wf rfl rfl rfl cb44 rfl (fun _ => rfl) (fun _ => rfl) (s1 (bld rfl (bd33_0_1 p2 r500)) (s0 (sto rfl rfl (sB (d' := .d (eApiSpan (ApiSpan.mk p2 r500 false))) ts33 rfl rfl rfl rfl rfl rfl rfl)) (SO.nil ((wq rfl)))))))))
  ·have q := si h1; subst q
   exact SC.skip ((wq rfl))
 ·rintro y496 h0
  refine sr (sa rfl (sn (SC.seqP h0 (fun y => ⟨mk 122 [(6, .ref 0 0 0), (8, .ref 1 0 0), (9, .d (eB y.1))], [.box (.d (eApiSpan (ApiSpan.mk ([] : List UInt8) ([] : List UInt8) false))), .box (.d (eApiSpan y.2))]⟩) ?_ ?_)))
  ·intro u1_617 h1
   obtain ⟨u2_695, h2, h1⟩ := ob h1
   refine sr (sm rfl (s1 (len rfl rfl rfl (len_lst un23)) (sm rfl (sn (SC.blk (SC.loopB h2 (fun y => ⟨mk 122 [(2, .d (eS p2)), (3, .ref 0 0 0), (6, .ref 1 0 0), (8, .ref 2 0 0), (9, .d (eB y.1)), (27, .d ((eL 6 ePredNode) p1)), (28, .d (eI (p1.length : Int))), (29, .d (eI y.2.1))], [.box (.d (eApiPart p0)), .box (.d (eApiSpan (ApiSpan.mk ([] : List UInt8) ([] : List UInt8) false))), .box (.d (eApiSpan y.2.2))]⟩) (wq rfl) ?_))))))
   intro n731
   rintro ⟨y653, y654, y655⟩ w2_694 h3 hv3
   refine sr (s1 (bi rfl rfl q_i64_lss) (sn (sq (cB h3 rfl (fun h3 => ?_) (fun h3 => ?_)))))
   ·refine sk (SC.seqP h3 (fun y => ⟨mk 122 [(2, .d (eS p2)), (3, .ref 0 0 0), (6, .ref 1 0 0), (8, .ref 2 0 0), (9, .d (eB y.1)), (27, .d ((eL 6 ePredNode) p1)), (28, .d (eI (p1.length : Int))), (29, .d (eI y654))], [.box (.d (eApiPart p0)), .box (.d (eApiSpan (ApiSpan.mk ([] : List UInt8) ([] : List UInt8) false))), .box (.d (eApiSpan y.2))]⟩) ?_ ?_)
    ·intro u4_714 h4
     obtain ⟨v715, hv715, h4⟩ := ob h4
     refine SC.blk (sr (s1 (ial rfl rfl un23 ts43 (getI_some hv715).1 (map_get (getI_some hv715).2) rfl) (s1 (lod (v := .d (ePredNode v715)) rfl (ld_rop ts43 ta43 rfl)) (s1 (alo (k := 3) zo43 rfl) (s0 (sto rfl rfl (sB (d' := .d (ePredNode v715)) ts43 rfl rfl rfl rfl rfl rfl rfl)) (sn (sq (SC.seqP h4 (fun y => ⟨mk 122 [(2, .d (eS p2)), (3, .ref 0 0 0), (6, .ref 1 0 0), (8, .ref 2 0 0), (9, .d (eB y653)), (11, .ref 3 0 0), (27, .d ((eL 6 ePredNode) p1)), (28, .d (eI (p1.length : Int))), (29, .d (eI y654)), (52, .d (eB y))], [.box (.d (eApiPart p0)), .box (.d (eApiSpan (ApiSpan.mk ([] : List UInt8) ([] : List UInt8) false))), .box (.d (eApiSpan y655)), .box (.d (ePredNode v715))]⟩) ?_ ?_))))))))
     ·intro u5_717 h5
      refine SC.region (s1 (far (k := 0) rfl fo43_0 ts3 rfl) (s1 (lod rfl (ld_box ts3 ta3 rfl rfl)) (s1 (bi rfl rfl q_i64_neq) (sm rfl (sp h5 (fun h5 => ?_) (fun h5 => ?_))))))
      ·have q := si h5; subst q
       refine kw rfl (kw rfl (kw rfl (kw rfl (kw rfl (s1 (pkt rfl rfl) (sm rfl (kw rfl (kw rfl (kw rfl ?_)))))))))
       exact s1 (pkt rfl rfl) (sm rfl (kw rfl (kw rfl (kw rfl (s1 (pkt rfl rfl) (SO.nil ((wq rfl))))))))
      ·refine gw rfl (far (k := 1) rfl fo43_1 ts3 rfl) (gw rfl (lod rfl (ld_box ts3 ta3 rfl rfl)) (gw rfl (far (k := 0) rfl fo52_0 ts3 rfl) (gw rfl (lod rfl (ld_box ts3 ta3 rfl rfl)) (gw rfl (bi rfl rfl q_i64_neq) (s1 (pkf rfl rfl) (sm rfl (sp h5 (fun h5 => ?_) (fun h5 => ?_))))))))
       ·have q := si h5; subst q
        refine kw rfl (kw rfl (kw rfl (s1 (pkt rfl rfl) (sm rfl (kw rfl (kw rfl (kw rfl (s1 (pkt rfl rfl) (SO.nil ?_)))))))))
        exact (wq rfl)
       ·refine gw rfl (far (k := 2) rfl fo43_2 ts3 rfl) (gw rfl (lod rfl (ld_box ts3 ta3 rfl rfl)) (gw rfl (bi rfl rfl q_i64_eql) (s1 (pkf rfl rfl) (sm rfl (sp h5 (fun h5 => ?_) (fun h5 => ?_))))))
        ·have q := si h5; subst q
         exact kw rfl (kw rfl (kw rfl (s1 (pkt rfl rfl) (SO.nil ((wq rfl))))))
        ·have q := si h5; subst q
         exact gw rfl (far (k := 2) rfl fo43_2 ts3 rfl) (gw rfl (lod rfl (ld_box ts3 ta3 rfl rfl)) (gw rfl (bi rfl rfl q_i64_eql) (s1 (pkf rfl rfl) (SO.nil ((wq rfl))))))
     ·rintro y716 h4
      refine cB h4 rfl (fun h4 => ?_) (fun h4 => ?_)
      ·have q := si h4; subst q
       exact SC.exit ((wc [0, 1, 2] [0, 1, 2] (by kernel_rfl) rfl (by kernel_rfl)))
      ·obtain ⟨r719, hq718, h4⟩ := ob h4; obtain ⟨hg720, h4⟩ := gd h4
       refine sk (sr (sa rfl (sn (sr (sm rfl (s1 (far (k := 3) rfl fo43_3 ts41 rfl) (s1 (lod (v := .d (eApiValue v715.Val)) rfl (ld_box ts41 ta41 rfl rfl)) (s1 (far (k := 1) rfl fo52_1 ts4 rfl) (s1 (lod rfl (ld_box ts4 ta4 rfl rfl)) ?_)))))))))
       refine c0 (pred_one_ok v715.Val p0.Down _ hq718) wf rfl rfl rfl cb28 rfl (fun _ => rfl) (fun _ => rfl) (s1 (bi (v := .d (eS (p2 ++ r719))) rfl rfl (fun X Y => b_str_add _ X Y p2 r719 hg720)) (sa rfl (sn (SC.seqP h4 (fun y => ⟨mk 122 [(2, .d (eS p2)), (3, .ref 0 0 0), (6, .ref 1 0 0), (8, .ref 2 0 0), (9, .d (eB true)), (11, .ref 3 0 0), (12, .d (eS (p2 ++ r719))), (13, .d (eB y)), (27, .d ((eL 6 ePredNode) p1)), (28, .d (eI (p1.length : Int))), (29, .d (eI y654))], [.box (.d (eApiPart p0)), .box (.d (eApiSpan (ApiSpan.mk ([] : List UInt8) ([] : List UInt8) false))), .box (.d (eApiSpan y655)), .box (.d (ePredNode v715))]⟩) ?_ ?_))))
       ·intro u5_722 h5
        refine SC.region (s1 (far (k := 2) rfl fo43_2 ts3 rfl) (s1 (lod rfl (ld_box ts3 ta3 rfl rfl)) (s1 (bi rfl rfl q_i64_eql) (sm rfl (sp h5 (fun h5 => ?_) (fun h5 => ?_))))))
        ·have q := si h5; subst q
         exact kw rfl (kw rfl (kw rfl (s1 (pkt rfl rfl) (sa rfl (SO.nil ((wq rfl)))))))
        ·have q := si h5; subst q
         exact gw rfl (far (k := 2) rfl fo43_2 ts3 rfl) (gw rfl (lod rfl (ld_box ts3 ta3 rfl rfl)) (gw rfl (bi rfl rfl q_i64_eql) (s1 (pkf rfl rfl) (sa rfl (SO.nil ((wq rfl)))))))
       ·rintro y721 h4
        refine SC.blk (SC.seqP h4 (fun y => ⟨mk 122 [(2, .d (eS p2)), (3, .ref 0 0 0), (6, .ref 1 0 0), (8, .ref 2 0 0), (9, .d (eB true)), (11, .ref 3 0 0), (12, .d (eS (p2 ++ r719))), (13, .d (eB y721)), (27, .d ((eL 6 ePredNode) p1)), (28, .d (eI (p1.length : Int))), (29, .d (eI y654)), (74, .d (eB y))], [.box (.d (eApiPart p0)), .box (.d (eApiSpan (ApiSpan.mk ([] : List UInt8) ([] : List UInt8) false))), .box (.d (eApiSpan y655)), .box (.d (ePredNode v715))]⟩) ?_ ?_)
        ·intro u5_724 h5
         refine SC.region (sm rfl (s1 (far (k := 1) rfl fo52_1 ts4 rfl) (s1 (lod rfl (ld_box ts4 ta4 rfl rfl)) (s1 (bi (v := .d (eB (y721 == p0.Down))) rfl rfl (fun X Y => b_bool_eql un4 X Y y721 p0.Down)) (sm rfl (sp h5 (fun h5 => ?_) (fun h5 => ?_)))))))
         ·refine gw rfl (far (k := 2) rfl fo43_2 ts3 rfl) (gw rfl (lod rfl (ld_box ts3 ta3 rfl rfl)) (gw rfl (bi rfl rfl q_i64_eql) (gw rfl (mv rfl) (sp h5 (fun h5 => ?_) (fun h5 => ?_)))))
          ·have q := si h5; subst q
           exact kw rfl (kw rfl (kw rfl (gw rfl (pkt rfl rfl) (s1 (pkt rfl rfl) (sa rfl (SO.nil ((wq rfl))))))))
          ·have q := si h5; subst q
           exact gw rfl (far (k := 2) rfl fo43_2 ts3 rfl) (gw rfl (lod rfl (ld_box ts3 ta3 rfl rfl)) (gw rfl (bi rfl rfl q_i64_eql) (gw rfl (pkf rfl rfl) (s1 (pkt rfl rfl) (sa rfl (SO.nil ((wq rfl))))))))
         ·have q := si h5; subst q
          refine kw rfl (kw rfl (kw rfl (kw rfl (kw rfl (kw rfl (kw rfl (kw rfl (s1 (pkf rfl rfl) (sa rfl ?_)))))))))
          exact SO.nil ((wq rfl))
        ·rintro y723 h4
         refine cB h4 rfl (fun h4 => ?_) (fun h4 => ?_)
         ·obtain ⟨r726, hq725, h4⟩ := ob h4; have q := si h4; subst q
          refine SC.draws (by kernel_rfl) (t1 ([], false) (far (k := 1) rfl fo33_1 ts9 rfl) rfl (t1 ([2], false) (lod rfl (ld_box ts9 ta9 rfl rfl)) rfl (t1 ([], false) (mv rfl) rfl (tc0 (pred_end_ok (p2 ++ r719) _ hq725) wf rfl rfl rfl cb44 rfl (fun _ => rfl) (fun _ => rfl) (t1 ([], true) (mno (v := .d (eS (minS y655.Hi r726))) rfl rfl rfl (by_min_str un9 y655.Hi r726)) rfl (t1 ([], false) (far (k := 1) rfl fo33_1 ts9 rfl) rfl (t0 ([2], true) (sto rfl rfl (sB (d' := .d (eApiSpan (ApiSpan.mk y655.Lo (minS y655.Hi r726) y655.Open))) ts9 rfl rfl rfl rfl rfl rfl rfl)) rfl (ST.nil (And.intro (by decide +kernel) ?_)))))))))
          exact (wc [0, 1, 2] [0, 1, 2] (by kernel_rfl) rfl (by kernel_rfl))
         ·refine sr (sm rfl (s1 (far (k := 1) rfl fo52_1 ts4 rfl) (s1 (lod rfl (ld_box ts4 ta4 rfl rfl)) (s1 (bi (v := .d (eB (y721 == p0.Down))) rfl rfl (fun X Y => b_bool_eql un4 X Y y721 p0.Down)) (sa rfl (sn (cB h4 rfl (fun h4 => ?_) (fun h4 => ?_))))))))
          ·have q := si h4; subst q
           exact SC.region (s1 (far (k := 1) rfl fo33_1 ts9 rfl) (s1 (lod rfl (ld_box ts9 ta9 rfl rfl)) (sm rfl (s1 (mno (v := .d (eS (minS y655.Hi (p2 ++ r719)))) rfl rfl rfl (by_min_str un9 y655.Hi (p2 ++ r719))) (s1 (far (k := 1) rfl fo33_1 ts9 rfl) (s0 (sto rfl rfl (sB (d' := .d (eApiSpan (ApiSpan.mk y655.Lo (minS y655.Hi (p2 ++ r719)) y655.Open))) ts9 rfl rfl rfl rfl rfl rfl rfl)) (SO.nil ((wc [0, 1, 2] [0, 1, 2] (by kernel_rfl) rfl (by kernel_rfl))))))))))
          ·refine SC.seqP h4 (fun y => ⟨mk 122 [(2, .d (eS p2)), (3, .ref 0 0 0), (6, .ref 1 0 0), (8, .ref 2 0 0), (9, .d (eB true)), (12, .d (eS (p2 ++ r719))), (27, .d ((eL 6 ePredNode) p1)), (28, .d (eI (p1.length : Int))), (29, .d (eI y654)), (105, .d (eB y))], [.box (.d (eApiPart p0)), .box (.d (eApiSpan (ApiSpan.mk ([] : List UInt8) ([] : List UInt8) false))), .box (.d (eApiSpan y655))]⟩) ?_ ?_
           ·intro u5_728 h5
            refine SC.region (s1 (far (k := 2) rfl fo43_2 ts3 rfl) (s1 (lod rfl (ld_box ts3 ta3 rfl rfl)) (s1 (bi rfl rfl q_i64_eql) (sm rfl (sp h5 (fun h5 => ?_) (fun h5 => ?_))))))
            ·have q := si h5; subst q
             exact kw rfl (kw rfl (kw rfl (s1 (pkt rfl rfl) (sa rfl (SO.nil ((wc [0, 1, 2] [0, 1, 2] (by kernel_rfl) rfl (by kernel_rfl))))))))
            ·have q := si h5; subst q
             exact gw rfl (far (k := 2) rfl fo43_2 ts3 rfl) (gw rfl (lod rfl (ld_box ts3 ta3 rfl rfl)) (gw rfl (bi rfl rfl q_i64_eql) (s1 (pkf rfl rfl) (sa rfl (SO.nil ((wc [0, 1, 2] [0, 1, 2] (by kernel_rfl) rfl (by kernel_rfl))))))))
           ·rintro y727 h4
            refine cB h4 rfl (fun h4 => ?_) (fun h4 => ?_)
            ·have q := si h4; subst q
             exact SC.region (s1 (far (k := 0) rfl fo33_0 ts9 rfl) (s1 (lod rfl (ld_box ts9 ta9 rfl rfl)) (sm rfl (s1 (mxo (v := .d (eS (maxS y655.Lo (p2 ++ r719)))) rfl rfl rfl (by_max_str un9 y655.Lo (p2 ++ r719))) (s1 (far (k := 0) rfl fo33_0 ts9 rfl) (s0 (sto rfl rfl (sB (d' := .d (eApiSpan (ApiSpan.mk (maxS y655.Lo (p2 ++ r719)) y655.Hi y655.Open))) ts9 rfl rfl rfl rfl rfl rfl rfl)) (SO.nil ((wq rfl)))))))))
            ·obtain ⟨r730, hq729, h4⟩ := ob h4; have q := si h4; subst q
             refine SC.draws (by kernel_rfl) (t1 ([], false) (far (k := 0) rfl fo33_0 ts9 rfl) rfl (t1 ([2], false) (lod rfl (ld_box ts9 ta9 rfl rfl)) rfl (t1 ([], false) (mv rfl) rfl (tc0 (pred_end_ok (p2 ++ r719) _ hq729) wf rfl rfl rfl cb44 rfl (fun _ => rfl) (fun _ => rfl) (t1 ([], true) (mxo (v := .d (eS (maxS y655.Lo r730))) rfl rfl rfl (by_max_str un9 y655.Lo r730)) rfl (t1 ([], false) (far (k := 0) rfl fo33_0 ts9 rfl) rfl (t0 ([2], true) (sto rfl rfl (sB (d' := .d (eApiSpan (ApiSpan.mk (maxS y655.Lo r730) y655.Hi y655.Open))) ts9 rfl rfl rfl rfl rfl rfl rfl)) rfl (ST.nil (And.intro (by decide +kernel) ?_)))))))))
             exact (wq rfl)
    ·rintro ⟨y712, y713⟩ h3
     have q := si h3; subst q
     exact SC.region (s1 (bi rfl rfl q_i64_add) (sm rfl (SO.nil (lf (wq rfl)))))
   ·have q := si h3; subst q; have q : _ = _ := hv3; subst q; have q := si h1; subst q
    exact SC.exit ((wc [1, 2] [1, 2] (by kernel_rfl) rfl (by kernel_rfl)))
  ·rintro ⟨y615, y616⟩ h0
   have q := si h0; subst q
   exact sr (s1 (lod (v := .d (eApiSpan y616)) rfl (ld_box ts33 ta33 rfl rfl)) (sm rfl (s0 (sto rfl rfl (sB (d' := .d (eApiSpan y616)) ts33 rfl rfl rfl rfl rfl rfl rfl)) (sa rfl (sn (SC.ret (finR (wc (e' := [(6, .ref 0 0 0), (7, .d (eB y615))]) [0] [0] (by kernel_rfl) rfl (by kernel_rfl)) (lresC rfl (ld_box ts33 ta33 rfl rfl) (lresT rfl lresN)) rfl)))))))
noncomputable def key_Under (p0 : List UInt8) : Option ApiSpan :=
 Option.bind (key_After p0) fun (r9, r10) =>
 some (ApiSpan.mk p0 r9 (!r10))
theorem key_Under_ok (p0 : List UInt8) (r : ApiSpan) (h0 : key_Under p0 = some r) : CallAt Tryz.prog 30 [.d (eS p0)] [] (.d (eApiSpan r)) [.box (.d (eApiSpan r))] := by
 unfold key_Under at h0
 refine fn0 [0] Tryz.func30 rfl rfl rfl rfl rfl ?_
 obtain ⟨⟨r9, r10⟩, hq8, h0⟩ := ob h0; have q := si h0; subst q
 refine sr (s1 (alo (k := 0) zo33 rfl) (sn (sr (sm rfl (c0 (key_After_ok p0 _ hq8) wf rfl rfl rfl cb45 rfl (fun _ => rfl) (fun _ => rfl) (sm rfl (s1 (ext rfl rfl) (s1 (ext rfl rfl) (sa rfl ?_)))))))))
 refine sa rfl (sn (sr (sm rfl (sm rfl (sm rfl (s1 (nt rfl) (s1 (bld rfl (bd33_0_1_2 p0 r9 (!r10))) (s0 (sto rfl rfl (sB (d' := .d (eApiSpan (ApiSpan.mk p0 r9 (!r10)))) ts33 rfl rfl rfl rfl rfl rfl rfl)) (sn ?_)))))))))
 exact SC.ret (finR (Wk.refl _) (lresC rfl (ld_box ts33 ta33 rfl rfl) lresN) rfl)
noncomputable def pred_Bounds (p0 : List ApiPart) (p1 : List PredNode) : Option (Int × Bool × ApiSpan) :=
 Option.bind (pred_conjuncts 1000 p1 (w64 ((p1.length : Int) - (1 : Int))) true) fun (r151, r152) =>
 Option.bind (α := (List UInt8) × Int)
 (Option.bind (α := (List UInt8) × Int)
 (loop (Y := (List UInt8) × Int) (W := (List UInt8) × Int) (fun (y191, y192) =>
 bif (decide (y192 < (p0.length : Int))) then
 Option.bind (getI p0 y192) fun v204 =>
 Option.bind (slices_IndexFunc_pred_Node_pred_Node r151 v204) fun r206 =>
 bif (decide (r206 < (0 : Int))) then
 some (Sum.inr (y191, y192))
 else
 Option.bind (getI r151 r206) fun v207 =>
 Option.bind (pred_one v207.Val v204.Down) fun r209 =>
 bif decide (y191.length + r209.length ≤ 9223372036854775807) then
 some (Sum.inl ((y191 ++ r209), (w64 (y192 + (1 : Int)))))
 else none
 else
 some (Sum.inr (y191, y192))) (([] : List UInt8), (0 : Int)))
 (fun e => some e))
 fun (y181, y182) =>
 bindE (Y := Unit) (E := Int × Bool × ApiSpan)
 (bif (decide (y182 < (p0.length : Int))) then
 Option.bind (getI p0 y182) fun v217 =>
 Option.bind (pred_bounded v217 r151 y181) fun (r219, r220) =>
 bif r219 then
 some (Sum.inr (y182, true, r220))
 else
 some (Sum.inl ())
 else
 some (Sum.inl ()))
 (fun _ =>
 Option.bind (key_Under y181) fun r222 =>
 some (y182, false, r222))
 (fun e => some e)
theorem pred_Bounds_ok (p0 : List ApiPart) (p1 : List PredNode) (r : Int × Bool × ApiSpan) (h0 : pred_Bounds p0 p1 = some r) : CallAt Tryz.prog 12 [.d ((eL 2 eApiPart) p0), .d ((eL 6 ePredNode) p1)] [] (.tuple [.d (eApiSpan r.2.2), .d (eI r.1), .d (eB r.2.1)]) [.box (.d (eApiSpan r.2.2))] := by
 unfold pred_Bounds at h0
 refine fn0 [0, 1] Tryz.func12 rfl rfl rfl rfl rfl ?_
 obtain ⟨⟨r151, r152⟩, hq150, h0⟩ := ob h0
 refine sr (s1 (alo (k := 0) zo33 rfl) (sa rfl (sa rfl (sn (sr (sm rfl (sm rfl (s1 (len rfl rfl rfl (len_lst un23)) (s1 (bi rfl rfl q_i64_sub) ?_)))))))))
 refine cq [] [1] (pred_conjuncts_ok 1000 p1 (w64 ((p1.length : Int) - (1 : Int))) true _ hq150) wf rfl rfl rfl cb24 rfl rfl rfl rfl rfl rfl rfl rfl (sm rfl (s1 (ext rfl rfl) (s1 (ext rfl rfl) (sa rfl (sa rfl (sn (sr (s1 (asg (v := .d (eS ([] : List UInt8))) rfl) (sa rfl ?_)))))))))
 refine sn (SC.seqP h0 (fun y => ⟨mk 68 [(0, .d ((eL 2 eApiPart) p0)), (4, .ref 0 0 0), (7, .slc 1 6 0 r151.length none), (9, .d (eS y.1)), (10, .d (eI y.2))], [.box (.d (eApiSpan (ApiSpan.mk ([] : List UInt8) ([] : List UInt8) false))), .row 6 (List.map ePredNode r151) false]⟩) ?_ ?_)
 ·intro u1_183 h1
  obtain ⟨u2_203, h2, h1⟩ := ob h1
  refine SC.blk (SC.loopB h2 (fun y => ⟨mk 68 [(0, .d ((eL 2 eApiPart) p0)), (4, .ref 0 0 0), (7, .slc 1 6 0 r151.length none), (9, .d (eS y.1)), (10, .d (eI y.2))], [.box (.d (eApiSpan (ApiSpan.mk ([] : List UInt8) ([] : List UInt8) false))), .row 6 (List.map ePredNode r151) false]⟩) (Wk.trans (wq (e' := [(0, .d ((eL 2 eApiPart) p0)), (4, .ref 0 0 0), (7, .slc 1 6 0 r151.length none), (9, .d (eS ([] : List UInt8))), (10, .d (eI (0 : Int)))]) rfl) (fro 1 rfl rfl)) ?_)
  intro n211
  rintro ⟨y191, y192⟩ w2_202 h3 hv3
  refine sq (sr (sm rfl (sm rfl (s1 (len rfl rfl rfl (len_lst un25)) (s1 (bi rfl rfl q_i64_lss) (sn (cB h3 rfl (fun h3 => ?_) (fun h3 => ?_))))))))
  ·obtain ⟨v204, hv204, h3⟩ := ob h3; obtain ⟨r206, hq205, h3⟩ := ob h3
   refine sk (SC.blk (sr (sm rfl (sm rfl (s1 (ial rfl rfl un25 ts52 (getI_some hv204).1 (map_get (getI_some hv204).2) rfl) (s1 (lod (v := .d (eApiPart v204)) rfl (ld_rop ts52 ta52 rfl)) (s1 (alo (k := 2) zo52 rfl) (s0 (sto rfl rfl (sB (d' := .d (eApiPart v204)) ts52 rfl rfl rfl rfl rfl rfl rfl)) (sn ?_)))))))))
   refine sr (sm rfl (s1 (mkf rfl rfl) (cq (args' := [.slc 0 6 0 r151.length none, .fn (.func 26) [] [.ref 1 0 0]]) (σc := [.row 6 (List.map ePredNode r151) false, .box (.d (eApiPart v204))]) [1, 2] [] (CallAt.frz (ArgF.frz (fF rfl rfl rfl) (ArgF.keep (ArgF.nil _))) (fq [1] [] (slices_IndexFunc_pred_Node_pred_Node_ok r151 v204 _ hq205) rfl rfl rfl rfl rfl rfl rfl rfl)) wf rfl rfl rfl cb25 rfl rfl rfl rfl rfl rfl rfl rfl (sa rfl (sn (sq (sr (sm rfl (s1 (bi rfl rfl q_i64_lss) ?_)))))))))
   refine sn (cB h3 rfl (fun h3 => ?_) (fun h3 => ?_))
   ·have q := si h3; subst q; have q : _ = _ := hv3; subst q; have q := si h1; subst q
    exact SC.exit ((wc [0, 1] [0, 1] (by kernel_rfl) rfl (by kernel_rfl)))
   ·obtain ⟨v207, hv207, h3⟩ := ob h3; obtain ⟨r209, hq208, h3⟩ := ob h3; obtain ⟨hg210, h3⟩ := gd h3; have q := si h3; subst q
    refine sk (sd (by kernel_rfl) (t1 ([], false) (mv rfl) rfl (t1 ([], false) (mv rfl) rfl (t1 ([], false) (mv rfl) rfl (t1 ([], false) (iaz rfl rfl un23 ts43 (getI_lt hv207)) rfl (t1 ([], false) (far (k := 3) rfl fo43_3 ts41 rfl) rfl (t1 ([1], false) (lod (v := .d (eApiValue v207.Val)) rfl (ld_row ts41 ta41 rfl (map_get (getI_some hv207).2) rfl)) rfl (t1 ([], false) (far (k := 1) rfl fo52_1 ts4 rfl) rfl (t1 ([2], false) (lod rfl (ld_box ts4 ta4 rfl rfl)) rfl ?_)))))))))
    exact tc0 (pred_one_ok v207.Val v204.Down _ hq208) wf rfl rfl rfl cb28 rfl (fun _ => rfl) (fun _ => rfl) (t1 ([], false) (bi (v := .d (eS (y191 ++ r209))) rfl rfl (fun X Y => b_str_add _ X Y y191 r209 hg210)) rfl (t1 ([], false) (asg rfl) rfl (tn (by decide +kernel) (SC.region (sm rfl (s1 (bi rfl rfl q_i64_add) (sa rfl (SO.nil (lf (wc [0, 1] [0, 1] (by kernel_rfl) rfl (by kernel_rfl)))))))))))
  ·have q := si h3; subst q; have q : _ = _ := hv3; subst q; have q := si h1; subst q
   exact SC.exit ((wq rfl))
 ·rintro ⟨y181, y182⟩ h0
  refine SC.seqB h0 (fun y => ⟨mk 68 [(4, .ref 0 0 0), (9, .d (eS y181)), (10, .d (eI y182))], [.box (.d (eApiSpan (ApiSpan.mk ([] : List UInt8) ([] : List UInt8) false)))]⟩) ?_ ?_
  ·intro u1_216 h1 h0
   refine sr (sm rfl (sm rfl (s1 (len rfl rfl rfl (len_lst un25)) (s1 (bi rfl rfl q_i64_lss) (sn (cB h1 rfl (fun h1 => ?_) (fun h1 => ?_)))))))
   ·obtain ⟨v217, hv217, h1⟩ := ob h1; obtain ⟨⟨r219, r220⟩, hq218, h1⟩ := ob h1
    refine sr (sm rfl (sm rfl (s1 (ial rfl rfl un25 ts52 (getI_some hv217).1 (map_get (getI_some hv217).2) rfl) (s1 (lod (v := .d (eApiPart v217)) rfl (ld_rop ts52 ta52 rfl)) (sm rfl (sm rfl (cq (args' := [.d (eApiPart v217), .slc 0 6 0 r151.length none, .d (eS y181)]) (σc := [.row 6 (List.map ePredNode r151) false]) [1] [2] (CallAt.frz (ArgF.keep (ArgF.frz (fF rfl rfl rfl) (ArgF.keep (ArgF.nil _)))) (fq [] [1] (pred_bounded_ok v217 r151 y181 _ hq218) rfl rfl rfl rfl rfl rfl rfl rfl)) wf rfl rfl rfl cb29 rfl rfl rfl rfl rfl rfl rfl rfl (sm rfl (s1 (ext rfl rfl) ?_)))))))))
    refine s1 (ext rfl rfl) (s1 (alo (k := 3) zo33 rfl) (s0 (sto rfl rfl (sB (d' := .d (eApiSpan r220)) ts33 rfl rfl rfl rfl rfl rfl rfl)) (sa rfl (sn (sr (sm rfl (sn (cB h1 rfl (fun h1 => ?_) (fun h1 => ?_)))))))))
    ·have q := si h1; subst q; have q := si h0; subst q
     exact sr (s1 (lod (v := .d (eApiSpan r220)) rfl (ld_box ts33 ta33 rfl rfl)) (sm rfl (s0 (sto rfl rfl (sB (d' := .d (eApiSpan r220)) ts33 rfl rfl rfl rfl rfl rfl rfl)) (sa rfl (sa rfl (sn (SC.ret (finR (wc (e' := [(4, .ref 0 0 0), (5, .d (eI y182)), (6, .d (eB true))]) [0] [0] (by kernel_rfl) rfl (by kernel_rfl)) (lresC rfl (ld_box ts33 ta33 rfl rfl) (lresT rfl (lresT rfl lresN))) rfl))))))))
    ·have q := si h1; subst q
     exact SC.skip (lf (wc [0] [0] (by kernel_rfl) rfl (by kernel_rfl)))
   ·have q := si h1; subst q
    exact SC.skip (lf (wc [0] [0] (by kernel_rfl) rfl (by kernel_rfl)))
  ·intro _ h0
   obtain ⟨r222, hq221, h0⟩ := ob h0; have q := si h0; subst q
   exact sr (sm rfl (cq [] [1] (key_Under_ok y181 _ hq221) wf rfl rfl rfl cb30 rfl rfl rfl rfl rfl rfl rfl rfl (sm rfl (s0 (sto rfl rfl (sB (d' := .d (eApiSpan r222)) ts33 rfl rfl rfl rfl rfl rfl rfl)) (sa rfl (sa rfl (sn (SC.ret (finR (wc (e' := [(4, .ref 0 0 0), (5, .d (eI y182)), (6, .d (eB false))]) [0] [0] (by kernel_rfl) rfl (by kernel_rfl)) (lresC rfl (ld_box ts33 ta33 rfl rfl) (lresT rfl (lresT rfl lresN))) rfl)))))))))
noncomputable def pred_Node_form (p0 : PredNode) (p1 : Int) : Option Bool :=
 bif (p0.Kind == (2 : Int)) then
 Option.bind (α := Bool)
 (bif (decide (p0.Col ≥ (0 : Int))) then
 bif (decide (p0.Col < p1)) then
 bif (decide (p0.Op ≥ (1 : Int))) then
 some (decide (p0.Op ≤ (6 : Int)))
 else
 some false
 else
 some false
 else
 some false)
 fun y14 =>
 some y14
 else
 bif (p0.Kind == (3 : Int)) then
 Option.bind (α := Bool)
 (bif (decide (p0.Col ≥ (0 : Int))) then
 bif (decide (p0.Col < p1)) then
 bif (p0.Op == (0 : Int)) then
 some (eqApiValue p0.Val (ApiValue.mk (0 : Int) (0 : UInt64) ([] : List UInt8)))
 else
 some false
 else
 some false
 else
 some false)
 fun y16 =>
 some y16
 else
 Option.bind (α := Bool)
 (bif (p0.Kind == (1 : Int)) then
 some (p0.Kind == (1 : Int))
 else
 bif (p0.Kind == (4 : Int)) then
 some (p0.Kind == (4 : Int))
 else
 bif (p0.Kind == (5 : Int)) then
 some (p0.Kind == (5 : Int))
 else
 some (p0.Kind == (6 : Int)))
 fun y18 =>
 bif y18 then
 some (eqPredNode p0 (PredNode.mk p0.Kind (0 : Int) (0 : Int) (ApiValue.mk (0 : Int) (0 : UInt64) ([] : List UInt8))))
 else
 some false
theorem pred_Node_form_ok (p0 : PredNode) (p1 : Int) (r : Bool) (h0 : pred_Node_form p0 p1 = some r) : CallAt Tryz.prog 17 [.d (ePredNode p0), .d (eI p1)] [] (.d (eB r)) [] := by
 unfold pred_Node_form at h0
 refine fn0 [0, 1] Tryz.func17 rfl rfl rfl rfl rfl ?_
 refine sr (s1 (bxo (k := 0) rfl rfl rfl) (sa rfl (sn (sq (sr (s1 (far (k := 0) rfl fo43_0 ts3 rfl) (s1 (lod rfl (ld_box ts3 ta3 rfl rfl)) (sn (SC.blk ?_)))))))))
 refine sr (s1 (bi rfl rfl q_i64_eql) (sa rfl (sn (cB h0 rfl (fun h0 => ?_) (fun h0 => ?_)))))
 ·refine SC.seqP h0 (fun y => ⟨mk 60 [(4, .d (eB y))], []⟩) ?_ ?_
  ·intro u1_15 h1
   refine SC.region (s1 (far (k := 1) rfl fo43_1 ts3 rfl) (s1 (lod rfl (ld_box ts3 ta3 rfl rfl)) (s1 (bi rfl rfl q_i64_geq) (sm rfl (sp h1 (fun h1 => ?_) (fun h1 => ?_))))))
   ·refine gw rfl (far (k := 1) rfl fo43_1 ts3 rfl) (gw rfl (lod rfl (ld_box ts3 ta3 rfl rfl)) (gw rfl (mv rfl) (gw rfl (bi rfl rfl q_i64_lss) (s1 (pkt rfl rfl) (sm rfl (sp h1 (fun h1 => ?_) (fun h1 => ?_)))))))
    ·refine gw rfl (far (k := 2) rfl fo43_2 ts3 rfl) (gw rfl (lod rfl (ld_box ts3 ta3 rfl rfl)) (gw rfl (bi rfl rfl q_i64_geq) (s1 (pkt rfl rfl) (sm rfl (sp h1 (fun h1 => ?_) (fun h1 => ?_))))))
     ·have q := si h1; subst q
      exact gw rfl (far (k := 2) rfl fo43_2 ts3 rfl) (gw rfl (lod rfl (ld_box ts3 ta3 rfl rfl)) (gw rfl (bi rfl rfl q_i64_leq) (s1 (pkt rfl rfl) (sa rfl (SO.nil ((wc [] [] (by kernel_rfl) rfl (by kernel_rfl))))))))
     ·have q := si h1; subst q
      exact kw rfl (kw rfl (kw rfl (s1 (pkf rfl rfl) (sa rfl (SO.nil ((wc [] [] (by kernel_rfl) rfl (by kernel_rfl))))))))
    ·have q := si h1; subst q
     refine kw rfl (kw rfl (kw rfl (s1 (pkf rfl rfl) (sm rfl (kw rfl (kw rfl (kw rfl (s1 (pkf rfl rfl) (sa rfl ?_)))))))))
     exact SO.nil ((wc [] [] (by kernel_rfl) rfl (by kernel_rfl)))
   ·have q := si h1; subst q
    refine kw rfl (kw rfl (kw rfl (kw rfl (s1 (pkf rfl rfl) (sm rfl (kw rfl (kw rfl (kw rfl (s1 (pkf rfl rfl) ?_)))))))))
    exact sm rfl (kw rfl (kw rfl (kw rfl (s1 (pkf rfl rfl) (sa rfl (SO.nil ((wc [] [] (by kernel_rfl) rfl (by kernel_rfl)))))))))
  ·rintro y14 h0
   have q := si h0; subst q
   exact SC.ret (finR (Wk.refl _) (lresT rfl lresN) rfl)
 ·refine sr (s1 (bi rfl rfl q_i64_eql) (sa rfl (sn (cB h0 rfl (fun h0 => ?_) (fun h0 => ?_)))))
  ·refine SC.seqP h0 (fun y => ⟨mk 60 [(4, .d (eB y))], []⟩) ?_ ?_
   ·intro u1_17 h1
    refine SC.region (s1 (far (k := 1) rfl fo43_1 ts3 rfl) (s1 (lod rfl (ld_box ts3 ta3 rfl rfl)) (s1 (bi rfl rfl q_i64_geq) (sm rfl (sp h1 (fun h1 => ?_) (fun h1 => ?_))))))
    ·refine gw rfl (far (k := 1) rfl fo43_1 ts3 rfl) (gw rfl (lod rfl (ld_box ts3 ta3 rfl rfl)) (gw rfl (mv rfl) (gw rfl (bi rfl rfl q_i64_lss) (s1 (pkt rfl rfl) (sm rfl (sp h1 (fun h1 => ?_) (fun h1 => ?_)))))))
     ·refine gw rfl (far (k := 2) rfl fo43_2 ts3 rfl) (gw rfl (lod rfl (ld_box ts3 ta3 rfl rfl)) (gw rfl (bi rfl rfl q_i64_eql) (s1 (pkt rfl rfl) (sm rfl (sp h1 (fun h1 => ?_) (fun h1 => ?_))))))
      ·have q := si h1; subst q
       exact gw rfl (far (k := 3) rfl fo43_3 ts41 rfl) (gw rfl (lod (v := .d (eApiValue p0.Val)) rfl (ld_box ts41 ta41 rfl rfl)) (gw rfl (bld rfl (bd41_ )) (gw rfl (bi (v := .d (eB (eqApiValue p0.Val (ApiValue.mk (0 : Int) (0 : UInt64) ([] : List UInt8))))) rfl rfl (fun X Y => eqApiValue_eql_41 X Y p0.Val (ApiValue.mk (0 : Int) (0 : UInt64) ([] : List UInt8)))) (s1 (pkt rfl rfl) (sa rfl (SO.nil ((wc [] [] (by kernel_rfl) rfl (by kernel_rfl)))))))))
      ·have q := si h1; subst q
       exact kw rfl (kw rfl (kw rfl (kw rfl (s1 (pkf rfl rfl) (sa rfl (SO.nil ((wc [] [] (by kernel_rfl) rfl (by kernel_rfl)))))))))
     ·have q := si h1; subst q
      refine kw rfl (kw rfl (kw rfl (s1 (pkf rfl rfl) (sm rfl (kw rfl (kw rfl (kw rfl (kw rfl (s1 (pkf rfl rfl) ?_)))))))))
      exact sa rfl (SO.nil ((wc [] [] (by kernel_rfl) rfl (by kernel_rfl))))
    ·have q := si h1; subst q
     refine kw rfl (kw rfl (kw rfl (kw rfl (s1 (pkf rfl rfl) (sm rfl (kw rfl (kw rfl (kw rfl (s1 (pkf rfl rfl) ?_)))))))))
     exact sm rfl (kw rfl (kw rfl (kw rfl (kw rfl (s1 (pkf rfl rfl) (sa rfl (SO.nil ((wc [] [] (by kernel_rfl) rfl (by kernel_rfl))))))))))
   ·rintro y16 h0
    have q := si h0; subst q
    exact SC.ret (finR (Wk.refl _) (lresT rfl lresN) rfl)
  ·refine SC.seqP h0 (fun y => ⟨mk 60 [(2, .ref 0 0 0), (50, .d (eB y))], [.box (.d (ePredNode p0))]⟩) ?_ ?_
   ·intro u1_19 h1
    refine sr (s1 (bi rfl rfl q_i64_eql) (sa rfl (sn (cB h1 rfl (fun h1 => ?_) (fun h1 => ?_)))))
    ·have q := si h1; subst q
     exact SC.skip ((wq rfl))
    ·refine sr (s1 (bi rfl rfl q_i64_eql) (sa rfl (sn (cB h1 rfl (fun h1 => ?_) (fun h1 => ?_)))))
     ·have q := si h1; subst q
      exact SC.skip ((wq rfl))
     ·refine sr (s1 (bi rfl rfl q_i64_eql) (sa rfl (sn (cB h1 rfl (fun h1 => ?_) (fun h1 => ?_)))))
      ·have q := si h1; subst q
       exact SC.skip ((wq rfl))
      ·have q := si h1; subst q
       exact SC.region (s1 (bi rfl rfl q_i64_eql) (sa rfl (SO.nil ((wq rfl)))))
   ·rintro y18 h0
    refine cB h0 rfl (fun h0 => ?_) (fun h0 => ?_)
    ·have q := si h0; subst q
     exact sr (s1 (lod (v := .d (ePredNode p0)) rfl (ld_box ts43 ta43 rfl rfl)) (s1 (far (k := 0) rfl fo43_0 ts3 rfl) (s1 (lod rfl (ld_box ts3 ta3 rfl rfl)) (s1 (bld rfl (bd43_0 p0.Kind)) (s1 (bi (v := .d (eB (eqPredNode p0 (PredNode.mk p0.Kind (0 : Int) (0 : Int) (ApiValue.mk (0 : Int) (0 : UInt64) ([] : List UInt8)))))) rfl rfl (fun X Y => eqPredNode_eql_43 X Y p0 (PredNode.mk p0.Kind (0 : Int) (0 : Int) (ApiValue.mk (0 : Int) (0 : UInt64) ([] : List UInt8))))) (sa rfl (sn (SC.ret (finR (wc (e' := [(4, .d (eB (eqPredNode p0 (PredNode.mk p0.Kind (0 : Int) (0 : Int) (ApiValue.mk (0 : Int) (0 : UInt64) ([] : List UInt8))))))]) [] [] (by kernel_rfl) rfl (by kernel_rfl)) (lresT rfl lresN) rfl)))))))))
    ·refine SC.skip ?_
     change SC _ _ _ _ _
     have q := si h0; subst q
     exact sr (sa rfl (sn (SC.ret (finR (wc (e' := [(4, .d (eB false))]) [] [] (by kernel_rfl) rfl (by kernel_rfl)) (lresT rfl lresN) rfl))))
noncomputable def pred_Check (p0 : List ApiColumn) (p1 : List PredNode) : Option Int :=
 bif (decide ((p1.length : Int) > (200 : Int))) then
 some (7 : Int)
 else
 bindE (Y := (List Int)) (E := Int)
 (Option.bind (α := ((List Int)) ⊕ Int)
 (loop (Y := (List Int) × Int) (W := ((List Int)) ⊕ Int) (fun (y1287, y1288) =>
 bif (decide (y1288 < (p1.length : Int))) then
 bindE (Y := (List Int)) (E := Int)
 (Option.bind (getI p1 y1288) fun v1429 =>
 Option.bind (pred_Node_takes v1429) fun r1431 =>
 Option.bind (α := Bool)
 (Option.bind (pred_Node_form v1429 (p0.length : Int)) fun r1437 =>
 bif (!r1437) then
 some true
 else
 some (decide ((w64 ((y1287.length : Int) - r1431)) < (0 : Int))))
 fun y1434 =>
 bif y1434 then
 some (Sum.inr (1 : Int))
 else
 Option.bind (α := Bool)
 (bif (v1429.Kind == (2 : Int)) then
 Option.bind (value_Valid v1429.Val) fun r1444 =>
 bif (!r1444) then
 some true
 else
 bif (v1429.Val.Kind == (0 : Int)) then
 some true
 else
 Option.bind (getI p0 v1429.Col) fun v1445 =>
 some (v1429.Val.Kind != v1445.Kind)
 else
 some false)
 fun y1441 =>
 bif y1441 then
 some (Sum.inr (8 : Int))
 else
 Option.bind (α := Int)
 (bif decide (0 ≤ (w64 ((y1287.length : Int) - r1431)) ∧ (w64 ((y1287.length : Int) - r1431)) ≤ (y1287.length : Int)) then
 Option.bind (α := Int)
 (loop (Y := Int × Int) (W := Int) (fun (y1461, y1462) =>
 bif (decide (y1462 < ((y1287.length - (w64 ((y1287.length : Int) - r1431)).toNat : Nat) : Int))) then
 Option.bind (getS y1287 (0 + (w64 ((y1287.length : Int) - r1431)).toNat) (y1287.length - (w64 ((y1287.length : Int) - r1431)).toNat) y1462) fun v1468 =>
 some (Sum.inl ((max y1461 v1468), (w64 (y1462 + (1 : Int)))))
 else
 some (Sum.inr y1461)) ((0 : Int), (0 : Int)))
 (fun e => some e)
 else none)
 fun y1457 =>
 bif decide (0 ≤ (w64 ((y1287.length : Int) - r1431)) ∧ (w64 ((y1287.length : Int) - r1431)) ≤ (y1287.length : Int)) then
 bif decide (0 + ((w64 ((y1287.length : Int) - r1431)).toNat) ≤ y1287.length) then
 bif decide ((((w64 ((y1287.length : Int) - r1431)).toNat) + [(w64 (y1457 + (1 : Int)))].length) * 8 ≤ room) then
 some (Sum.inl (List.take ((w64 ((y1287.length : Int) - r1431)).toNat) (List.drop 0 y1287) ++ [(w64 (y1457 + (1 : Int)))]))
 else none
 else none
 else none)
 (fun y1427 =>
 some (Sum.inl (y1427, (w64 (y1288 + (1 : Int))))))
 (fun e => some (Sum.inr (Sum.inr e)))
 else
 some (Sum.inr (Sum.inl y1287))) (([] : List Int), (0 : Int)))
 (Sum.elim (fun e => some (Sum.inl e)) (fun e => some (Sum.inr e))))
 (fun y1228 =>
 bif ((y1228.length : Int) != (1 : Int)) then
 some (1 : Int)
 else
 Option.bind (getI y1228 (0 : Int)) fun v1474 =>
 bif (decide (v1474 > (24 : Int))) then
 some (7 : Int)
 else
 some (0 : Int))
 (fun e => some e)
theorem pred_Check_ok (p0 : List ApiColumn) (p1 : List PredNode) (r : Int) (h0 : pred_Check p0 p1 = some r) : CallAt Tryz.prog 8 [.d ((eL 7 eApiColumn) p0), .d ((eL 6 ePredNode) p1)] [] (.d (eI r)) [] := by
 unfold pred_Check at h0
 refine fn0 [0, 1] Tryz.func8 rfl rfl rfl rfl rfl ?_
 refine sr (sa rfl (sn (sq (sr (sm rfl (s1 (len rfl rfl rfl (len_lst un23)) (s1 (bi rfl rfl q_i64_gtr) (sn (cB h0 rfl (fun h0 => ?_) (fun h0 => ?_))))))))))
 ·have q := si h0; subst q
  exact sr (sa rfl (sn (SC.ret (finR (Wk.refl _) (lresT rfl lresN) rfl))))
 ·refine sk (sr (s1 (asg (v := .d .nils) rfl) (sn (SC.seqB h0 (fun y => ⟨mk 91 [(5, .slc 0 1 0 y.length none)], [.row 1 (List.map eI y) true]⟩) ?_ ?_))))
  ·intro u1_1229 h1 h0
   obtain ⟨u2_1382, h2, h1⟩ := ob h1
   refine sr (sm rfl (s1 (len rfl rfl rfl (len_lst un23)) (sm rfl (sn (SC.blk (SC.loopB h2 (fun y => ⟨mk 91 [(0, .d ((eL 7 eApiColumn) p0)), (5, .slc 0 1 0 y.1.length none), (15, .d ((eL 6 ePredNode) p1)), (16, .d (eI (p1.length : Int))), (17, .d (eI y.2))], [.row 1 (List.map eI y.1) true]⟩) (Wk.trans (Wk.pushE (σ' := [.row 1 (List.map eI ([] : List Int)) true]) (.row 1 [] true) (fun _ hh => by cases hh) rfl) (Wk.trans (Wk.env (e' := [(0, .d ((eL 7 eApiColumn) p0)), (5, .slc 0 1 0 (([] : List Int).length) none), (15, .d ((eL 6 ePredNode) p1)), (16, .d (eI (p1.length : Int))), (17, .d (eI (0 : Int)))]) (EW.cons (AW.refl _) (EW.cons (AW.slcn _ _ _) (EW.cons (AW.refl _) (EW.cons (AW.refl _) (EW.cons (AW.refl _) EW.nil)))))) (wq rfl))) ?_))))))
   intro n1473
   rintro ⟨y1287, y1288⟩ w2_1381 h3 hv3
   refine sr (s1 (bi rfl rfl q_i64_lss) (sn (sq (cB h3 rfl (fun h3 => ?_) (fun h3 => ?_)))))
   ·refine sk (SC.seqB h3 (fun y => ⟨mk 91 [(0, .d ((eL 7 eApiColumn) p0)), (5, .slc 0 1 0 y.length none), (15, .d ((eL 6 ePredNode) p1)), (16, .d (eI (p1.length : Int))), (17, .d (eI y1288))], [.row 1 (List.map eI y) true]⟩) ?_ ?_)
    ·intro u4_1428 h4 h3
     obtain ⟨v1429, hv1429, h4⟩ := ob h4; obtain ⟨r1431, hq1430, h4⟩ := ob h4
     refine SC.blk (sr (s1 (ial rfl rfl un23 ts43 (getI_some hv1429).1 (map_get (getI_some hv1429).2) rfl) (s1 (lod (v := .d (ePredNode v1429)) rfl (ld_rop ts43 ta43 rfl)) (s1 (alo (k := 1) zo43 rfl) (s0 (sto rfl rfl (sB (d' := .d (ePredNode v1429)) ts43 rfl rfl rfl rfl rfl rfl rfl)) (sn (sr (sm rfl (s1 (len rfl rfl rfl (len_slc un45)) ?_)))))))))
     refine s1 (lod (v := .d (ePredNode v1429)) rfl (ld_box ts43 ta43 rfl rfl)) (c0 (pred_Node_takes_ok v1429 _ hq1430) wf rfl rfl rfl cb16 rfl (fun _ => rfl) (fun _ => rfl) (s1 (bi rfl rfl q_i64_sub) (sa rfl (sn (sq (SC.seqP h4 (fun y => ⟨mk 91 [(0, .d ((eL 7 eApiColumn) p0)), (5, .slc 0 1 0 y1287.length none), (7, .ref 1 0 0), (8, .d (eI (w64 ((y1287.length : Int) - r1431)))), (15, .d ((eL 6 ePredNode) p1)), (16, .d (eI (p1.length : Int))), (17, .d (eI y1288)), (34, .d (eB y))], [.row 1 (List.map eI y1287) true, .box (.d (ePredNode v1429))]⟩) ?_ ?_))))))
     ·intro u5_1435 h5
      obtain ⟨r1437, hq1436, h5⟩ := ob h5
      refine SC.region (s1 (lod (v := .d (ePredNode v1429)) rfl (ld_box ts43 ta43 rfl rfl)) (sm rfl (s1 (len rfl rfl rfl (len_lst un22)) (c0 (pred_Node_form_ok v1429 (p0.length : Int) _ hq1436) wf rfl rfl rfl cb17 rfl (fun _ => rfl) (fun _ => rfl) (s1 (nt rfl) (sm rfl (sp h5 (fun h5 => ?_) (fun h5 => ?_))))))))
      ·have q := si h5; subst q
       exact kw rfl (kw rfl (s1 (pkt rfl rfl) (SO.nil ((wq rfl)))))
      ·have q := si h5; subst q
       exact gw rfl (mv rfl) (gw rfl (bi rfl rfl q_i64_lss) (s1 (pkf rfl rfl) (SO.nil ((wq rfl)))))
     ·rintro y1434 h4
      refine cB h4 rfl (fun h4 => ?_) (fun h4 => ?_)
      ·have q := si h4; subst q; have q := si h3; subst q; have q : _ = _ := hv3; subst q; have q := si h1; subst q; have q := si h0; subst q
       exact sr (sa rfl (sn (SC.ret (finR (wc (e' := [(4, .d (eI (1 : Int)))]) [] [] (by kernel_rfl) rfl (by kernel_rfl)) (lresT rfl lresN) rfl))))
      ·refine sk (sq (SC.seqP h4 (fun y => ⟨mk 91 [(0, .d ((eL 7 eApiColumn) p0)), (5, .slc 0 1 0 y1287.length none), (8, .d (eI (w64 ((y1287.length : Int) - r1431)))), (15, .d ((eL 6 ePredNode) p1)), (16, .d (eI (p1.length : Int))), (17, .d (eI y1288)), (61, .d (eB y))], [.row 1 (List.map eI y1287) true]⟩) ?_ ?_))
       ·intro u5_1442 h5
        refine SC.draws (by kernel_rfl) (t1 ([], false) (far (k := 0) rfl fo43_0 ts3 rfl) rfl (t1 ([1], false) (lod rfl (ld_box ts3 ta3 rfl rfl)) rfl (t1 ([], false) (bi rfl rfl q_i64_eql) rfl (t1 ([], false) (mv rfl) rfl (tp h5 (fun h5 => ?_) (fun h5 => ?_))))))
        ·obtain ⟨r1444, hq1443, h5⟩ := ob h5
         refine u1 ([], false) (ww rfl) (far (k := 3) rfl fo43_3 ts41 rfl) rfl (u1 ([1], false) (ww rfl) (lod (v := .d (eApiValue v1429.Val)) rfl (ld_box ts41 ta41 rfl rfl)) rfl (tc0 (value_Valid_ok v1429.Val _ hq1443) (ww rfl) rfl rfl rfl cb18 rfl (fun _ => rfl) (fun _ => rfl) (u1 ([], false) (ww rfl) (nt rfl) rfl (u1 ([], false) (ww rfl) (mv rfl) rfl (tp h5 (fun h5 => ?_) (fun h5 => ?_))))))
         ·have q := si h5; subst q
          refine jw rfl (jw rfl (jw rfl (jw rfl (u1 ([], false) (ww rfl) (pkt rfl rfl) rfl (u1 ([], false) (ww rfl) (mv rfl) rfl (jw rfl (jw rfl (jw rfl (jw rfl ?_)))))))))
          refine jw rfl (jw rfl (jw rfl (jw rfl (jw rfl (jw rfl (u1 ([], false) (ww rfl) (pkt rfl rfl) rfl (t1 ([], false) (pkt rfl rfl) rfl (ST.nil (And.intro (by decide +kernel) ?_)))))))))
          exact (wc [0] [0] (by kernel_rfl) rfl (by kernel_rfl))
         ·refine u1 ([], false) (ww rfl) (far (k := 3) rfl fo43_3 ts41 rfl) rfl (u1 ([], false) (ww rfl) (far (k := 3) rfl fo41_0 ts3 rfl) rfl (u1 ([1], false) (ww rfl) (lod rfl (ld_box ts3 ta3 rfl rfl)) rfl (u1 ([], false) (ww rfl) (bi rfl rfl q_i64_eql) rfl (u1 ([], false) (ww rfl) (pkf rfl rfl) rfl (u1 ([], false) (ww rfl) (mv rfl) rfl (tp h5 (fun h5 => ?_) (fun h5 => ?_)))))))
          ·have q := si h5; subst q
           refine jw rfl (jw rfl (jw rfl (jw rfl (jw rfl (jw rfl (jw rfl (jw rfl (jw rfl (jw rfl ?_)))))))))
           refine u1 ([], false) (ww rfl) (pkt rfl rfl) rfl (t1 ([], false) (pkt rfl rfl) rfl (ST.nil (And.intro (by decide +kernel) ?_)))
           exact (wc [0] [0] (by kernel_rfl) rfl (by kernel_rfl))
          ·obtain ⟨v1445, hv1445, h5⟩ := ob h5; have q := si h5; subst q
           refine u1 ([], false) (ww rfl) (far (k := 3) rfl fo43_3 ts41 rfl) rfl (u1 ([], false) (ww rfl) (far (k := 3) rfl fo41_0 ts3 rfl) rfl (u1 ([1], false) (ww rfl) (lod rfl (ld_box ts3 ta3 rfl rfl)) rfl (u1 ([], false) (ww rfl) (mv rfl) rfl (u1 ([], false) (ww rfl) (far (k := 1) rfl fo43_1 ts3 rfl) rfl (u1 ([1], false) (ww rfl) (lod rfl (ld_box ts3 ta3 rfl rfl)) rfl (u1 ([], false) (ww rfl) (ial rfl rfl un22 ts50 (getI_some hv1445).1 (map_get (getI_some hv1445).2) rfl) rfl (u1 ([], false) (ww rfl) (fap rfl fo50_1 ts3 rfl) rfl (u1 ([], false) (ww rfl) (lod rfl (ld_rop ts3 ta3 rfl)) rfl (u1 ([], false) (ww rfl) (bi rfl rfl q_i64_neq) rfl ?_)))))))))
           refine u1 ([], false) (ww rfl) (pkf rfl rfl) rfl (t1 ([], false) (pkt rfl rfl) rfl (ST.nil (And.intro (by decide +kernel) ?_)))
           exact (wc [0] [0] (by kernel_rfl) rfl (by kernel_rfl))
        ·have q := si h5; subst q
         refine jw rfl (jw rfl (jw rfl (jw rfl (jw rfl (jw rfl (jw rfl (jw rfl (jw rfl (jw rfl ?_)))))))))
         refine jw rfl (jw rfl (jw rfl (jw rfl (jw rfl (jw rfl (jw rfl (jw rfl (jw rfl (jw rfl ?_)))))))))
         refine jw rfl (jw rfl (t1 ([], false) (pkf rfl rfl) rfl (ST.nil (And.intro (by decide +kernel) ?_))))
         exact (wc [0] [0] (by kernel_rfl) rfl (by kernel_rfl))
       ·rintro y1441 h4
        refine cB h4 rfl (fun h4 => ?_) (fun h4 => ?_)
        ·have q := si h4; subst q; have q := si h3; subst q; have q : _ = _ := hv3; subst q; have q := si h1; subst q; have q := si h0; subst q
         exact sr (sa rfl (sn (SC.ret (finR (wc (e' := [(4, .d (eI (8 : Int)))]) [] [] (by kernel_rfl) rfl (by kernel_rfl)) (lresT rfl lresN) rfl))))
        ·refine sk (sr (sa rfl (sn (SC.seqP h4 (fun y => ⟨mk 91 [(0, .d ((eL 7 eApiColumn) p0)), (5, .slc 0 1 0 y1287.length none), (8, .d (eI (w64 ((y1287.length : Int) - r1431)))), (9, .d (eI y)), (15, .d ((eL 6 ePredNode) p1)), (16, .d (eI (p1.length : Int))), (17, .d (eI y1288))], [.row 1 (List.map eI y1287) true]⟩) ?_ ?_))))
         ·intro u5_1458 h5
          obtain ⟨hg1459, h5⟩ := gd h5; obtain ⟨u6_1467, h6, h5⟩ := ob h5
          refine sr (sm rfl (sm rfl (s1 (slo rfl rfl rfl rfl (sl_slc_lo un45 ts3 hg1459)) (s1 (len rfl rfl rfl (len_slc un45)) (sm rfl (sn (SC.blk (SC.loopB h6 (fun y => ⟨mk 91 [(0, .d ((eL 7 eApiColumn) p0)), (5, .slc 0 1 0 y1287.length none), (8, .d (eI (w64 ((y1287.length : Int) - r1431)))), (9, .d (eI y.1)), (15, .d ((eL 6 ePredNode) p1)), (16, .d (eI (p1.length : Int))), (17, .d (eI y1288)), (64, .slc 0 1 (0 + (w64 ((y1287.length : Int) - r1431)).toNat) (y1287.length - (w64 ((y1287.length : Int) - r1431)).toNat) none), (65, .d (eI ((y1287.length - (w64 ((y1287.length : Int) - r1431)).toNat : Nat) : Int))), (66, .d (eI y.2))], [.row 1 (List.map eI y1287) true]⟩) (wq rfl) ?_))))))))
          intro n1469
          rintro ⟨y1461, y1462⟩ w6_1466 h7 hv7
          refine sr (s1 (bi rfl rfl q_i64_lss) (sn (sq (cB h7 rfl (fun h7 => ?_) (fun h7 => ?_)))))
          ·obtain ⟨v1468, hv1468, h7⟩ := ob h7
           refine sk (sq (SC.blk (sr (s1 (ias rfl rfl un45 ts3 (getS_some hv1468).1) (s1 (lod rfl (ld_row ts3 ta3 rfl (map_get (getS_some hv1468).2) rfl)) (sa rfl (sn (SC.region (sm rfl ?_)))))))))
           refine sm rfl (s1 (mxo (v := .d (eI (max y1461 v1468))) rfl rfl rfl (by_max_i64 un3 y1461 v1468)) (sa rfl (SO.nil ?_)))
           change SC _ _ _ _ _
           have q := si h7; subst q
           exact SC.region (s1 (bi rfl rfl q_i64_add) (sm rfl (SO.nil (lf (wq rfl)))))
          ·have q := si h7; subst q; have q : _ = _ := hv7; subst q; have q := si h5; subst q
           exact SC.exit ((wq rfl))
         ·rintro y1457 h4
          obtain ⟨hg1470, h4⟩ := gd h4; obtain ⟨hg1472, h4⟩ := gd h4; obtain ⟨hg1471, h4⟩ := gd h4; have q := si h4; subst q
          refine SC.region (sm rfl (sm rfl (s1 (slo rfl rfl rfl rfl (sl_slc_hi un45 ts3 hg1470)) (sm rfl (s1 (bi rfl rfl q_i64_add) (s1 (bsn (k := 1) (ds := List.map eI [(w64 (y1457 + (1 : Int)))]) (off := 0) (l' := [(w64 (y1457 + (1 : Int)))].length) rfl un45 ei3 rfl rfl (by rfl) rfl rfl rfl) (s1 (app rfl rfl rfl rfl bc45 (aS (f := eI) (xs := y1287) (k := 2) un45 ei3 rfl hg1472 (el_full (xs := [(w64 (y1457 + (1 : Int)))]) rfl) hg1471 rfl)) (sa rfl (SO.nil ?_)))))))))
          exact lf (wc [2] [2] (by kernel_rfl) rfl (by kernel_rfl))
    ·rintro y1427 h3
     have q := si h3; subst q
     exact SC.region (s1 (bi rfl rfl q_i64_add) (sm rfl (SO.nil (lf (wq rfl)))))
   ·have q := si h3; subst q; have q : _ = _ := hv3; subst q; have q := si h1; subst q
    exact SC.exit (lf (wq rfl))
  ·rintro y1228 h0
   refine sq (SC.blk (sr (sm rfl (s1 (len rfl rfl rfl (len_slc un45)) (s1 (bi rfl rfl q_i64_neq) (sa rfl (sn (cB h0 rfl (fun h0 => ?_) (fun h0 => ?_)))))))))
   ·have q := si h0; subst q
    exact sr (sa rfl (sn (SC.ret (finR (wc (e' := [(4, .d (eI (1 : Int)))]) [] [] (by kernel_rfl) rfl (by kernel_rfl)) (lresT rfl lresN) rfl))))
   ·obtain ⟨v1474, hv1474, h0⟩ := ob h0
    refine sr (sm rfl (s1 (iaz rfl rfl un45 ts3 (getI_lt hv1474)) (s1 (lod rfl (ld_row ts3 ta3 rfl (map_get (getI_some hv1474).2) rfl)) (s1 (bi rfl rfl q_i64_gtr) (sa rfl (sn (cB h0 rfl (fun h0 => ?_) (fun h0 => ?_))))))))
    ·have q := si h0; subst q
     exact sr (sa rfl (sn (SC.ret (finR (wc (e' := [(4, .d (eI (7 : Int)))]) [] [] (by kernel_rfl) rfl (by kernel_rfl)) (lresT rfl lresN) rfl))))
    ·refine SC.skip ?_
     change SC _ _ _ _ _
     have q := si h0; subst q
     exact sr (sa rfl (sn (SC.ret (finR (wc (e' := [(4, .d (eI (0 : Int)))]) [] [] (by kernel_rfl) rfl (by kernel_rfl)) (lresT rfl lresN) rfl))))
noncomputable def pred_Check_1 (p0 : List ApiColumn) (p1 : List PredNode) (p2 : Nat) (p3 : Nat) : Option Int :=
 bif (decide ((p3 : Int) > (200 : Int))) then
 some (7 : Int)
 else
 bindE (Y := (List Int)) (E := Int)
 (Option.bind (α := ((List Int)) ⊕ Int)
 (loop (Y := (List Int) × Int) (W := ((List Int)) ⊕ Int) (fun (y1287, y1288) =>
 bif (decide (y1288 < (p3 : Int))) then
 bindE (Y := (List Int)) (E := Int)
 (Option.bind (getS p1 p2 p3 y1288) fun v1429 =>
 Option.bind (pred_Node_takes v1429) fun r1431 =>
 Option.bind (α := Bool)
 (Option.bind (pred_Node_form v1429 (p0.length : Int)) fun r1437 =>
 bif (!r1437) then
 some true
 else
 some (decide ((w64 ((y1287.length : Int) - r1431)) < (0 : Int))))
 fun y1434 =>
 bif y1434 then
 some (Sum.inr (1 : Int))
 else
 Option.bind (α := Bool)
 (bif (v1429.Kind == (2 : Int)) then
 Option.bind (value_Valid v1429.Val) fun r1444 =>
 bif (!r1444) then
 some true
 else
 bif (v1429.Val.Kind == (0 : Int)) then
 some true
 else
 Option.bind (getI p0 v1429.Col) fun v1445 =>
 some (v1429.Val.Kind != v1445.Kind)
 else
 some false)
 fun y1441 =>
 bif y1441 then
 some (Sum.inr (8 : Int))
 else
 Option.bind (α := Int)
 (bif decide (0 ≤ (w64 ((y1287.length : Int) - r1431)) ∧ (w64 ((y1287.length : Int) - r1431)) ≤ (y1287.length : Int)) then
 Option.bind (α := Int)
 (loop (Y := Int × Int) (W := Int) (fun (y1461, y1462) =>
 bif (decide (y1462 < ((y1287.length - (w64 ((y1287.length : Int) - r1431)).toNat : Nat) : Int))) then
 Option.bind (getS y1287 (0 + (w64 ((y1287.length : Int) - r1431)).toNat) (y1287.length - (w64 ((y1287.length : Int) - r1431)).toNat) y1462) fun v1468 =>
 some (Sum.inl ((max y1461 v1468), (w64 (y1462 + (1 : Int)))))
 else
 some (Sum.inr y1461)) ((0 : Int), (0 : Int)))
 (fun e => some e)
 else none)
 fun y1457 =>
 bif decide (0 ≤ (w64 ((y1287.length : Int) - r1431)) ∧ (w64 ((y1287.length : Int) - r1431)) ≤ (y1287.length : Int)) then
 bif decide (0 + ((w64 ((y1287.length : Int) - r1431)).toNat) ≤ y1287.length) then
 bif decide ((((w64 ((y1287.length : Int) - r1431)).toNat) + [(w64 (y1457 + (1 : Int)))].length) * 8 ≤ room) then
 some (Sum.inl (List.take ((w64 ((y1287.length : Int) - r1431)).toNat) (List.drop 0 y1287) ++ [(w64 (y1457 + (1 : Int)))]))
 else none
 else none
 else none)
 (fun y1427 =>
 some (Sum.inl (y1427, (w64 (y1288 + (1 : Int))))))
 (fun e => some (Sum.inr (Sum.inr e)))
 else
 some (Sum.inr (Sum.inl y1287))) (([] : List Int), (0 : Int)))
 (Sum.elim (fun e => some (Sum.inl e)) (fun e => some (Sum.inr e))))
 (fun y1228 =>
 bif ((y1228.length : Int) != (1 : Int)) then
 some (1 : Int)
 else
 Option.bind (getI y1228 (0 : Int)) fun v1474 =>
 bif (decide (v1474 > (24 : Int))) then
 some (7 : Int)
 else
 some (0 : Int))
 (fun e => some e)
theorem pred_Check_1_ok (p0 : List ApiColumn) (p1 : List PredNode) (p2 : Nat) (p3 : Nat) (r : Int) (h0 : pred_Check_1 p0 p1 p2 p3 = some r) : CallAt Tryz.prog 8 [.d ((eL 7 eApiColumn) p0), .slc 0 6 p2 p3 none] [.row 6 (List.map ePredNode p1) false] (.d (eI r)) [.row 6 (List.map ePredNode p1) false] := by
 unfold pred_Check_1 at h0
 refine fn0 [0, 1] Tryz.func8 rfl rfl rfl rfl rfl ?_
 refine sr (sa rfl (sn (sq (sr (sm rfl (s1 (len rfl rfl rfl (len_slc un23)) (s1 (bi rfl rfl q_i64_gtr) (sn (cB h0 rfl (fun h0 => ?_) (fun h0 => ?_))))))))))
 ·have q := si h0; subst q
  exact sr (sa rfl (sn (SC.ret (finR (Wk.refl _) (lresT rfl lresN) rfl))))
 ·refine sk (sr (s1 (asg (v := .d .nils) rfl) (sn (SC.seqB h0 (fun y => ⟨mk 91 [(5, .slc 1 1 0 y.length none)], [.row 6 (List.map ePredNode p1) false, .row 1 (List.map eI y) true]⟩) ?_ ?_))))
  ·intro u1_1229 h1 h0
   obtain ⟨u2_1382, h2, h1⟩ := ob h1
   refine sr (sm rfl (s1 (len rfl rfl rfl (len_slc un23)) (sm rfl (sn (SC.blk (SC.loopB h2 (fun y => ⟨mk 91 [(0, .d ((eL 7 eApiColumn) p0)), (5, .slc 1 1 0 y.1.length none), (15, .slc 0 6 p2 p3 none), (16, .d (eI (p3 : Int))), (17, .d (eI y.2))], [.row 6 (List.map ePredNode p1) false, .row 1 (List.map eI y.1) true]⟩) (Wk.trans (Wk.pushE (σ' := [.row 6 (List.map ePredNode p1) false, .row 1 (List.map eI ([] : List Int)) true]) (.row 1 [] true) (fun _ hh => by cases hh) rfl) (Wk.trans (Wk.env (e' := [(0, .d ((eL 7 eApiColumn) p0)), (5, .slc 1 1 0 (([] : List Int).length) none), (15, .slc 0 6 p2 p3 none), (16, .d (eI (p3 : Int))), (17, .d (eI (0 : Int)))]) (EW.cons (AW.refl _) (EW.cons (AW.slcn _ _ _) (EW.cons (AW.refl _) (EW.cons (AW.refl _) (EW.cons (AW.refl _) EW.nil)))))) (wq rfl))) ?_))))))
   intro n1473
   rintro ⟨y1287, y1288⟩ w2_1381 h3 hv3
   refine sr (s1 (bi rfl rfl q_i64_lss) (sn (sq (cB h3 rfl (fun h3 => ?_) (fun h3 => ?_)))))
   ·refine sk (SC.seqB h3 (fun y => ⟨mk 91 [(0, .d ((eL 7 eApiColumn) p0)), (5, .slc 1 1 0 y.length none), (15, .slc 0 6 p2 p3 none), (16, .d (eI (p3 : Int))), (17, .d (eI y1288))], [.row 6 (List.map ePredNode p1) false, .row 1 (List.map eI y) true]⟩) ?_ ?_)
    ·intro u4_1428 h4 h3
     obtain ⟨v1429, hv1429, h4⟩ := ob h4; obtain ⟨r1431, hq1430, h4⟩ := ob h4
     refine SC.blk (sr (s1 (ias rfl rfl un23 ts43 (getS_some hv1429).1) (s1 (lod (v := .d (ePredNode v1429)) rfl (ld_row ts43 ta43 rfl (map_get (getS_some hv1429).2) rfl)) (s1 (alo (k := 2) zo43 rfl) (s0 (sto rfl rfl (sB (d' := .d (ePredNode v1429)) ts43 rfl rfl rfl rfl rfl rfl rfl)) (sn (sr (sm rfl (s1 (len rfl rfl rfl (len_slc un45)) ?_)))))))))
     refine s1 (lod (v := .d (ePredNode v1429)) rfl (ld_box ts43 ta43 rfl rfl)) (c0 (pred_Node_takes_ok v1429 _ hq1430) wf rfl rfl rfl cb16 rfl (fun _ => rfl) (fun _ => rfl) (s1 (bi rfl rfl q_i64_sub) (sa rfl (sn (sq (SC.seqP h4 (fun y => ⟨mk 91 [(0, .d ((eL 7 eApiColumn) p0)), (5, .slc 1 1 0 y1287.length none), (7, .ref 2 0 0), (8, .d (eI (w64 ((y1287.length : Int) - r1431)))), (15, .slc 0 6 p2 p3 none), (16, .d (eI (p3 : Int))), (17, .d (eI y1288)), (34, .d (eB y))], [.row 6 (List.map ePredNode p1) false, .row 1 (List.map eI y1287) true, .box (.d (ePredNode v1429))]⟩) ?_ ?_))))))
     ·intro u5_1435 h5
      obtain ⟨r1437, hq1436, h5⟩ := ob h5
      refine SC.region (s1 (lod (v := .d (ePredNode v1429)) rfl (ld_box ts43 ta43 rfl rfl)) (sm rfl (s1 (len rfl rfl rfl (len_lst un22)) (c0 (pred_Node_form_ok v1429 (p0.length : Int) _ hq1436) wf rfl rfl rfl cb17 rfl (fun _ => rfl) (fun _ => rfl) (s1 (nt rfl) (sm rfl (sp h5 (fun h5 => ?_) (fun h5 => ?_))))))))
      ·have q := si h5; subst q
       exact kw rfl (kw rfl (s1 (pkt rfl rfl) (SO.nil ((wq rfl)))))
      ·have q := si h5; subst q
       exact gw rfl (mv rfl) (gw rfl (bi rfl rfl q_i64_lss) (s1 (pkf rfl rfl) (SO.nil ((wq rfl)))))
     ·rintro y1434 h4
      refine cB h4 rfl (fun h4 => ?_) (fun h4 => ?_)
      ·have q := si h4; subst q; have q := si h3; subst q; have q : _ = _ := hv3; subst q; have q := si h1; subst q; have q := si h0; subst q
       exact sr (sa rfl (sn (SC.ret (finR (wc (e' := [(4, .d (eI (1 : Int)))]) [0] [0] (by kernel_rfl) rfl (by kernel_rfl)) (lresT rfl lresN) rfl))))
      ·refine sk (sq (SC.seqP h4 (fun y => ⟨mk 91 [(0, .d ((eL 7 eApiColumn) p0)), (5, .slc 1 1 0 y1287.length none), (8, .d (eI (w64 ((y1287.length : Int) - r1431)))), (15, .slc 0 6 p2 p3 none), (16, .d (eI (p3 : Int))), (17, .d (eI y1288)), (61, .d (eB y))], [.row 6 (List.map ePredNode p1) false, .row 1 (List.map eI y1287) true]⟩) ?_ ?_))
       ·intro u5_1442 h5
        refine SC.draws (by kernel_rfl) (t1 ([], false) (far (k := 0) rfl fo43_0 ts3 rfl) rfl (t1 ([2], false) (lod rfl (ld_box ts3 ta3 rfl rfl)) rfl (t1 ([], false) (bi rfl rfl q_i64_eql) rfl (t1 ([], false) (mv rfl) rfl (tp h5 (fun h5 => ?_) (fun h5 => ?_))))))
        ·obtain ⟨r1444, hq1443, h5⟩ := ob h5
         refine u1 ([], false) (ww rfl) (far (k := 3) rfl fo43_3 ts41 rfl) rfl (u1 ([2], false) (ww rfl) (lod (v := .d (eApiValue v1429.Val)) rfl (ld_box ts41 ta41 rfl rfl)) rfl (tc0 (value_Valid_ok v1429.Val _ hq1443) (ww rfl) rfl rfl rfl cb18 rfl (fun _ => rfl) (fun _ => rfl) (u1 ([], false) (ww rfl) (nt rfl) rfl (u1 ([], false) (ww rfl) (mv rfl) rfl (tp h5 (fun h5 => ?_) (fun h5 => ?_))))))
         ·have q := si h5; subst q
          refine jw rfl (jw rfl (jw rfl (jw rfl (u1 ([], false) (ww rfl) (pkt rfl rfl) rfl (u1 ([], false) (ww rfl) (mv rfl) rfl (jw rfl (jw rfl (jw rfl (jw rfl ?_)))))))))
          refine jw rfl (jw rfl (jw rfl (jw rfl (jw rfl (jw rfl (u1 ([], false) (ww rfl) (pkt rfl rfl) rfl (t1 ([], false) (pkt rfl rfl) rfl (ST.nil (And.intro (by decide +kernel) ?_)))))))))
          exact (wc [0, 1] [0, 1, 0] (by kernel_rfl) rfl (by kernel_rfl))
         ·refine u1 ([], false) (ww rfl) (far (k := 3) rfl fo43_3 ts41 rfl) rfl (u1 ([], false) (ww rfl) (far (k := 3) rfl fo41_0 ts3 rfl) rfl (u1 ([2], false) (ww rfl) (lod rfl (ld_box ts3 ta3 rfl rfl)) rfl (u1 ([], false) (ww rfl) (bi rfl rfl q_i64_eql) rfl (u1 ([], false) (ww rfl) (pkf rfl rfl) rfl (u1 ([], false) (ww rfl) (mv rfl) rfl (tp h5 (fun h5 => ?_) (fun h5 => ?_)))))))
          ·have q := si h5; subst q
           refine jw rfl (jw rfl (jw rfl (jw rfl (jw rfl (jw rfl (jw rfl (jw rfl (jw rfl (jw rfl ?_)))))))))
           refine u1 ([], false) (ww rfl) (pkt rfl rfl) rfl (t1 ([], false) (pkt rfl rfl) rfl (ST.nil (And.intro (by decide +kernel) ?_)))
           exact (wc [0, 1] [0, 1, 0] (by kernel_rfl) rfl (by kernel_rfl))
          ·obtain ⟨v1445, hv1445, h5⟩ := ob h5; have q := si h5; subst q
           refine u1 ([], false) (ww rfl) (far (k := 3) rfl fo43_3 ts41 rfl) rfl (u1 ([], false) (ww rfl) (far (k := 3) rfl fo41_0 ts3 rfl) rfl (u1 ([2], false) (ww rfl) (lod rfl (ld_box ts3 ta3 rfl rfl)) rfl (u1 ([], false) (ww rfl) (mv rfl) rfl (u1 ([], false) (ww rfl) (far (k := 1) rfl fo43_1 ts3 rfl) rfl (u1 ([2], false) (ww rfl) (lod rfl (ld_box ts3 ta3 rfl rfl)) rfl (u1 ([], false) (ww rfl) (ial rfl rfl un22 ts50 (getI_some hv1445).1 (map_get (getI_some hv1445).2) rfl) rfl (u1 ([], false) (ww rfl) (fap rfl fo50_1 ts3 rfl) rfl (u1 ([], false) (ww rfl) (lod rfl (ld_rop ts3 ta3 rfl)) rfl (u1 ([], false) (ww rfl) (bi rfl rfl q_i64_neq) rfl ?_)))))))))
           refine u1 ([], false) (ww rfl) (pkf rfl rfl) rfl (t1 ([], false) (pkt rfl rfl) rfl (ST.nil (And.intro (by decide +kernel) ?_)))
           exact (wc [0, 1] [0, 1, 0] (by kernel_rfl) rfl (by kernel_rfl))
        ·have q := si h5; subst q
         refine jw rfl (jw rfl (jw rfl (jw rfl (jw rfl (jw rfl (jw rfl (jw rfl (jw rfl (jw rfl ?_)))))))))
         refine jw rfl (jw rfl (jw rfl (jw rfl (jw rfl (jw rfl (jw rfl (jw rfl (jw rfl (jw rfl ?_)))))))))
         refine jw rfl (jw rfl (t1 ([], false) (pkf rfl rfl) rfl (ST.nil (And.intro (by decide +kernel) ?_))))
         exact (wc [0, 1] [0, 1, 0] (by kernel_rfl) rfl (by kernel_rfl))
       ·rintro y1441 h4
        refine cB h4 rfl (fun h4 => ?_) (fun h4 => ?_)
        ·have q := si h4; subst q; have q := si h3; subst q; have q : _ = _ := hv3; subst q; have q := si h1; subst q; have q := si h0; subst q
         exact sr (sa rfl (sn (SC.ret (finR (wc (e' := [(4, .d (eI (8 : Int)))]) [0] [0] (by kernel_rfl) rfl (by kernel_rfl)) (lresT rfl lresN) rfl))))
        ·refine sk (sr (sa rfl (sn (SC.seqP h4 (fun y => ⟨mk 91 [(0, .d ((eL 7 eApiColumn) p0)), (5, .slc 1 1 0 y1287.length none), (8, .d (eI (w64 ((y1287.length : Int) - r1431)))), (9, .d (eI y)), (15, .slc 0 6 p2 p3 none), (16, .d (eI (p3 : Int))), (17, .d (eI y1288))], [.row 6 (List.map ePredNode p1) false, .row 1 (List.map eI y1287) true]⟩) ?_ ?_))))
         ·intro u5_1458 h5
          obtain ⟨hg1459, h5⟩ := gd h5; obtain ⟨u6_1467, h6, h5⟩ := ob h5
          refine sr (sm rfl (sm rfl (s1 (slo rfl rfl rfl rfl (sl_slc_lo un45 ts3 hg1459)) (s1 (len rfl rfl rfl (len_slc un45)) (sm rfl (sn (SC.blk (SC.loopB h6 (fun y => ⟨mk 91 [(0, .d ((eL 7 eApiColumn) p0)), (5, .slc 1 1 0 y1287.length none), (8, .d (eI (w64 ((y1287.length : Int) - r1431)))), (9, .d (eI y.1)), (15, .slc 0 6 p2 p3 none), (16, .d (eI (p3 : Int))), (17, .d (eI y1288)), (64, .slc 1 1 (0 + (w64 ((y1287.length : Int) - r1431)).toNat) (y1287.length - (w64 ((y1287.length : Int) - r1431)).toNat) none), (65, .d (eI ((y1287.length - (w64 ((y1287.length : Int) - r1431)).toNat : Nat) : Int))), (66, .d (eI y.2))], [.row 6 (List.map ePredNode p1) false, .row 1 (List.map eI y1287) true]⟩) (wq rfl) ?_))))))))
          intro n1469
          rintro ⟨y1461, y1462⟩ w6_1466 h7 hv7
          refine sr (s1 (bi rfl rfl q_i64_lss) (sn (sq (cB h7 rfl (fun h7 => ?_) (fun h7 => ?_)))))
          ·obtain ⟨v1468, hv1468, h7⟩ := ob h7
           refine sk (sq (SC.blk (sr (s1 (ias rfl rfl un45 ts3 (getS_some hv1468).1) (s1 (lod rfl (ld_row ts3 ta3 rfl (map_get (getS_some hv1468).2) rfl)) (sa rfl (sn (SC.region (sm rfl ?_)))))))))
           refine sm rfl (s1 (mxo (v := .d (eI (max y1461 v1468))) rfl rfl rfl (by_max_i64 un3 y1461 v1468)) (sa rfl (SO.nil ?_)))
           change SC _ _ _ _ _
           have q := si h7; subst q
           exact SC.region (s1 (bi rfl rfl q_i64_add) (sm rfl (SO.nil (lf (wq rfl)))))
          ·have q := si h7; subst q; have q : _ = _ := hv7; subst q; have q := si h5; subst q
           exact SC.exit ((wq rfl))
         ·rintro y1457 h4
          obtain ⟨hg1470, h4⟩ := gd h4; obtain ⟨hg1472, h4⟩ := gd h4; obtain ⟨hg1471, h4⟩ := gd h4; have q := si h4; subst q
          refine SC.region (sm rfl (sm rfl (s1 (slo rfl rfl rfl rfl (sl_slc_hi un45 ts3 hg1470)) (sm rfl (s1 (bi rfl rfl q_i64_add) (s1 (bsn (k := 2) (ds := List.map eI [(w64 (y1457 + (1 : Int)))]) (off := 0) (l' := [(w64 (y1457 + (1 : Int)))].length) rfl un45 ei3 rfl rfl (by rfl) rfl rfl rfl) (s1 (app rfl rfl rfl rfl bc45 (aS (f := eI) (xs := y1287) (k := 3) un45 ei3 rfl hg1472 (el_full (xs := [(w64 (y1457 + (1 : Int)))]) rfl) hg1471 rfl)) (sa rfl (SO.nil ?_)))))))))
          exact lf (wc [0, 3] [0, 3, 0] (by kernel_rfl) rfl (by kernel_rfl))
    ·rintro y1427 h3
     have q := si h3; subst q
     exact SC.region (s1 (bi rfl rfl q_i64_add) (sm rfl (SO.nil (lf (wq rfl)))))
   ·have q := si h3; subst q; have q : _ = _ := hv3; subst q; have q := si h1; subst q
    exact SC.exit (lf (wq rfl))
  ·rintro y1228 h0
   refine sq (SC.blk (sr (sm rfl (s1 (len rfl rfl rfl (len_slc un45)) (s1 (bi rfl rfl q_i64_neq) (sa rfl (sn (cB h0 rfl (fun h0 => ?_) (fun h0 => ?_)))))))))
   ·have q := si h0; subst q
    exact sr (sa rfl (sn (SC.ret (finR (wc (e' := [(4, .d (eI (1 : Int)))]) [0] [0] (by kernel_rfl) rfl (by kernel_rfl)) (lresT rfl lresN) rfl))))
   ·obtain ⟨v1474, hv1474, h0⟩ := ob h0
    refine sr (sm rfl (s1 (iaz rfl rfl un45 ts3 (getI_lt hv1474)) (s1 (lod rfl (ld_row ts3 ta3 rfl (map_get (getI_some hv1474).2) rfl)) (s1 (bi rfl rfl q_i64_gtr) (sa rfl (sn (cB h0 rfl (fun h0 => ?_) (fun h0 => ?_))))))))
    ·have q := si h0; subst q
     exact sr (sa rfl (sn (SC.ret (finR (wc (e' := [(4, .d (eI (7 : Int)))]) [0] [0] (by kernel_rfl) rfl (by kernel_rfl)) (lresT rfl lresN) rfl))))
    ·refine SC.skip ?_
     change SC _ _ _ _ _
     have q := si h0; subst q
     exact sr (sa rfl (sn (SC.ret (finR (wc (e' := [(4, .d (eI (0 : Int)))]) [0] [0] (by kernel_rfl) rfl (by kernel_rfl)) (lresT rfl lresN) rfl))))
noncomputable def pred_workers : Option Unit :=
 some ()
theorem pred_workers_ok (r : Unit) (h0 : pred_workers = some r) : CallAt Tryz.prog 23 [] [] (.agg [.d .nilf, .fn (.func 37) [] [], .fn (.func 38) [] [], .fn (.func 39) [] [], .fn (.func 40) [] [], .fn (.func 41) [] [], .fn (.func 42) [] []]) [.box (.agg [.d .nilf, .fn (.func 37) [] [], .fn (.func 38) [] [], .fn (.func 39) [] [], .fn (.func 40) [] [], .fn (.func 41) [] [], .fn (.func 42) [] []])] := by
 unfold pred_workers at h0
 refine fn0 [] Tryz.func23 rfl rfl rfl rfl rfl ?_
 have q := si h0; subst q
 exact sr (s1 (alo (k := 0) zo61 rfl) (sn (sr (s1 (bld rfl (bd61_1_2_3_4_5_6 )) (s0 (sto rfl rfl (sB (d' := .agg [.d .nilf, .fn (.func 37) [] [], .fn (.func 38) [] [], .fn (.func 39) [] [], .fn (.func 40) [] [], .fn (.func 41) [] [], .fn (.func 42) [] []]) ts61 rfl rfl rfl rfl rfl rfl rfl)) (sn (SC.ret (finR (Wk.refl _) (lresC rfl (ld_box ts61 ta61 rfl rfl) lresN) rfl))))))))
noncomputable def cmp_isNaN_int (p0 : Int) : Option Unit :=
 some ()
theorem cmp_isNaN_int_ok (p0 : Int) (r : Unit) (h0 : cmp_isNaN_int p0 = some r) : CallAt Tryz.prog 82 [.d (eI p0)] [] (.d (eB (p0 != p0))) [] := by
 unfold cmp_isNaN_int at h0
 refine fn0 [0] Tryz.func82 rfl rfl rfl rfl rfl ?_
 have q := si h0; subst q
 refine sr (sa rfl (sn (sr (sm rfl (sm rfl (s1 (bi rfl rfl q_i64_neq) (sa rfl (sn (SC.ret ?_)))))))))
 exact finR (Wk.refl _) (lresT rfl lresN) rfl
noncomputable def cmp_Compare_int (p0 : Int) (p1 : Int) : Option Int :=
 Option.bind (cmp_isNaN_int p0) fun _ =>
 Option.bind (cmp_isNaN_int p1) fun _ =>
 bif (p0 != p0) then
 bif (p1 != p1) then
 some (0 : Int)
 else
 some (-1 : Int)
 else
 bif (p1 != p1) then
 some (1 : Int)
 else
 bif (decide (p0 < p1)) then
 some (-1 : Int)
 else
 bif (decide (p0 > p1)) then
 some (1 : Int)
 else
 some (0 : Int)
theorem cmp_Compare_int_ok (p0 : Int) (p1 : Int) (r : Int) (h0 : cmp_Compare_int p0 p1 = some r) : CallAt Tryz.prog 83 [.d (eI p0), .d (eI p1)] [] (.d (eI r)) [] := by
 unfold cmp_Compare_int at h0
 refine fn0 [0, 1] Tryz.func83 rfl rfl rfl rfl rfl ?_
 obtain ⟨_, hq6, h0⟩ := ob h0; obtain ⟨_, hq7, h0⟩ := ob h0
 refine sr (sa rfl (sn (sr (sm rfl (c0 (cmp_isNaN_int_ok p0 _ hq6) wf rfl rfl rfl cb82 rfl (fun _ => rfl) (fun _ => rfl) (sa rfl (sn (sr (sm rfl ?_)))))))))
 refine c0 (cmp_isNaN_int_ok p1 _ hq7) wf rfl rfl rfl cb82 rfl (fun _ => rfl) (fun _ => rfl) (sa rfl (sn (sq (sr (sm rfl (sn (cB h0 rfl (fun h0 => ?_) (fun h0 => ?_))))))))
 ·refine sq (sr (sm rfl (sn (cB h0 rfl (fun h0 => ?_) (fun h0 => ?_)))))
  ·have q := si h0; subst q
   exact sr (sa rfl (sn (SC.ret (finR (Wk.refl _) (lresT rfl lresN) rfl))))
  ·have q := si h0; subst q
   exact sk (sr (sa rfl (sn (SC.ret (finR (Wk.refl _) (lresT rfl lresN) rfl)))))
 ·refine sk (sq (sr (sm rfl (sn (cB h0 rfl (fun h0 => ?_) (fun h0 => ?_))))))
  ·have q := si h0; subst q
   exact sr (sa rfl (sn (SC.ret (finR (Wk.refl _) (lresT rfl lresN) rfl))))
  ·refine sk (sq (sr (sm rfl (sm rfl (s1 (bi rfl rfl q_i64_lss) (sn (cB h0 rfl (fun h0 => ?_) (fun h0 => ?_))))))))
   ·have q := si h0; subst q
    exact sr (sa rfl (sn (SC.ret (finR (Wk.refl _) (lresT rfl lresN) rfl))))
   ·refine sk (sq (sr (sm rfl (sm rfl (s1 (bi rfl rfl q_i64_gtr) (sn (cB h0 rfl (fun h0 => ?_) (fun h0 => ?_))))))))
    ·have q := si h0; subst q
     exact sr (sa rfl (sn (SC.ret (finR (Wk.refl _) (lresT rfl lresN) rfl))))
    ·have q := si h0; subst q
     exact sk (sr (sa rfl (sn (SC.ret (finR (Wk.refl _) (lresT rfl lresN) rfl)))))
noncomputable def cmp_isNaN_int64 (p0 : Int) : Option Unit :=
 some ()
theorem cmp_isNaN_int64_ok (p0 : Int) (r : Unit) (h0 : cmp_isNaN_int64 p0 = some r) : CallAt Tryz.prog 93 [.d (eI p0)] [] (.d (eB (p0 != p0))) [] := by
 unfold cmp_isNaN_int64 at h0
 refine fn0 [0] Tryz.func93 rfl rfl rfl rfl rfl ?_
 have q := si h0; subst q
 refine sr (sa rfl (sn (sr (sm rfl (sm rfl (s1 (bi rfl rfl q_i64_neq) (sa rfl (sn (SC.ret ?_)))))))))
 exact finR (Wk.refl _) (lresT rfl lresN) rfl
noncomputable def cmp_Compare_int64 (p0 : Int) (p1 : Int) : Option Int :=
 Option.bind (cmp_isNaN_int64 p0) fun _ =>
 Option.bind (cmp_isNaN_int64 p1) fun _ =>
 bif (p0 != p0) then
 bif (p1 != p1) then
 some (0 : Int)
 else
 some (-1 : Int)
 else
 bif (p1 != p1) then
 some (1 : Int)
 else
 bif (decide (p0 < p1)) then
 some (-1 : Int)
 else
 bif (decide (p0 > p1)) then
 some (1 : Int)
 else
 some (0 : Int)
theorem cmp_Compare_int64_ok (p0 : Int) (p1 : Int) (r : Int) (h0 : cmp_Compare_int64 p0 p1 = some r) : CallAt Tryz.prog 84 [.d (eI p0), .d (eI p1)] [] (.d (eI r)) [] := by
 unfold cmp_Compare_int64 at h0
 refine fn0 [0, 1] Tryz.func84 rfl rfl rfl rfl rfl ?_
 obtain ⟨_, hq6, h0⟩ := ob h0; obtain ⟨_, hq7, h0⟩ := ob h0
 refine sr (sa rfl (sn (sr (sm rfl (c0 (cmp_isNaN_int64_ok p0 _ hq6) wf rfl rfl rfl cb93 rfl (fun _ => rfl) (fun _ => rfl) (sa rfl (sn (sr (sm rfl ?_)))))))))
 refine c0 (cmp_isNaN_int64_ok p1 _ hq7) wf rfl rfl rfl cb93 rfl (fun _ => rfl) (fun _ => rfl) (sa rfl (sn (sq (sr (sm rfl (sn (cB h0 rfl (fun h0 => ?_) (fun h0 => ?_))))))))
 ·refine sq (sr (sm rfl (sn (cB h0 rfl (fun h0 => ?_) (fun h0 => ?_)))))
  ·have q := si h0; subst q
   exact sr (sa rfl (sn (SC.ret (finR (Wk.refl _) (lresT rfl lresN) rfl))))
  ·have q := si h0; subst q
   exact sk (sr (sa rfl (sn (SC.ret (finR (Wk.refl _) (lresT rfl lresN) rfl)))))
 ·refine sk (sq (sr (sm rfl (sn (cB h0 rfl (fun h0 => ?_) (fun h0 => ?_))))))
  ·have q := si h0; subst q
   exact sr (sa rfl (sn (SC.ret (finR (Wk.refl _) (lresT rfl lresN) rfl))))
  ·refine sk (sq (sr (sm rfl (sm rfl (s1 (bi rfl rfl q_i64_lss) (sn (cB h0 rfl (fun h0 => ?_) (fun h0 => ?_))))))))
   ·have q := si h0; subst q
    exact sr (sa rfl (sn (SC.ret (finR (Wk.refl _) (lresT rfl lresN) rfl))))
   ·refine sk (sq (sr (sm rfl (sm rfl (s1 (bi rfl rfl q_i64_gtr) (sn (cB h0 rfl (fun h0 => ?_) (fun h0 => ?_))))))))
    ·have q := si h0; subst q
     exact sr (sa rfl (sn (SC.ret (finR (Wk.refl _) (lresT rfl lresN) rfl))))
    ·have q := si h0; subst q
     exact sk (sr (sa rfl (sn (SC.ret (finR (Wk.refl _) (lresT rfl lresN) rfl)))))
end Lv
