/- Part of the proof of a law: functions and their walks. -/
import Derived.Test.YtjnpmmiacggffaaGreatDoorXPrims
namespace Lv
open Go Go.Proofs
set_option linter.unusedVariables false
set_option linter.unusedSimpArgs false
set_option linter.unusedSectionVars false
set_option maxRecDepth 100000
variable [BaseTab] [TabOk]
noncomputable def key_After (p0 : List UInt8) : Option ((List UInt8) × Bool) :=
 Option.bind (α := Nat)
 (Option.bind (α := Nat)
 (loop (Y := Nat) (W := Nat) (fun y120 =>
 Option.bind (α := Bool)
 (bif (decide ((y120 : Int) > (0 : Int))) then
 Option.bind (getS p0 0 y120 (w64 ((y120 : Int) - (1 : Int)))) fun v132 =>
 some (v132 == (255 : UInt8))
 else
 some false)
 fun y130 =>
 bif y130 then
 bif decide (0 ≤ (w64 ((y120 : Int) - (1 : Int))) ∧ (w64 ((y120 : Int) - (1 : Int))) ≤ (y120 : Int)) then
 some (Sum.inl ((w64 ((y120 : Int) - (1 : Int))).toNat))
 else none
 else
 some (Sum.inr y120)) p0.length)
 (fun e => some e))
 fun y113 =>
 bif ((y113 : Int) == (0 : Int)) then
 some (([] : List UInt8), false)
 else
 Option.bind (getS p0 0 y113 (w64 ((y113 : Int) - (1 : Int)))) fun v135 =>
 Option.bind (getS p0 0 y113 (w64 ((y113 : Int) - (1 : Int)))) fun v136 =>
 bif decide (0 + y113 ≤ (List.set p0 ((w64 ((y113 : Int) - (1 : Int))).toNat) (v135 + (1 : UInt8))).length) then
 some ((List.take y113 (List.drop 0 (List.set p0 ((w64 ((y113 : Int) - (1 : Int))).toNat) (v135 + (1 : UInt8))))), true)
 else none
theorem key_After_ok (p0 : List UInt8) (r : (List UInt8) × Bool) (h0 : key_After p0 = some r) : CallAt Tryz.prog 72 [.d (eS p0)] [] (.tuple [.d (eS r.1), .d (eB r.2)]) [] := by
 unfold key_After at h0
 refine fn0 [0] Tryz.func72 rfl rfl rfl rfl rfl ?_
 refine sr (s1 (asg (v := .d (eS ([] : List UInt8))) rfl) (sa rfl (sn (sr (sm rfl (s1 (cvs (s := p0) (k := 0) rfl un9 un156 un5 ts5 rfl) (sa rfl (sn (SC.seqP h0 (fun y => ⟨mk 37 [(4, .slc 0 1 0 y none)], [.row 1 (List.map eU8 p0) true]⟩) ?_ ?_)))))))))
 ·intro u1_114 h1
  obtain ⟨u2_128, h2, h1⟩ := ob h1
  refine SC.blk (SC.loopB h2 (fun y => ⟨mk 37 [(4, .slc 0 1 0 y none)], [.row 1 (List.map eU8 p0) true]⟩) (wq rfl) ?_)
  intro n134
  rintro y120 w2_127 h3 hv3
  refine sq (SC.seqP h3 (fun y => ⟨mk 37 [(4, .slc 0 1 0 y120 none), (18, .d (eB y))], [.row 1 (List.map eU8 p0) true]⟩) ?_ ?_)
  ·intro u4_131 h4
   refine SC.region (sm rfl (s1 (len rfl rfl rfl (len_slc un156)) (s1 (bi rfl rfl q_i64_gtr) (sm rfl (sp h4 (fun h4 => ?_) (fun h4 => ?_))))))
   ·obtain ⟨v132, hv132, h4⟩ := ob h4; have q := si h4; subst q
    exact gw rfl (mv rfl) (gw rfl (mv rfl) (gw rfl (len rfl rfl rfl (len_slc un156)) (gw rfl (bi rfl rfl q_i64_sub) (gw rfl (iaz rfl rfl un156 ts5 (getS_some hv132).1) (gw rfl (lod rfl (ld_row ts5 ta5 rfl (map_get (by have q := (getS_some hv132).2; simpa using q)) rfl)) (gw rfl (bi rfl rfl (q_u8_eql (b := (255 : UInt8)))) (s1 (pkt rfl rfl) (SO.nil ((wq rfl))))))))))
   ·have q := si h4; subst q
    exact kw rfl (kw rfl (kw rfl (kw rfl (kw rfl (kw rfl (kw rfl (s1 (pkf rfl rfl) (SO.nil ((wq rfl))))))))))
  ·rintro y130 h3
   refine cB h3 rfl (fun h3 => ?_) (fun h3 => ?_)
   ·obtain ⟨hg133, h3⟩ := gd h3; have q := si h3; subst q
    refine sk (SC.blk (SC.region (sm rfl (sm rfl (s1 (len rfl rfl rfl (len_slc un156)) (s1 (bi rfl rfl q_i64_sub) (s1 (slo rfl rfl rfl rfl (sl_slc_hi un156 ts5 hg133)) (sa rfl (SO.nil ?_)))))))))
    exact lf (wq rfl)
   ·have q := si h3; subst q; have q : _ = _ := hv3; subst q; have q := si h1; subst q
    exact SC.exit ((wq rfl))
 ·rintro y113 h0
  refine sq (sr (sm rfl (s1 (len rfl rfl rfl (len_slc un156)) (s1 (bi rfl rfl q_i64_eql) (sn (cB h0 rfl (fun h0 => ?_) (fun h0 => ?_)))))))
  ·have q := si h0; subst q
   exact sr (s1 (asg (v := .d (eS ([] : List UInt8))) rfl) (sa rfl (sn (SC.ret (finR (wc (e' := [(2, .d (eS ([] : List UInt8))), (3, .d (eB false))]) [] [] (by kernel_rfl) rfl (by kernel_rfl)) (lresT rfl (lresT rfl lresN)) rfl)))))
  ·obtain ⟨v135, hv135, h0⟩ := ob h0; obtain ⟨v136, hv136, h0⟩ := ob h0; obtain ⟨hg137, h0⟩ := gd h0; have q := si h0; subst q
   refine sk (sr (sm rfl (sm rfl (s1 (len rfl rfl rfl (len_slc un156)) (s1 (bi rfl rfl q_i64_sub) (s1 (iaz rfl rfl un156 ts5 (getS_some hv135).1) (s1 (lod rfl (ld_row ts5 ta5 rfl (map_get (by have q := (getS_some hv135).2; simpa using q)) rfl)) (s1 (bi rfl rfl (q_u8_add (b := (1 : UInt8)))) (s1 (iaz rfl rfl un156 ts5 (getS_some hv136).1) ?_)))))))))
   exact s0 (sto (b := .d (eU8 (v135 + (1 : UInt8)))) rfl rfl (sR (f := eU8) (v := (v135 + (1 : UInt8))) ts5 rfl rfl rfl rfl (by have q := (getS_some hv136).2; simpa using q) rfl rfl)) (sn (sr (sm rfl (s1 (cvo (v := .d (eS (List.take y113 (List.drop 0 (List.set p0 ((w64 ((y113 : Int) - (1 : Int))).toNat) (v135 + (1 : UInt8))))))) rfl (cv_bytes_str un156 un9 un5 (el_slc (xs := (List.set p0 ((w64 ((y113 : Int) - (1 : Int))).toNat) (v135 + (1 : UInt8)))) rfl hg137) (fun _ hh => by cases hh))) (sa rfl (sa rfl (sn (SC.ret (finR (wc (e' := [(2, .d (eS (List.take y113 (List.drop 0 (List.set p0 ((w64 ((y113 : Int) - (1 : Int))).toNat) (v135 + (1 : UInt8))))))), (3, .d (eB true))]) [] [] (by kernel_rfl) rfl (by kernel_rfl)) (lresT rfl (lresT rfl lresN)) rfl)))))))))
noncomputable def key_Under (p0 : List UInt8) : Option ApiSpan :=
 Option.bind (key_After p0) fun (r9, r10) =>
 some (ApiSpan.mk p0 r9 (!r10))
theorem key_Under_ok (p0 : List UInt8) (r : ApiSpan) (h0 : key_Under p0 = some r) : CallAt Tryz.prog 42 [.d (eS p0)] [] (.d (eApiSpan r)) [.box (.d (eApiSpan r))] := by
 unfold key_Under at h0
 refine fn0 [0] Tryz.func42 rfl rfl rfl rfl rfl ?_
 obtain ⟨⟨r9, r10⟩, hq8, h0⟩ := ob h0; have q := si h0; subst q
 refine sr (s1 (alo (k := 0) zo50 rfl) (sn (sr (sm rfl (c0 (key_After_ok p0 _ hq8) wf rfl rfl rfl cb72 rfl (fun _ => rfl) (fun _ => rfl) (sm rfl (s1 (ext rfl rfl) (s1 (ext rfl rfl) (sa rfl ?_)))))))))
 refine sa rfl (sn (sr (sm rfl (sm rfl (sm rfl (s1 (nt rfl) (s1 (bld rfl (bd50_0_1_2 p0 r9 (!r10))) (s0 (sto rfl rfl (sB (d' := .d (eApiSpan (ApiSpan.mk p0 r9 (!r10)))) ts50 rfl rfl rfl rfl rfl rfl rfl)) (sn ?_)))))))))
 exact SC.ret (finR (Wk.refl _) (lresC rfl (ld_box ts50 ta50 rfl rfl) lresN) rfl)
noncomputable def pred_Node_takes (p0 : PredNode) : Option Int :=
 Option.bind (α := Bool)
 (bif (p0.Kind == (4 : Int)) then
 some (p0.Kind == (4 : Int))
 else
 some (p0.Kind == (5 : Int)))
 fun y6 =>
 bif y6 then
 some (2 : Int)
 else
 bif (p0.Kind == (6 : Int)) then
 some (1 : Int)
 else
 some (0 : Int)
theorem pred_Node_takes_ok (p0 : PredNode) (r : Int) (h0 : pred_Node_takes p0 = some r) : CallAt Tryz.prog 57 [.d (ePredNode p0)] [] (.d (eI r)) [] := by
 unfold pred_Node_takes at h0
 refine fn0 [0] Tryz.func57 rfl rfl rfl rfl rfl ?_
 refine sr (s1 (bxo (k := 0) rfl rfl rfl) (sa rfl (sn (sq (sr (s1 (far (k := 0) rfl fo80_0 ts3 rfl) (s1 (lod rfl (ld_box ts3 ta3 rfl rfl)) (sn (SC.blk ?_)))))))))
 refine SC.seqP h0 (fun y => ⟨mk 10 [(4, .d (eI p0.Kind)), (5, .d (eB y))], []⟩) ?_ ?_
 ·intro u1_7 h1
  refine sr (s1 (bi rfl rfl q_i64_eql) (sa rfl (sn (cB h1 rfl (fun h1 => ?_) (fun h1 => ?_)))))
  ·have q := si h1; subst q
   exact SC.skip ((wc [] [] (by kernel_rfl) rfl (by kernel_rfl)))
  ·have q := si h1; subst q
   exact SC.region (s1 (bi rfl rfl q_i64_eql) (sa rfl (SO.nil ((wc [] [] (by kernel_rfl) rfl (by kernel_rfl))))))
 ·rintro y6 h0
  refine cB h0 rfl (fun h0 => ?_) (fun h0 => ?_)
  ·have q := si h0; subst q
   exact sr (sa rfl (sn (SC.ret (finR (Wk.refl _) (lresT rfl lresN) rfl))))
  ·refine sr (s1 (bi rfl rfl q_i64_eql) (sa rfl (sn (cB h0 rfl (fun h0 => ?_) (fun h0 => ?_)))))
   ·have q := si h0; subst q
    exact sr (sa rfl (sn (SC.ret (finR (Wk.refl _) (lresT rfl lresN) rfl))))
   ·refine SC.skip ?_
    change SC _ _ _ _ _
    have q := si h0; subst q
    exact sr (sa rfl (sn (SC.ret (finR (Wk.refl _) (lresT rfl lresN) rfl))))
noncomputable def pred_conjuncts : Nat → (List PredNode) → Int → Bool → Option ((List PredNode) × Int)
 | 0, _, _, _ => none
 | n + 1, p0, p1, p2 =>
  Option.bind (getI p0 p1) fun v229 =>
  Option.bind (α := Bool)
   (bif p2 then
    Option.bind (pred_Node_takes v229) fun r235 =>
    bif (r235 == (0 : Int)) then
     some true
    else
     bif p2 then
      some (v229.Kind == (4 : Int))
     else
      some false
   else
    bif p2 then
     some (v229.Kind == (4 : Int))
    else
     some false)
   fun y232 =>
  Option.bind (α := (List PredNode) × Int)
   (Option.bind (pred_Node_takes v229) fun r263 =>
   Option.bind (α := (List PredNode) × Int)
    (loop (Y := (List PredNode) × Int × Int) (W := (List PredNode) × Int) (fun (y268, y269, y270) =>
     bif (decide (y270 < r263)) then
      Option.bind (pred_conjuncts n p0 y269 y232) fun (r281, r282) =>
      bif decide ((r281.length + y268.length) * 56 ≤ room) then
      some (Sum.inl ((r281 ++ y268), r282, (w64 (y270 + (1 : Int)))))
      else none
     else
      some (Sum.inr (y268, y269))) (([] : List PredNode), (w64 (p1 - (1 : Int))), (0 : Int)))
    (fun e => some e))
   fun (y259, y260) =>
  Option.bind (α := (List PredNode))
   (Option.bind (α := Bool)
    (bif y232 then
     bif (v229.Kind == (2 : Int)) then
      some true
     else
      some (v229.Kind == (3 : Int))
    else
     some false)
    fun y290 =>
   bif y290 then
    bif decide ((y259.length + [v229].length) * 56 ≤ room) then
    some (y259 ++ [v229])
    else none
   else
    some y259)
   fun y288 =>
  some (y288, y260)
theorem pred_conjuncts_ok : ∀ (n : Nat) (p0 : List PredNode) (p1 : Int) (p2 : Bool) (r : (List PredNode) × Int) (h0 : pred_conjuncts n p0 p1 p2 = some r), CallAt Tryz.prog 73 [.d ((eL 6 ePredNode) p0), .d (eI p1), .d (eB p2)] [] (.tuple [.slc 0 6 0 r.1.length none, .d (eI r.2)]) [.row 6 (List.map ePredNode r.1) true]
 | 0, _, _, _, _, h0 => by cases h0
 | n + 1, p0, p1, p2, r, h0 => by
  unfold pred_conjuncts at h0
  refine fn0 [0, 1, 2] Tryz.func73 rfl rfl rfl rfl rfl ?_
  obtain ⟨v229, hv229, h0⟩ := ob h0
  refine sr (s1 (asg (v := .d .nils) rfl) (sa rfl (sn (sr (sm rfl (sm rfl (s1 (ial rfl rfl un27 ts80 (getI_some hv229).1 (map_get (getI_some hv229).2) rfl) (s1 (lod (v := .d (ePredNode v229)) rfl (ld_rop ts80 ta80 rfl)) (s1 (alo (k := 0) zo80 rfl) ?_)))))))))
  refine s0 (sto rfl rfl (sB (d' := .d (ePredNode v229)) ts80 rfl rfl rfl rfl rfl rfl rfl)) (sn (SC.seqP h0 (fun y => ⟨mk 64 [(0, .d ((eL 6 ePredNode) p0)), (1, .d (eI p1)), (2, .d (eB y)), (8, .ref 0 0 0)], [.box (.d (ePredNode v229))]⟩) ?_ ?_))
  ·intro u1_233 h1
   refine SC.region (sm rfl (sm rfl (sp h1 (fun h1 => ?_) (fun h1 => ?_))))
   ·obtain ⟨r235, hq234, h1⟩ := ob h1
    refine gw rfl (lod (v := .d (ePredNode v229)) rfl (ld_box ts80 ta80 rfl rfl)) (c0 (pred_Node_takes_ok v229 _ hq234) (ww rfl) rfl rfl rfl cb57 rfl (fun _ => rfl) (fun _ => rfl) (gw rfl (bi rfl rfl q_i64_eql) (s1 (pkt rfl rfl) (sm rfl (sp h1 (fun h1 => ?_) (fun h1 => ?_))))))
    ·have q := si h1; subst q
     exact kw rfl (kw rfl (kw rfl (kw rfl (kw rfl (kw rfl (s1 (pkt rfl rfl) (sa rfl (SO.nil ((wq rfl))))))))))
    ·refine gw rfl (mv rfl) (gw rfl (mv rfl) (sp h1 (fun h1 => ?_) (fun h1 => ?_)))
     ·have q := si h1; subst q
      exact gw rfl (far (k := 0) rfl fo80_0 ts3 rfl) (gw rfl (lod rfl (ld_box ts3 ta3 rfl rfl)) (gw rfl (bi rfl rfl q_i64_eql) (gw rfl (pkt rfl rfl) (s1 (pkf rfl rfl) (sa rfl (SO.nil ((wq rfl))))))))
     ·have q := si h1; subst q
      exact kw rfl (kw rfl (kw rfl (gw rfl (pkf rfl rfl) (s1 (pkf rfl rfl) (sa rfl (SO.nil ((wq rfl))))))))
   ·refine kw rfl (kw rfl (kw rfl (s1 (pkf rfl rfl) (sm rfl (gw rfl (mv rfl) (gw rfl (mv rfl) (sp h1 (fun h1 => ?_) (fun h1 => ?_))))))))
    ·have q := si h1; subst q
     exact gw rfl (far (k := 0) rfl fo80_0 ts3 rfl) (gw rfl (lod rfl (ld_box ts3 ta3 rfl rfl)) (gw rfl (bi rfl rfl q_i64_eql) (gw rfl (pkt rfl rfl) (s1 (pkf rfl rfl) (sa rfl (SO.nil ((wq rfl))))))))
    ·have q := si h1; subst q
     exact kw rfl (kw rfl (kw rfl (gw rfl (pkf rfl rfl) (s1 (pkf rfl rfl) (sa rfl (SO.nil ((wq rfl))))))))
  ·rintro y232 h0
   refine sr (s1 (asg (v := .d .nils) rfl) (sn (sr (sm rfl (s1 (bi rfl rfl q_i64_sub) (sa rfl (sn (SC.seqP h0 (fun y => ⟨mk 64 [(2, .d (eB y232)), (8, .ref 0 0 0), (9, .slc 1 6 0 y.1.length none), (10, .d (eI y.2))], [.box (.d (ePredNode v229)), .row 6 (List.map ePredNode y.1) true]⟩) ?_ ?_))))))))
   ·intro u1_261 h1
    obtain ⟨r263, hq262, h1⟩ := ob h1; obtain ⟨u2_279, h2, h1⟩ := ob h1
    refine sr (s1 (lod (v := .d (ePredNode v229)) rfl (ld_box ts80 ta80 rfl rfl)) (c0 (pred_Node_takes_ok v229 _ hq262) wf rfl rfl rfl cb57 rfl (fun _ => rfl) (fun _ => rfl) (sm rfl (sn (SC.blk (SC.loopB h2 (fun y => ⟨mk 64 [(0, .d ((eL 6 ePredNode) p0)), (2, .d (eB y232)), (8, .ref 0 0 0), (9, .slc 1 6 0 y.1.length none), (10, .d (eI y.2.1)), (33, .d (eI r263)), (34, .d (eI y.2.2))], [.box (.d (ePredNode v229)), .row 6 (List.map ePredNode y.1) true]⟩) (Wk.trans (Wk.pushE (σ' := [.box (.d (ePredNode v229)), .row 6 (List.map ePredNode ([] : List PredNode)) true]) (.row 6 [] true) (fun _ hh => by cases hh) rfl) (Wk.trans (Wk.env (e' := [(0, .d ((eL 6 ePredNode) p0)), (2, .d (eB y232)), (8, .ref 0 0 0), (9, .slc 1 6 0 (([] : List PredNode).length) none), (10, .d (eI (w64 (p1 - (1 : Int))))), (33, .d (eI r263)), (34, .d (eI (0 : Int)))]) (EW.cons (AW.refl _) (EW.cons (AW.refl _) (EW.cons (AW.refl _) (EW.cons (AW.slcn _ _ _) (EW.cons (AW.refl _) (EW.cons (AW.refl _) (EW.cons (AW.refl _) EW.nil)))))))) (wq rfl))) ?_))))))
    intro n284
    rintro ⟨y268, y269, y270⟩ w2_278 h3 hv3
    refine sr (s1 (bi rfl rfl q_i64_lss) (sn (sq (cB h3 rfl (fun h3 => ?_) (fun h3 => ?_)))))
    ·obtain ⟨⟨r281, r282⟩, hq280, h3⟩ := ob h3; obtain ⟨hg283, h3⟩ := gd h3
     refine sk (sq (SC.blk (sr (s1 (asg (v := .d .nils) rfl) (sn (sr (sm rfl (sm rfl (sm rfl ?_)))))))))
     refine cq [] [2] (pred_conjuncts_ok n p0 y269 y232 _ hq280) wf rfl rfl rfl cb73 rfl rfl rfl rfl rfl rfl rfl rfl (sm rfl (s1 (ext rfl rfl) (s1 (ext rfl rfl) (sa rfl (sa rfl (sn (SC.region (sm rfl (sm rfl ?_)))))))))
     refine s1 (app rfl rfl rfl rfl bc27 (aF (f := ePredNode) (xs := r281) (k := 3) rfl un27 ei80 rfl (el_full (xs := y268) rfl) hg283 rfl)) (sa rfl (SO.nil ?_))
     change SC _ _ _ _ _
     have q := si h3; subst q
     exact SC.region (s1 (bi rfl rfl q_i64_add) (sm rfl (SO.nil (lf (wc [0, 3] [0, 3] (by kernel_rfl) rfl (by kernel_rfl))))))
    ·have q := si h3; subst q; have q : _ = _ := hv3; subst q; have q := si h1; subst q
     exact SC.exit ((wq rfl))
   ·rintro ⟨y259, y260⟩ h0
    refine SC.seqP h0 (fun y => ⟨mk 64 [(9, .slc 0 6 0 y.length none), (10, .d (eI y260))], [.row 6 (List.map ePredNode y) true]⟩) ?_ ?_
    ·intro u1_289 h1
     refine SC.seqP h1 (fun y => ⟨mk 64 [(8, .ref 0 0 0), (9, .slc 1 6 0 y259.length none), (10, .d (eI y260)), (57, .d (eB y))], [.box (.d (ePredNode v229)), .row 6 (List.map ePredNode y259) true]⟩) ?_ ?_
     ·intro u2_291 h2
      refine SC.region (sm rfl (sm rfl (sp h2 (fun h2 => ?_) (fun h2 => ?_))))
      ·refine gw rfl (far (k := 0) rfl fo80_0 ts3 rfl) (gw rfl (lod rfl (ld_box ts3 ta3 rfl rfl)) (gw rfl (bi rfl rfl q_i64_eql) (gw rfl (mv rfl) (sp h2 (fun h2 => ?_) (fun h2 => ?_)))))
       ·have q := si h2; subst q
        exact kw rfl (kw rfl (kw rfl (gw rfl (pkt rfl rfl) (s1 (pkt rfl rfl) (SO.nil ((wq rfl)))))))
       ·have q := si h2; subst q
        exact gw rfl (far (k := 0) rfl fo80_0 ts3 rfl) (gw rfl (lod rfl (ld_box ts3 ta3 rfl rfl)) (gw rfl (bi rfl rfl q_i64_eql) (gw rfl (pkf rfl rfl) (s1 (pkt rfl rfl) (SO.nil ((wq rfl)))))))
      ·have q := si h2; subst q
       refine kw rfl (kw rfl (kw rfl (kw rfl (kw rfl (kw rfl (kw rfl (kw rfl (s1 (pkf rfl rfl) (SO.nil ?_)))))))))
       exact (wq rfl)
     ·rintro y290 h1
      refine cB h1 rfl (fun h1 => ?_) (fun h1 => ?_)
      ·obtain ⟨hg292, h1⟩ := gd h1; have q := si h1; subst q
       exact SC.region (sm rfl (s1 (lod (v := .d (ePredNode v229)) rfl (ld_box ts80 ta80 rfl rfl)) (s1 (bsn (k := 2) (ds := List.map ePredNode [v229]) (off := 0) (l' := [v229].length) rfl un27 ei80 rfl rfl (by rfl) rfl rfl rfl) (s1 (app rfl rfl rfl rfl bc27 (aF (f := ePredNode) (xs := y259) (k := 3) rfl un27 ei80 rfl (el_full (xs := [v229]) rfl) hg292 rfl)) (sa rfl (SO.nil ((wc [3] [3] (by kernel_rfl) rfl (by kernel_rfl)))))))))
      ·have q := si h1; subst q
       exact SC.skip ((wc [1] [1] (by kernel_rfl) rfl (by kernel_rfl)))
    ·rintro y288 h0
     have q := si h0; subst q
     exact sr (sm rfl (sm rfl (sa rfl (sa rfl (sn (SC.ret (finR (Wk.refl _) (lresT rfl (lresT rfl lresN)) rfl)))))))
noncomputable def pred_Node_fixes (p0 : PredNode) (p1 : Int) : Option Bool :=
 Option.bind (α := Bool)
 (bif (p0.Col == p1) then
 bif (p0.Kind == (3 : Int)) then
 some true
 else
 some (p0.Op == (3 : Int))
 else
 some false)
 fun y6 =>
 some y6
theorem pred_Node_fixes_ok (p0 : PredNode) (p1 : Int) (r : Bool) (h0 : pred_Node_fixes p0 p1 = some r) : CallAt Tryz.prog 76 [.d (ePredNode p0), .d (eI p1)] [] (.d (eB r)) [] := by
 unfold pred_Node_fixes at h0
 refine fn0 [0, 1] Tryz.func76 rfl rfl rfl rfl rfl ?_
 refine sr (s1 (bxo (k := 0) rfl rfl rfl) (sa rfl (sn (SC.seqP h0 (fun y => ⟨mk 19 [(4, .d (eB y))], []⟩) ?_ ?_))))
 ·intro u1_7 h1
  refine SC.region (s1 (far (k := 1) rfl fo80_1 ts3 rfl) (s1 (lod rfl (ld_box ts3 ta3 rfl rfl)) (sm rfl (s1 (bi rfl rfl q_i64_eql) (sm rfl (sp h1 (fun h1 => ?_) (fun h1 => ?_)))))))
  ·refine gw rfl (far (k := 0) rfl fo80_0 ts3 rfl) (gw rfl (lod rfl (ld_box ts3 ta3 rfl rfl)) (gw rfl (bi rfl rfl q_i64_eql) (gw rfl (mv rfl) (sp h1 (fun h1 => ?_) (fun h1 => ?_)))))
   ·have q := si h1; subst q
    exact kw rfl (kw rfl (kw rfl (gw rfl (pkt rfl rfl) (s1 (pkt rfl rfl) (sa rfl (SO.nil ((wc [] [] (by kernel_rfl) rfl (by kernel_rfl)))))))))
   ·have q := si h1; subst q
    exact gw rfl (far (k := 2) rfl fo80_2 ts3 rfl) (gw rfl (lod rfl (ld_box ts3 ta3 rfl rfl)) (gw rfl (bi rfl rfl q_i64_eql) (gw rfl (pkf rfl rfl) (s1 (pkt rfl rfl) (sa rfl (SO.nil ((wc [] [] (by kernel_rfl) rfl (by kernel_rfl)))))))))
  ·have q := si h1; subst q
   refine kw rfl (kw rfl (kw rfl (kw rfl (kw rfl (kw rfl (kw rfl (kw rfl (s1 (pkf rfl rfl) (sa rfl ?_)))))))))
   exact SO.nil ((wc [] [] (by kernel_rfl) rfl (by kernel_rfl)))
 ·rintro y6 h0
  have q := si h0; subst q
  exact SC.ret (finR (Wk.refl _) (lresT rfl lresN) rfl)
noncomputable def pred_Bounds_1 (p0 : PredNode) (p1 : ApiPart) : Option Bool :=
 Option.bind (pred_Node_fixes p0 p1.Col) fun r7 =>
 some r7
theorem pred_Bounds_1_ok (p0 : PredNode) (p1 : ApiPart) (r : Bool) (h0 : pred_Bounds_1 p0 p1 = some r) : CallAt Tryz.prog 75 [.d (ePredNode p0), .ref 0 0 0] [.box (.d (eApiPart p1))] (.d (eB r)) [.box (.d (eApiPart p1))] := by
 unfold pred_Bounds_1 at h0
 refine fn0 [0, 1] Tryz.func75 rfl rfl rfl rfl rfl ?_
 obtain ⟨r7, hq6, h0⟩ := ob h0; have q := si h0; subst q
 refine sr (s1 (bxo (k := 1) rfl rfl rfl) (sa rfl (sn (sr (s1 (lod (v := .d (ePredNode p0)) rfl (ld_box ts80 ta80 rfl rfl)) (s1 (far (k := 0) rfl fo78_0 ts3 rfl) (s1 (lod rfl (ld_box ts3 ta3 rfl rfl)) (c0 (pred_Node_fixes_ok p0 p1.Col _ hq6) wf rfl rfl rfl cb76 rfl (fun _ => rfl) (fun _ => rfl) (sa rfl ?_)))))))))
 exact sn (SC.ret (finR (wc (e' := [(3, .d (eB r7))]) [0] [0] (by kernel_rfl) rfl (by kernel_rfl)) (lresT rfl lresN) rfl))
noncomputable def slices_IndexFunc_pred_Node_pred_Node (p0 : List PredNode) (p1 : ApiPart) : Option Int :=
 bindE (Y := Unit) (E := Int)
 (Option.bind (α := Unit ⊕ Int)
 (loop (Y := Int) (W := Unit ⊕ Int) (fun y78 =>
 bif (decide (y78 < (p0.length : Int))) then
 Option.bind (getI p0 y78) fun v85 =>
 Option.bind (pred_Bounds_1 v85 p1) fun r87 =>
 bif r87 then
 some (Sum.inr (Sum.inr y78))
 else
 some (Sum.inl (w64 (y78 + (1 : Int))))
 else
 some (Sum.inr (Sum.inl ()))) (0 : Int))
 (Sum.elim (fun e => some (Sum.inl e)) (fun e => some (Sum.inr e))))
 (fun _ =>
 some (-1 : Int))
 (fun e => some e)
theorem slices_IndexFunc_pred_Node_pred_Node_ok (p0 : List PredNode) (p1 : ApiPart) (r : Int) (h0 : slices_IndexFunc_pred_Node_pred_Node p0 p1 = some r) : CallAt Tryz.prog 74 [.d ((eL 6 ePredNode) p0), .fn (.func 75) [] [.ref 0 0 0]] [.box (.d (eApiPart p1))] (.d (eI r)) [.box (.d (eApiPart p1))] := by
 unfold slices_IndexFunc_pred_Node_pred_Node at h0
 refine fn0 [0, 1] Tryz.func74 rfl rfl rfl rfl rfl ?_
 refine sr (sa rfl (sn (SC.seqB h0 (fun y => ⟨mk 19 [], [.box (.d (eApiPart p1))]⟩) ?_ ?_)))
 ·intro u1_74 h1 h0
  obtain ⟨u2_84, h2, h1⟩ := ob h1
  refine sr (sm rfl (s1 (len rfl rfl rfl (len_lst un27)) (sm rfl (sn (SC.blk (SC.loopB h2 (fun y => ⟨mk 19 [(0, .d ((eL 6 ePredNode) p0)), (1, .fn (.func 75) [] [.ref 0 0 0]), (7, .d (eI (p0.length : Int))), (8, .d (eI y))], [.box (.d (eApiPart p1))]⟩) (wq rfl) ?_))))))
  intro n88
  rintro y78 w2_83 h3 hv3
  refine sr (s1 (bi rfl rfl q_i64_lss) (sn (sq (cB h3 rfl (fun h3 => ?_) (fun h3 => ?_)))))
  ·obtain ⟨v85, hv85, h3⟩ := ob h3; obtain ⟨r87, hq86, h3⟩ := ob h3
   refine sk (sq (SC.blk (sr (sm rfl (sa rfl (sn (sr (sm rfl (sm rfl ?_)))))))))
   refine sm rfl (s1 (ial rfl rfl un27 ts80 (getI_some hv85).1 (map_get (getI_some hv85).2) rfl) (s1 (lod (v := .d (ePredNode v85)) rfl (ld_rop ts80 ta80 rfl)) (cq [0] [] (pred_Bounds_1_ok v85 p1 _ hq86) wf rfl rfl rfl cb75 rfl rfl rfl rfl rfl rfl rfl rfl (sn (cB h3 rfl (fun h3 => ?_) (fun h3 => ?_))))))
   ·have q := si h3; subst q; have q : _ = _ := hv3; subst q; have q := si h1; subst q; have q := si h0; subst q
    exact sr (sm rfl (sa rfl (sn (SC.ret (finR (Wk.refl _) (lresT rfl lresN) rfl)))))
   ·refine SC.skip ?_
    change SC _ _ _ _ _
    have q := si h3; subst q
    exact SC.region (s1 (bi rfl rfl q_i64_add) (sm rfl (SO.nil (lf (wq rfl)))))
  ·have q := si h3; subst q; have q : _ = _ := hv3; subst q; have q := si h1; subst q
   exact SC.exit (lf (wq rfl))
 ·intro _ h0
  have q := si h0; subst q
  exact sr (sa rfl (sn (SC.ret (finR (Wk.refl _) (lresT rfl lresN) rfl))))
noncomputable def value_Valid (p0 : ApiValue) : Option Bool :=
 bif (p0.Kind == (0 : Int)) then
 some (eqApiValue p0 (ApiValue.mk (0 : Int) (0 : UInt64) ([] : List UInt8)))
 else
 Option.bind (α := Bool)
 (bif (p0.Kind == (1 : Int)) then
 some (p0.Kind == (1 : Int))
 else
 some (p0.Kind == (2 : Int)))
 fun y26 =>
 bif y26 then
 some (p0.S == ([] : List UInt8))
 else
 bif (p0.Kind == (3 : Int)) then
 Option.bind (α := Bool)
 (bif (decide (p0.N ≤ (1 : UInt64))) then
 some (p0.S == ([] : List UInt8))
 else
 some false)
 fun y28 =>
 some y28
 else
 bif (p0.Kind == (4 : Int)) then
 Option.bind (α := Bool)
 (bif (p0.N == (0 : UInt64)) then
 some (decide ((p0.S.length : Int) ≤ (64 : Int)))
 else
 some false)
 fun y30 =>
 some y30
 else
 bif (p0.Kind == (5 : Int)) then
 Option.bind (α := Bool)
 (bif (p0.N == (0 : UInt64)) then
 bif (decide ((p0.S.length : Int) ≤ (64 : Int))) then
 Option.bind (validF p0.S) fun r37 =>
 some r37
 else
 some false
 else
 some false)
 fun y34 =>
 some y34
 else
 some false
theorem value_Valid_ok (p0 : ApiValue) (r : Bool) (h0 : value_Valid p0 = some r) : CallAt Tryz.prog 66 [.d (eApiValue p0)] [] (.d (eB r)) [] := by
 unfold value_Valid at h0
 refine fn0 [0] Tryz.func66 rfl rfl rfl rfl rfl ?_
 refine sr (s1 (bxo (k := 0) rfl rfl rfl) (sa rfl (sn (sq (sr (s1 (far (k := 0) rfl fo74_0 ts3 rfl) (s1 (lod rfl (ld_box ts3 ta3 rfl rfl)) (sn (SC.blk ?_)))))))))
 refine sr (s1 (bi rfl rfl q_i64_eql) (sa rfl (sn (cB h0 rfl (fun h0 => ?_) (fun h0 => ?_)))))
 ·have q := si h0; subst q
  exact sr (s1 (lod (v := .d (eApiValue p0)) rfl (ld_box ts74 ta74 rfl rfl)) (s1 (bld rfl (bd74_ )) (s1 (bi (v := .d (eB (eqApiValue p0 (ApiValue.mk (0 : Int) (0 : UInt64) ([] : List UInt8))))) rfl rfl (fun X Y => eqApiValue_eql_74 X Y p0 (ApiValue.mk (0 : Int) (0 : UInt64) ([] : List UInt8)))) (sa rfl (sn (SC.ret (finR (wc (e' := [(2, .d (eB (eqApiValue p0 (ApiValue.mk (0 : Int) (0 : UInt64) ([] : List UInt8)))))]) [] [] (by kernel_rfl) rfl (by kernel_rfl)) (lresT rfl lresN) rfl)))))))
 ·refine SC.seqP h0 (fun y => ⟨mk 53 [(1, .ref 0 0 0), (4, .d (eI p0.Kind)), (10, .d (eB y))], [.box (.d (eApiValue p0))]⟩) ?_ ?_
  ·intro u1_27 h1
   refine sr (s1 (bi rfl rfl q_i64_eql) (sa rfl (sn (cB h1 rfl (fun h1 => ?_) (fun h1 => ?_)))))
   ·have q := si h1; subst q
    exact SC.skip ((wq rfl))
   ·have q := si h1; subst q
    exact SC.region (s1 (bi rfl rfl q_i64_eql) (sa rfl (SO.nil ((wq rfl)))))
  ·rintro y26 h0
   refine cB h0 rfl (fun h0 => ?_) (fun h0 => ?_)
   ·have q := si h0; subst q
    exact sr (s1 (far (k := 2) rfl fo74_2 ts9 rfl) (s1 (lod rfl (ld_box ts9 ta9 rfl rfl)) (s1 (bi rfl rfl (q_str_eql (b := ([] : List UInt8)))) (sa rfl (sn (SC.ret (finR (wc (e' := [(2, .d (eB (p0.S == ([] : List UInt8))))]) [] [] (by kernel_rfl) rfl (by kernel_rfl)) (lresT rfl lresN) rfl)))))))
   ·refine sr (s1 (bi rfl rfl q_i64_eql) (sa rfl (sn (cB h0 rfl (fun h0 => ?_) (fun h0 => ?_)))))
    ·refine SC.seqP h0 (fun y => ⟨mk 53 [(2, .d (eB y))], []⟩) ?_ ?_
     ·intro u1_29 h1
      refine SC.region (s1 (far (k := 1) rfl fo74_1 ts72 rfl) (s1 (lod rfl (ld_box ts72 ta72 rfl rfl)) (s1 (bi rfl rfl (q_u64_leq (b := (1 : UInt64)))) (sm rfl (sp h1 (fun h1 => ?_) (fun h1 => ?_))))))
      ·have q := si h1; subst q
       exact gw rfl (far (k := 2) rfl fo74_2 ts9 rfl) (gw rfl (lod rfl (ld_box ts9 ta9 rfl rfl)) (gw rfl (bi rfl rfl (q_str_eql (b := ([] : List UInt8)))) (s1 (pkt rfl rfl) (sa rfl (SO.nil ((wc [] [] (by kernel_rfl) rfl (by kernel_rfl))))))))
      ·have q := si h1; subst q
       exact kw rfl (kw rfl (kw rfl (s1 (pkf rfl rfl) (sa rfl (SO.nil ((wc [] [] (by kernel_rfl) rfl (by kernel_rfl))))))))
     ·rintro y28 h0
      have q := si h0; subst q
      exact SC.ret (finR (Wk.refl _) (lresT rfl lresN) rfl)
    ·refine sr (s1 (bi rfl rfl q_i64_eql) (sa rfl (sn (cB h0 rfl (fun h0 => ?_) (fun h0 => ?_)))))
     ·refine SC.seqP h0 (fun y => ⟨mk 53 [(2, .d (eB y))], []⟩) ?_ ?_
      ·intro u1_31 h1
       refine SC.region (s1 (far (k := 1) rfl fo74_1 ts72 rfl) (s1 (lod rfl (ld_box ts72 ta72 rfl rfl)) (s1 (bi rfl rfl (q_u64_eql (b := (0 : UInt64)))) (sm rfl (sp h1 (fun h1 => ?_) (fun h1 => ?_))))))
       ·have q := si h1; subst q
        exact gw rfl (far (k := 2) rfl fo74_2 ts9 rfl) (gw rfl (lod rfl (ld_box ts9 ta9 rfl rfl)) (gw rfl (len rfl rfl rfl (len_str un9)) (gw rfl (bi rfl rfl q_i64_leq) (s1 (pkt rfl rfl) (sa rfl (SO.nil ((wc [] [] (by kernel_rfl) rfl (by kernel_rfl)))))))))
       ·have q := si h1; subst q
        exact kw rfl (kw rfl (kw rfl (kw rfl (s1 (pkf rfl rfl) (sa rfl (SO.nil ((wc [] [] (by kernel_rfl) rfl (by kernel_rfl)))))))))
      ·rintro y30 h0
       have q := si h0; subst q
       exact SC.ret (finR (Wk.refl _) (lresT rfl lresN) rfl)
     ·refine sr (s1 (bi rfl rfl q_i64_eql) (sa rfl (sn (cB h0 rfl (fun h0 => ?_) (fun h0 => ?_)))))
      ·refine SC.seqP h0 (fun y => ⟨mk 53 [(2, .d (eB y))], []⟩) ?_ ?_
       ·intro u1_35 h1
        refine SC.region (s1 (far (k := 1) rfl fo74_1 ts72 rfl) (s1 (lod rfl (ld_box ts72 ta72 rfl rfl)) (s1 (bi rfl rfl (q_u64_eql (b := (0 : UInt64)))) (sm rfl (sp h1 (fun h1 => ?_) (fun h1 => ?_))))))
        ·refine gw rfl (far (k := 2) rfl fo74_2 ts9 rfl) (gw rfl (lod rfl (ld_box ts9 ta9 rfl rfl)) (gw rfl (len rfl rfl rfl (len_str un9)) (gw rfl (bi rfl rfl q_i64_leq) (s1 (pkt rfl rfl) (sm rfl (sp h1 (fun h1 => ?_) (fun h1 => ?_)))))))
         ·obtain ⟨r37, hq36, h1⟩ := ob h1; have q := si h1; subst q
          exact gw rfl (far (k := 2) rfl fo74_2 ts9 rfl) (gw rfl (lod rfl (ld_box ts9 ta9 rfl rfl)) (c0 (valid_ok p0.S _ hq36) (ww rfl) rfl rfl rfl cb104 rfl (fun _ => rfl) (fun _ => rfl) (s1 (pkt rfl rfl) (sa rfl (SO.nil ((wc [] [] (by kernel_rfl) rfl (by kernel_rfl))))))))
         ·have q := si h1; subst q
          exact kw rfl (kw rfl (kw rfl (s1 (pkf rfl rfl) (sa rfl (SO.nil ((wc [] [] (by kernel_rfl) rfl (by kernel_rfl))))))))
        ·have q := si h1; subst q
         refine kw rfl (kw rfl (kw rfl (kw rfl (s1 (pkf rfl rfl) (sm rfl (kw rfl (kw rfl (kw rfl (s1 (pkf rfl rfl) ?_)))))))))
         exact sa rfl (SO.nil ((wc [] [] (by kernel_rfl) rfl (by kernel_rfl))))
       ·rintro y34 h0
        have q := si h0; subst q
        exact SC.ret (finR (Wk.refl _) (lresT rfl lresN) rfl)
      ·refine SC.skip ?_
       change SC _ _ _ _ _
       have q := si h0; subst q
       exact sr (sa rfl (sn (SC.ret (finR (wc (e' := [(2, .d (eB false))]) [] [] (by kernel_rfl) rfl (by kernel_rfl)) (lresT rfl lresN) rfl))))
noncomputable def key_Encode_1 (p0 : ApiValue) : Option Bool :=
 Option.bind (value_Valid p0) fun r7 =>
 some (!r7)
theorem key_Encode_1_ok (p0 : ApiValue) (r : Bool) (h0 : key_Encode_1 p0 = some r) : CallAt Tryz.prog 126 [.d (eApiValue p0)] [] (.d (eB r)) [] := by
 unfold key_Encode_1 at h0
 refine fn0 [0] Tryz.func126 rfl rfl rfl rfl rfl ?_
 obtain ⟨r7, hq6, h0⟩ := ob h0; have q := si h0; subst q
 refine sr (s1 (bxo (k := 0) rfl rfl rfl) (sa rfl (sn (sr (s1 (lod (v := .d (eApiValue p0)) rfl (ld_box ts74 ta74 rfl rfl)) (c0 (value_Valid_ok p0 _ hq6) wf rfl rfl rfl cb66 rfl (fun _ => rfl) (fun _ => rfl) (s1 (nt rfl) (sa rfl (sn ?_)))))))))
 exact SC.ret (finR (wc (e' := [(2, .d (eB (!r7)))]) [] [] (by kernel_rfl) rfl (by kernel_rfl)) (lresT rfl lresN) rfl)
noncomputable def slices_IndexFunc_api_Value_api_Value (p0 : List ApiValue) : Option Int :=
 bindE (Y := Unit) (E := Int)
 (Option.bind (α := Unit ⊕ Int)
 (loop (Y := Int) (W := Unit ⊕ Int) (fun y78 =>
 bif (decide (y78 < (p0.length : Int))) then
 Option.bind (getI p0 y78) fun v85 =>
 Option.bind (key_Encode_1 v85) fun r87 =>
 bif r87 then
 some (Sum.inr (Sum.inr y78))
 else
 some (Sum.inl (w64 (y78 + (1 : Int))))
 else
 some (Sum.inr (Sum.inl ()))) (0 : Int))
 (Sum.elim (fun e => some (Sum.inl e)) (fun e => some (Sum.inr e))))
 (fun _ =>
 some (-1 : Int))
 (fun e => some e)
theorem slices_IndexFunc_api_Value_api_Value_ok (p0 : List ApiValue) (r : Int) (h0 : slices_IndexFunc_api_Value_api_Value p0 = some r) : CallAt Tryz.prog 141 [.d ((eL 3 eApiValue) p0), .fn (.func 126) [] []] [] (.d (eI r)) [] := by
 unfold slices_IndexFunc_api_Value_api_Value at h0
 refine fn0 [0, 1] Tryz.func141 rfl rfl rfl rfl rfl ?_
 refine sr (sa rfl (sn (SC.seqB h0 (fun y => ⟨mk 19 [], []⟩) ?_ ?_)))
 ·intro u1_74 h1 h0
  obtain ⟨u2_84, h2, h1⟩ := ob h1
  refine sr (sm rfl (s1 (len rfl rfl rfl (len_lst un61)) (sm rfl (sn (SC.blk (SC.loopB h2 (fun y => ⟨mk 19 [(0, .d ((eL 3 eApiValue) p0)), (1, .fn (.func 126) [] []), (7, .d (eI (p0.length : Int))), (8, .d (eI y))], []⟩) (wq rfl) ?_))))))
  intro n88
  rintro y78 w2_83 h3 hv3
  refine sr (s1 (bi rfl rfl q_i64_lss) (sn (sq (cB h3 rfl (fun h3 => ?_) (fun h3 => ?_)))))
  ·obtain ⟨v85, hv85, h3⟩ := ob h3; obtain ⟨r87, hq86, h3⟩ := ob h3
   refine sk (sq (SC.blk (sr (sm rfl (sa rfl (sn (sr (sm rfl (sm rfl ?_)))))))))
   refine sm rfl (s1 (ial rfl rfl un61 ts74 (getI_some hv85).1 (map_get (getI_some hv85).2) rfl) (s1 (lod (v := .d (eApiValue v85)) rfl (ld_rop ts74 ta74 rfl)) (c0 (key_Encode_1_ok v85 _ hq86) wf rfl rfl rfl cb126 rfl (fun _ => rfl) (fun _ => rfl) (sn (cB h3 rfl (fun h3 => ?_) (fun h3 => ?_))))))
   ·have q := si h3; subst q; have q : _ = _ := hv3; subst q; have q := si h1; subst q; have q := si h0; subst q
    exact sr (sm rfl (sa rfl (sn (SC.ret (finR (Wk.refl _) (lresT rfl lresN) rfl)))))
   ·refine SC.skip ?_
    change SC _ _ _ _ _
    have q := si h3; subst q
    exact SC.region (s1 (bi rfl rfl q_i64_add) (sm rfl (SO.nil (lf (wq rfl)))))
  ·have q := si h3; subst q; have q : _ = _ := hv3; subst q; have q := si h1; subst q
   exact SC.exit (lf (wq rfl))
 ·intro _ h0
  have q := si h0; subst q
  exact sr (sa rfl (sn (SC.ret (finR (Wk.refl _) (lresT rfl lresN) rfl))))
noncomputable def slices_ContainsFunc_api_Value_api_Value (p0 : List ApiValue) : Option Bool :=
 Option.bind (slices_IndexFunc_api_Value_api_Value p0) fun r7 =>
 some (decide (r7 ≥ (0 : Int)))
theorem slices_ContainsFunc_api_Value_api_Value_ok (p0 : List ApiValue) (r : Bool) (h0 : slices_ContainsFunc_api_Value_api_Value p0 = some r) : CallAt Tryz.prog 125 [.d ((eL 3 eApiValue) p0), .fn (.func 126) [] []] [] (.d (eB r)) [] := by
 unfold slices_ContainsFunc_api_Value_api_Value at h0
 refine fn0 [0, 1] Tryz.func125 rfl rfl rfl rfl rfl ?_
 obtain ⟨r7, hq6, h0⟩ := ob h0; have q := si h0; subst q
 refine sr (sa rfl (sn (sr (sm rfl (sm rfl (c0 (slices_IndexFunc_api_Value_api_Value_ok p0 _ hq6) wf rfl rfl rfl cb141 rfl (fun _ => rfl) (fun _ => rfl) (s1 (bi rfl rfl q_i64_geq) (sa rfl (sn ?_)))))))))
 exact SC.ret (finR (Wk.refl _) (lresT rfl lresN) rfl)
noncomputable def pack_Out_put (p0 : List UInt8) : Option Unit :=
 bif decide (p0.length * 1 ≤ room) then
 some ()
 else none
theorem pack_Out_put_ok (p0 : List UInt8) (r : Unit) (h0 : pack_Out_put p0 = some r) : CallAt Tryz.prog 128 [.ref 0 0 0, .d ((eL 1 eU8) p0)] [.box (.d (.agg [.nils]))] (.tuple []) [.box (.agg [.slc 1 1 0 p0.length none]), .row 1 (List.map eU8 p0) true] := by
 unfold pack_Out_put at h0
 refine fn0 [0, 1] Tryz.func128 rfl rfl rfl rfl rfl ?_
 obtain ⟨hg3, h0⟩ := gd h0; have q := si h0; subst q
 refine sr (sm rfl (s1 (bi (v := .d (eB true)) rfl rfl (fun _ _ => nil_neq un161)) (sn (cT rfl (SC.region (sm rfl (sm rfl (s1 (nkr rfl) (s1 (far (k := 0) rfl fo158_0 ts156 rfl) ?_)))))))))
 exact s1 (lod rfl (ld_box ts156 ta156 rfl rfl)) (sm rfl (s1 (app rfl rfl rfl rfl bc156 (aN (f := eU8) (k := 1) un156 ei5 el_lst hg3 rfl)) (s1 (nkr rfl) (s1 (far (k := 0) rfl fo158_0 ts156 rfl) (s0 (sto rfl rfl (sB (d' := .agg [.slc 1 1 0 p0.length none]) ts156 rfl rfl rfl rfl rfl rfl rfl)) (SO.nil (finN (Wk.refl _) lresN rfl)))))))
noncomputable def pack_Out_Flag (p0 : Bool) : Option ((List UInt8)) :=
 bif p0 then
 Option.bind (pack_Out_put [(1 : UInt8)]) fun _ =>
 some [(1 : UInt8)]
 else
 Option.bind (pack_Out_put [(0 : UInt8)]) fun _ =>
 some [(0 : UInt8)]
theorem pack_Out_Flag_ok (p0 : Bool) (r : (List UInt8)) (h0 : pack_Out_Flag p0 = some r) : CallAt Tryz.prog 129 [.ref 0 0 0, .d (eB p0)] [.box (.d (.agg [.nils]))] (.tuple []) [.box (.agg [.slc 1 1 0 r.length none]), .row 1 (List.map eU8 r) true] := by
 unfold pack_Out_Flag at h0
 refine fn0 [0, 1] Tryz.func129 rfl rfl rfl rfl rfl ?_
 refine sr (sm rfl (sn (cB h0 rfl (fun h0 => ?_) (fun h0 => ?_))))
 ·obtain ⟨_, hq6, h0⟩ := ob h0; have q := si h0; subst q
  exact SC.region (sm rfl (s1 (bsn (k := 1) (ds := List.map eU8 [(1 : UInt8)]) (off := 0) (l' := [(1 : UInt8)].length) rfl un156 ei5 rfl rfl (by rfl) rfl rfl rfl) (cq (args' := [.ref 0 0 0, .slc 1 1 0 ([(1 : UInt8)].length) none]) (σc := [.box (.d (.agg [.nils])), .row 1 (List.map eU8 [(1 : UInt8)]) true]) [0, 1] [2] (CallAt.frz (ArgF.keep (ArgF.frz (fF rfl rfl rfl) (ArgF.nil _))) (fq [0] [2] (pack_Out_put_ok [(1 : UInt8)] _ hq6) rfl rfl rfl rfl rfl rfl rfl rfl)) wf rfl rfl rfl cb128 rfl rfl rfl rfl rfl rfl rfl rfl (SO.nil (finN (wc (e' := []) [0, 2] [0] (by kernel_rfl) rfl (by kernel_rfl)) lresN rfl)))))
 ·obtain ⟨_, hq7, h0⟩ := ob h0; have q := si h0; subst q
  exact SC.region (sm rfl (s1 (bsn (k := 1) (ds := List.map eU8 [(0 : UInt8)]) (off := 0) (l' := [(0 : UInt8)].length) rfl un156 ei5 rfl rfl (by rfl) rfl rfl rfl) (cq (args' := [.ref 0 0 0, .slc 1 1 0 ([(0 : UInt8)].length) none]) (σc := [.box (.d (.agg [.nils])), .row 1 (List.map eU8 [(0 : UInt8)]) true]) [0, 1] [2] (CallAt.frz (ArgF.keep (ArgF.frz (fF rfl rfl rfl) (ArgF.nil _))) (fq [0] [2] (pack_Out_put_ok [(0 : UInt8)] _ hq7) rfl rfl rfl rfl rfl rfl rfl rfl)) wf rfl rfl rfl cb128 rfl rfl rfl rfl rfl rfl rfl rfl (SO.nil (finN (wc (e' := []) [0, 2] [0] (by kernel_rfl) rfl (by kernel_rfl)) lresN rfl)))))
noncomputable def pack_Out_put_1 (p0 : List UInt8) (p1 : List UInt8) : Option Unit :=
 bif decide ((p1.length + p0.length) * 1 ≤ room) then
 some ()
 else none
theorem pack_Out_put_1_ok (p0 : List UInt8) (p1 : List UInt8) (r : Unit) (h0 : pack_Out_put_1 p0 p1 = some r) : CallAt Tryz.prog 128 [.ref 0 0 0, .d ((eL 1 eU8) p0)] [.box (.agg [.slc 1 1 0 p1.length none]), .row 1 (List.map eU8 p1) true] (.tuple []) [.box (.agg [.slc 2 1 0 ((p1 ++ p0).length) none]), .dead, .row 1 (List.map eU8 (p1 ++ p0)) true] := by
 unfold pack_Out_put_1 at h0
 refine fn0 [0, 1] Tryz.func128 rfl rfl rfl rfl rfl ?_
 obtain ⟨hg3, h0⟩ := gd h0; have q := si h0; subst q
 refine sr (sm rfl (s1 (bi (v := .d (eB true)) rfl rfl (fun _ _ => nil_neq un161)) (sn (cT rfl (SC.region (sm rfl (sm rfl (s1 (nkr rfl) (s1 (far (k := 0) rfl fo158_0 ts156 rfl) ?_)))))))))
 exact s1 (lod rfl (ld_box ts156 ta156 rfl rfl)) (sm rfl (s1 (app rfl rfl rfl rfl bc156 (aF (f := eU8) (xs := p1) (k := 2) rfl un156 ei5 rfl el_lst hg3 rfl)) (s1 (nkr rfl) (s1 (far (k := 0) rfl fo158_0 ts156 rfl) (s0 (sto rfl rfl (sB (d' := .agg [.slc 2 1 0 ((p1 ++ p0).length) none]) ts156 rfl rfl rfl rfl rfl rfl rfl)) (SO.nil (finN (Wk.refl _) lresN rfl)))))))
noncomputable def pack_Out_U16 (p0 : UInt16) (p1 : List UInt8) : Option Unit :=
 Option.bind (pack_Out_put_1 [((shr16 p0 8).toUInt8), (p0.toUInt8)] p1) fun _ =>
 some ()
theorem pack_Out_U16_ok (p0 : UInt16) (p1 : List UInt8) (r : Unit) (h0 : pack_Out_U16 p0 p1 = some r) : CallAt Tryz.prog 145 [.ref 0 0 0, .d (eU16 p0)] [.box (.agg [.slc 1 1 0 p1.length none]), .row 1 (List.map eU8 p1) true] (.tuple []) [.box (.agg [.slc 2 1 0 ((p1 ++ [((shr16 p0 8).toUInt8), (p0.toUInt8)]).length) none]), .dead, .row 1 (List.map eU8 (p1 ++ [((shr16 p0 8).toUInt8), (p0.toUInt8)])) true] := by
 unfold pack_Out_U16 at h0
 refine fn0 [0, 1] Tryz.func145 rfl rfl rfl rfl rfl ?_
 obtain ⟨_, hq3, h0⟩ := ob h0; have q := si h0; subst q
 refine SC.region (sm rfl (sm rfl (s1 (bi (v := .d (eU16 (shr16 p0 8))) rfl rfl (fun X Y => b_u16_shr _ X Y p0 _ (by decide))) (s1 (cvo rfl (cv_u16_u8 un201 un5 (shr16 p0 8))) (sm rfl (s1 (cvo rfl (cv_u16_u8 un201 un5 p0)) (s1 (bsn (k := 2) (ds := List.map eU8 [((shr16 p0 8).toUInt8), (p0.toUInt8)]) (off := 0) (l' := [((shr16 p0 8).toUInt8), (p0.toUInt8)].length) rfl un156 ei5 rfl rfl (by rfl) rfl rfl rfl) (cq (args' := [.ref 0 0 0, .slc 1 1 0 ([((shr16 p0 8).toUInt8), (p0.toUInt8)].length) none]) (σc := [.box (.agg [.slc 2 1 0 p1.length none]), .row 1 (List.map eU8 [((shr16 p0 8).toUInt8), (p0.toUInt8)]) true, .row 1 (List.map eU8 p1) true]) [0, 2, 1] [3] (CallAt.frz (ArgF.keep (ArgF.frz (fF rfl rfl rfl) (ArgF.nil _))) (fq [0, 2] [3] (pack_Out_put_1_ok [((shr16 p0 8).toUInt8), (p0.toUInt8)] p1 _ hq3) rfl rfl rfl rfl rfl rfl rfl rfl)) wf rfl rfl rfl cb128 rfl rfl rfl rfl rfl rfl rfl rfl (SO.nil ?_)))))))))
 exact finN (wc (e' := []) [0, 1, 3] [0, 1] (by kernel_rfl) rfl (by kernel_rfl)) lresN rfl
noncomputable def pack_Out_U32 (p0 : UInt32) (p1 : List UInt8) : Option Unit :=
 Option.bind (pack_Out_U16 ((shr32 p0 16).toUInt16) p1) fun _ =>
 Option.bind (pack_Out_U16 (p0.toUInt16) (p1 ++ [((shr16 ((shr32 p0 16).toUInt16) 8).toUInt8), (((shr32 p0 16).toUInt16).toUInt8)])) fun _ =>
 some ()
theorem pack_Out_U32_ok (p0 : UInt32) (p1 : List UInt8) (r : Unit) (h0 : pack_Out_U32 p0 p1 = some r) : CallAt Tryz.prog 144 [.ref 0 0 0, .d (eU32 p0)] [.box (.agg [.slc 1 1 0 p1.length none]), .row 1 (List.map eU8 p1) true] (.tuple []) [.box (.agg [.slc 2 1 0 (((p1 ++ [((shr16 ((shr32 p0 16).toUInt16) 8).toUInt8), (((shr32 p0 16).toUInt16).toUInt8)]) ++ [((shr16 (p0.toUInt16) 8).toUInt8), ((p0.toUInt16).toUInt8)]).length) none]), .dead, .row 1 (List.map eU8 ((p1 ++ [((shr16 ((shr32 p0 16).toUInt16) 8).toUInt8), (((shr32 p0 16).toUInt16).toUInt8)]) ++ [((shr16 (p0.toUInt16) 8).toUInt8), ((p0.toUInt16).toUInt8)])) true] := by
 unfold pack_Out_U32 at h0
 refine fn0 [0, 1] Tryz.func144 rfl rfl rfl rfl rfl ?_
 obtain ⟨_, hq5, h0⟩ := ob h0; obtain ⟨_, hq6, h0⟩ := ob h0; have q := si h0; subst q
 refine sr (sm rfl (sm rfl (s1 (bi (v := .d (eU32 (shr32 p0 16))) rfl rfl (fun X Y => b_u32_shr _ X Y p0 _ (by decide))) (s1 (cvo rfl (cv_u32_u16 un173 un201 (shr32 p0 16))) (cq [0, 1] [2] (pack_Out_U16_ok ((shr32 p0 16).toUInt16) p1 _ hq5) wf rfl rfl rfl cb145 rfl rfl rfl rfl rfl rfl rfl rfl (sn (SC.region (sm rfl (sm rfl ?_)))))))))
 exact s1 (cvo rfl (cv_u32_u16 un173 un201 p0)) (cq [0, 2] [3] (pack_Out_U16_ok (p0.toUInt16) (p1 ++ [((shr16 ((shr32 p0 16).toUInt16) 8).toUInt8), (((shr32 p0 16).toUInt16).toUInt8)]) _ hq6) wf rfl rfl rfl cb145 rfl rfl rfl rfl rfl rfl rfl rfl (SO.nil (finN (wc (e' := []) [0, 1, 3] [0, 1] (by kernel_rfl) rfl (by kernel_rfl)) lresN rfl)))
noncomputable def pack_Out_U64 (p0 : UInt64) (p1 : List UInt8) : Option Unit :=
 Option.bind (pack_Out_U32 ((shr64 p0 32).toUInt32) p1) fun _ =>
 Option.bind (pack_Out_U32 (p0.toUInt32) ((p1 ++ [((shr16 ((shr32 ((shr64 p0 32).toUInt32) 16).toUInt16) 8).toUInt8), (((shr32 ((shr64 p0 32).toUInt32) 16).toUInt16).toUInt8)]) ++ [((shr16 (((shr64 p0 32).toUInt32).toUInt16) 8).toUInt8), ((((shr64 p0 32).toUInt32).toUInt16).toUInt8)])) fun _ =>
 some ()
theorem pack_Out_U64_ok (p0 : UInt64) (p1 : List UInt8) (r : Unit) (h0 : pack_Out_U64 p0 p1 = some r) : CallAt Tryz.prog 130 [.ref 0 0 0, .d (eU64 p0)] [.box (.agg [.slc 1 1 0 p1.length none]), .row 1 (List.map eU8 p1) true] (.tuple []) [.box (.agg [.slc 2 1 0 (((((p1 ++ [((shr16 ((shr32 ((shr64 p0 32).toUInt32) 16).toUInt16) 8).toUInt8), (((shr32 ((shr64 p0 32).toUInt32) 16).toUInt16).toUInt8)]) ++ [((shr16 (((shr64 p0 32).toUInt32).toUInt16) 8).toUInt8), ((((shr64 p0 32).toUInt32).toUInt16).toUInt8)]) ++ [((shr16 ((shr32 (p0.toUInt32) 16).toUInt16) 8).toUInt8), (((shr32 (p0.toUInt32) 16).toUInt16).toUInt8)]) ++ [((shr16 ((p0.toUInt32).toUInt16) 8).toUInt8), (((p0.toUInt32).toUInt16).toUInt8)]).length) none]), .dead, .row 1 (List.map eU8 ((((p1 ++ [((shr16 ((shr32 ((shr64 p0 32).toUInt32) 16).toUInt16) 8).toUInt8), (((shr32 ((shr64 p0 32).toUInt32) 16).toUInt16).toUInt8)]) ++ [((shr16 (((shr64 p0 32).toUInt32).toUInt16) 8).toUInt8), ((((shr64 p0 32).toUInt32).toUInt16).toUInt8)]) ++ [((shr16 ((shr32 (p0.toUInt32) 16).toUInt16) 8).toUInt8), (((shr32 (p0.toUInt32) 16).toUInt16).toUInt8)]) ++ [((shr16 ((p0.toUInt32).toUInt16) 8).toUInt8), (((p0.toUInt32).toUInt16).toUInt8)])) true] := by
 unfold pack_Out_U64 at h0
 refine fn0 [0, 1] Tryz.func130 rfl rfl rfl rfl rfl ?_
 obtain ⟨_, hq5, h0⟩ := ob h0; obtain ⟨_, hq6, h0⟩ := ob h0; have q := si h0; subst q
 refine sr (sm rfl (sm rfl (s1 (bi (v := .d (eU64 (shr64 p0 32))) rfl rfl (fun X Y => b_u64_shr _ X Y p0 _ (by decide))) (s1 (cvo rfl (cv_u64_u32 un72 un173 (shr64 p0 32))) (cq [0, 1] [2] (pack_Out_U32_ok ((shr64 p0 32).toUInt32) p1 _ hq5) wf rfl rfl rfl cb144 rfl rfl rfl rfl rfl rfl rfl rfl (sn (SC.region (sm rfl (sm rfl ?_)))))))))
 exact s1 (cvo rfl (cv_u64_u32 un72 un173 p0)) (cq [0, 2] [3] (pack_Out_U32_ok (p0.toUInt32) ((p1 ++ [((shr16 ((shr32 ((shr64 p0 32).toUInt32) 16).toUInt16) 8).toUInt8), (((shr32 ((shr64 p0 32).toUInt32) 16).toUInt16).toUInt8)]) ++ [((shr16 (((shr64 p0 32).toUInt32).toUInt16) 8).toUInt8), ((((shr64 p0 32).toUInt32).toUInt16).toUInt8)]) _ hq6) wf rfl rfl rfl cb144 rfl rfl rfl rfl rfl rfl rfl rfl (SO.nil (finN (wc (e' := []) [0, 1, 3] [0, 1] (by kernel_rfl) rfl (by kernel_rfl)) lresN rfl)))
noncomputable def pack_Out_U8 (p0 : UInt8) (p1 : List UInt8) : Option Unit :=
 Option.bind (pack_Out_put_1 [p0] p1) fun _ =>
 some ()
theorem pack_Out_U8_ok (p0 : UInt8) (p1 : List UInt8) (r : Unit) (h0 : pack_Out_U8 p0 p1 = some r) : CallAt Tryz.prog 101 [.ref 0 0 0, .d (eU8 p0)] [.box (.agg [.slc 1 1 0 p1.length none]), .row 1 (List.map eU8 p1) true] (.tuple []) [.box (.agg [.slc 2 1 0 ((p1 ++ [p0]).length) none]), .dead, .row 1 (List.map eU8 (p1 ++ [p0])) true] := by
 unfold pack_Out_U8 at h0
 refine fn0 [0, 1] Tryz.func101 rfl rfl rfl rfl rfl ?_
 obtain ⟨_, hq3, h0⟩ := ob h0; have q := si h0; subst q
 exact SC.region (sm rfl (sm rfl (s1 (bsn (k := 2) (ds := List.map eU8 [p0]) (off := 0) (l' := [p0].length) rfl un156 ei5 rfl rfl (by rfl) rfl rfl rfl) (cq (args' := [.ref 0 0 0, .slc 1 1 0 ([p0].length) none]) (σc := [.box (.agg [.slc 2 1 0 p1.length none]), .row 1 (List.map eU8 [p0]) true, .row 1 (List.map eU8 p1) true]) [0, 2, 1] [3] (CallAt.frz (ArgF.keep (ArgF.frz (fF rfl rfl rfl) (ArgF.nil _))) (fq [0, 2] [3] (pack_Out_put_1_ok [p0] p1 _ hq3) rfl rfl rfl rfl rfl rfl rfl rfl)) wf rfl rfl rfl cb128 rfl rfl rfl rfl rfl rfl rfl rfl (SO.nil (finN (wc (e' := []) [0, 1, 3] [0, 1] (by kernel_rfl) rfl (by kernel_rfl)) lresN rfl))))))
noncomputable def pack_Out_Bytes (p0 : List UInt8) : Option Unit :=
 bif decide (p0.length * 1 ≤ room) then
 some ()
 else none
theorem pack_Out_Bytes_ok (p0 : List UInt8) (r : Unit) (h0 : pack_Out_Bytes p0 = some r) : CallAt Tryz.prog 103 [.ref 0 0 0] [.box (.agg [.slc 1 1 0 p0.length none]), .row 1 (List.map eU8 p0) true] (.slc 2 1 0 p0.length none) [.box (.agg [.slc 1 1 0 p0.length none]), .row 1 (List.map eU8 p0) true, .row 1 (List.map eU8 p0) true] := by
 unfold pack_Out_Bytes at h0
 refine fn0 [0] Tryz.func103 rfl rfl rfl rfl rfl ?_
 obtain ⟨hg3, h0⟩ := gd h0; have q := si h0; subst q
 refine sr (s1 (asg (v := .d .nils) rfl) (sn (sq (sr (sm rfl (s1 (bi (v := .d (eB false)) rfl rfl (fun _ _ => nil_eql un161)) (sn (cF rfl (sk ?_)))))))))
 exact sr (sm rfl (s1 (nkr rfl) (s1 (far (k := 0) rfl fo158_0 ts156 rfl) (s1 (lod rfl (ld_box ts156 ta156 rfl rfl)) (s1 (app rfl rfl rfl rfl bc156 (aN (f := eU8) (k := 2) un156 ei5 (el_full (xs := p0) rfl) hg3 rfl)) (sa rfl (sn (SC.ret (finR (Wk.refl _) (lresT rfl lresN) rfl)))))))))
noncomputable def key_turned (p0 : List UInt8) : Option ((List UInt8)) :=
 Option.bind (α := (List UInt8))
 (Option.bind (α := (List UInt8))
 (loop (Y := (List UInt8) × Int) (W := (List UInt8)) (fun (y75, y76) =>
 bif (decide (y76 < (p0.length : Int))) then
 Option.bind (getI y75 y76) fun v83 =>
 Option.bind (getI y75 y76) fun v84 =>
 some (Sum.inl ((List.set y75 y76.toNat (~~~ v83)), (w64 (y76 + (1 : Int)))))
 else
 some (Sum.inr y75)) (p0, (0 : Int)))
 (fun e => some e))
 fun y71 =>
 some y71
theorem key_turned_ok (p0 : List UInt8) (r : (List UInt8)) (h0 : key_turned p0 = some r) : CallAt Tryz.prog 143 [.slc 0 1 0 p0.length none] [.row 1 (List.map eU8 p0) true] (.slc 0 1 0 r.length none) [.row 1 (List.map eU8 r) true] := by
 unfold key_turned at h0
 refine fn0 [0] Tryz.func143 rfl rfl rfl rfl rfl ?_
 refine sr (s1 (asg (v := .d .nils) rfl) (sn (SC.seqP h0 (fun y => ⟨mk 19 [(0, .slc 0 1 0 y.length none)], [.row 1 (List.map eU8 y) true]⟩) ?_ ?_)))
 ·intro u1_72 h1
  obtain ⟨u2_82, h2, h1⟩ := ob h1
  refine sr (sm rfl (s1 (len rfl rfl rfl (len_slc un156)) (sm rfl (sn (SC.blk (SC.loopB h2 (fun y => ⟨mk 19 [(0, .slc 0 1 0 y.1.length none), (5, .d (eI (p0.length : Int))), (6, .d (eI y.2))], [.row 1 (List.map eU8 y.1) true]⟩) (wq rfl) ?_))))))
  intro n85
  rintro ⟨y75, y76⟩ w2_81 h3 hv3
  refine sr (s1 (bi rfl rfl q_i64_lss) (sn (sq (cB h3 rfl (fun h3 => ?_) (fun h3 => ?_)))))
  ·obtain ⟨v83, hv83, h3⟩ := ob h3; obtain ⟨v84, hv84, h3⟩ := ob h3
   refine sk (sq (SC.blk (sr (sm rfl (sa rfl (sn (SC.region (sm rfl (sm rfl ?_)))))))))
   refine sm rfl (sm rfl (s1 (iaz rfl rfl un156 ts5 (getI_lt hv83)) (s1 (lod rfl (ld_row ts5 ta5 rfl (map_get (getI_some hv83).2) rfl)) (s1 (uo rfl rfl (un_u8_xor v83)) (s1 (iaz rfl rfl un156 ts5 (getI_lt hv84)) (s0 (sto (b := .d (eU8 (~~~ v83))) rfl rfl (sR (f := eU8) (v := (~~~ v83)) ts5 rfl rfl rfl rfl (getI_some hv84).2 rfl rfl)) (SO.nil ?_)))))))
   change SC _ _ _ _ _
   have q := si h3; subst q
   exact SC.region (s1 (bi rfl rfl q_i64_add) (sm rfl (SO.nil (lf (Wk.env (EW.cons (AW.slc rfl (by simp)) (EW.cons (AW.refl _) (EW.cons (AW.refl _) EW.nil))))))))
  ·have q := si h3; subst q; have q : _ = _ := hv3; subst q; have q := si h1; subst q
   exact SC.exit ((wq rfl))
 ·rintro y71 h0
  have q := si h0; subst q
  exact sr (sm rfl (sa rfl (sn (SC.ret (finR (Wk.refl _) (lresT rfl lresN) rfl)))))
noncomputable def key_one (p0 : ApiValue) (p1 : Bool) : Option ((List UInt8)) :=
 Option.bind (pack_Out_Flag (p0.Kind != (0 : Int))) fun r57 =>
 Option.bind (α := (List UInt8))
 (bif (p0.Kind == (1 : Int)) then
 Option.bind (pack_Out_U64 (p0.N ^^^ (9223372036854775808 : UInt64)) r57) fun _ =>
 some ((((r57 ++ [((shr16 ((shr32 ((shr64 (p0.N ^^^ (9223372036854775808 : UInt64)) 32).toUInt32) 16).toUInt16) 8).toUInt8), (((shr32 ((shr64 (p0.N ^^^ (9223372036854775808 : UInt64)) 32).toUInt32) 16).toUInt16).toUInt8)]) ++ [((shr16 (((shr64 (p0.N ^^^ (9223372036854775808 : UInt64)) 32).toUInt32).toUInt16) 8).toUInt8), ((((shr64 (p0.N ^^^ (9223372036854775808 : UInt64)) 32).toUInt32).toUInt16).toUInt8)]) ++ [((shr16 ((shr32 ((p0.N ^^^ (9223372036854775808 : UInt64)).toUInt32) 16).toUInt16) 8).toUInt8), (((shr32 ((p0.N ^^^ (9223372036854775808 : UInt64)).toUInt32) 16).toUInt16).toUInt8)]) ++ [((shr16 (((p0.N ^^^ (9223372036854775808 : UInt64)).toUInt32).toUInt16) 8).toUInt8), ((((p0.N ^^^ (9223372036854775808 : UInt64)).toUInt32).toUInt16).toUInt8)])
 else
 bif (p0.Kind == (2 : Int)) then
 Option.bind (pack_Out_U64 p0.N r57) fun _ =>
 some ((((r57 ++ [((shr16 ((shr32 ((shr64 p0.N 32).toUInt32) 16).toUInt16) 8).toUInt8), (((shr32 ((shr64 p0.N 32).toUInt32) 16).toUInt16).toUInt8)]) ++ [((shr16 (((shr64 p0.N 32).toUInt32).toUInt16) 8).toUInt8), ((((shr64 p0.N 32).toUInt32).toUInt16).toUInt8)]) ++ [((shr16 ((shr32 (p0.N.toUInt32) 16).toUInt16) 8).toUInt8), (((shr32 (p0.N.toUInt32) 16).toUInt16).toUInt8)]) ++ [((shr16 ((p0.N.toUInt32).toUInt16) 8).toUInt8), (((p0.N.toUInt32).toUInt16).toUInt8)])
 else
 bif (p0.Kind == (3 : Int)) then
 Option.bind (pack_Out_U8 (p0.N.toUInt8) r57) fun _ =>
 some (r57 ++ [(p0.N.toUInt8)])
 else
 some r57)
 fun y61 =>
 Option.bind (pack_Out_Bytes y61) fun _ =>
 Option.bind (α := (List UInt8))
 (Option.bind (α := Bool)
 (bif (p0.Kind == (4 : Int)) then
 some true
 else
 some (p0.Kind == (5 : Int)))
 fun y75 =>
 bif y75 then
 Option.bind (replF p0.S ([0] : List UInt8) ([0, 255] : List UInt8)) fun r78 =>
 bif decide ((y61.length + r78.length) * 1 ≤ room) then
 bif decide (((y61 ++ r78).length + [(0 : UInt8), (0 : UInt8)].length) * 1 ≤ room) then
 some ((y61 ++ r78) ++ [(0 : UInt8), (0 : UInt8)])
 else none
 else none
 else
 some y61)
 fun y73 =>
 bif p1 then
 Option.bind (key_turned y73) fun r82 =>
 some r82
 else
 some y73
theorem key_one_ok (p0 : ApiValue) (p1 : Bool) (r : (List UInt8)) (h0 : key_one p0 p1 = some r) : CallAt Tryz.prog 127 [.d (eApiValue p0), .d (eB p1)] [] (.d ((eL 1 eU8) r)) [] := by
 unfold key_one at h0
 refine fn0 [0, 1] Tryz.func127 rfl rfl rfl rfl rfl ?_
 obtain ⟨r57, hq56, h0⟩ := ob h0
 refine sr (s1 (bxo (k := 0) rfl rfl rfl) (s1 (asg (v := .d .nils) rfl) (sn (sr (s1 (alo (k := 1) zo158 rfl) (sn (sr (s1 (far (k := 0) rfl fo74_0 ts3 rfl) (s1 (lod rfl (ld_box ts3 ta3 rfl rfl)) ?_)))))))))
 refine s1 (bi rfl rfl q_i64_neq) (cq [1] [2] (pack_Out_Flag_ok (p0.Kind != (0 : Int)) _ hq56) wf rfl rfl rfl cb129 rfl rfl rfl rfl rfl rfl rfl rfl (sn (SC.seqP h0 (fun y => ⟨mk 51 [(1, .d (eB p1)), (2, .ref 0 0 0), (5, .ref 1 0 0)], [.box (.d (eApiValue p0)), .box (.agg [.slc 2 1 0 y.length none]), .row 1 (List.map eU8 y) true]⟩) ?_ ?_)))
 ·intro u1_62 h1
  refine sr (s1 (far (k := 0) rfl fo74_0 ts3 rfl) (s1 (lod rfl (ld_box ts3 ta3 rfl rfl)) (sn (SC.blk (sr (s1 (bi rfl rfl q_i64_eql) (sa rfl (sn (cB h1 rfl (fun h1 => ?_) (fun h1 => ?_))))))))))
  ·obtain ⟨_, hq63, h1⟩ := ob h1; have q := si h1; subst q
   exact SC.region (s1 (far (k := 1) rfl fo74_1 ts72 rfl) (s1 (lod rfl (ld_box ts72 ta72 rfl rfl)) (s1 (bi rfl rfl (q_u64_xor (b := (9223372036854775808 : UInt64)))) (cq [1, 2] [3] (pack_Out_U64_ok (p0.N ^^^ (9223372036854775808 : UInt64)) r57 _ hq63) wf rfl rfl rfl cb130 rfl rfl rfl rfl rfl rfl rfl rfl (SO.nil ((wc [0, 1, 3] [0, 1] (by kernel_rfl) rfl (by kernel_rfl))))))))
  ·refine sr (s1 (bi rfl rfl q_i64_eql) (sa rfl (sn (cB h1 rfl (fun h1 => ?_) (fun h1 => ?_)))))
   ·obtain ⟨_, hq64, h1⟩ := ob h1; have q := si h1; subst q
    exact SC.region (s1 (far (k := 1) rfl fo74_1 ts72 rfl) (s1 (lod rfl (ld_box ts72 ta72 rfl rfl)) (cq [1, 2] [3] (pack_Out_U64_ok p0.N r57 _ hq64) wf rfl rfl rfl cb130 rfl rfl rfl rfl rfl rfl rfl rfl (SO.nil ((wc [0, 1, 3] [0, 1] (by kernel_rfl) rfl (by kernel_rfl)))))))
   ·refine sr (s1 (bi rfl rfl q_i64_eql) (sa rfl (sn (cB h1 rfl (fun h1 => ?_) (fun h1 => ?_)))))
    ·obtain ⟨_, hq65, h1⟩ := ob h1; have q := si h1; subst q
     exact SC.region (s1 (far (k := 1) rfl fo74_1 ts72 rfl) (s1 (lod rfl (ld_box ts72 ta72 rfl rfl)) (s1 (cvo rfl (cv_u64_u8 un72 un5 p0.N)) (cq [1, 2] [3] (pack_Out_U8_ok (p0.N.toUInt8) r57 _ hq65) wf rfl rfl rfl cb101 rfl rfl rfl rfl rfl rfl rfl rfl (SO.nil ((wc [0, 1, 3] [0, 1] (by kernel_rfl) rfl (by kernel_rfl))))))))
    ·have q := si h1; subst q
     exact SC.skip ((wq rfl))
 ·rintro y61 h0
  obtain ⟨_, hq66, h0⟩ := ob h0
  refine sr (cq [1, 2] [3] (pack_Out_Bytes_ok y61 _ hq66) wf rfl rfl rfl cb103 rfl rfl rfl rfl rfl rfl rfl rfl (sa rfl (sn (SC.seqP h0 (fun y => ⟨mk 51 [(1, .d (eB p1)), (6, .slc 0 1 0 y.length none)], [.row 1 (List.map eU8 y) true]⟩) ?_ ?_))))
  ·intro u1_74 h1
   refine SC.seqP h1 (fun y => ⟨mk 51 [(1, .d (eB p1)), (2, .ref 0 0 0), (6, .slc 1 1 0 y61.length none), (38, .d (eB y))], [.box (.d (eApiValue p0)), .row 1 (List.map eU8 y61) true]⟩) ?_ ?_
   ·intro u2_76 h2
    refine SC.region (s1 (far (k := 0) rfl fo74_0 ts3 rfl) (s1 (lod rfl (ld_box ts3 ta3 rfl rfl)) (s1 (bi rfl rfl q_i64_eql) (sm rfl (sp h2 (fun h2 => ?_) (fun h2 => ?_))))))
    ·have q := si h2; subst q
     exact kw rfl (kw rfl (kw rfl (s1 (pkt rfl rfl) (SO.nil ((wc [0, 3] [0, 3] (by kernel_rfl) rfl (by kernel_rfl)))))))
    ·have q := si h2; subst q
     exact gw rfl (far (k := 0) rfl fo74_0 ts3 rfl) (gw rfl (lod rfl (ld_box ts3 ta3 rfl rfl)) (gw rfl (bi rfl rfl q_i64_eql) (s1 (pkf rfl rfl) (SO.nil ((wc [0, 3] [0, 3] (by kernel_rfl) rfl (by kernel_rfl)))))))
   ·rintro y75 h1
    refine cB h1 rfl (fun h1 => ?_) (fun h1 => ?_)
    ·obtain ⟨r78, hq77, h1⟩ := ob h1; obtain ⟨hg79, h1⟩ := gd h1; obtain ⟨hg80, h1⟩ := gd h1; have q := si h1; subst q
     refine sr (sm rfl (s1 (far (k := 2) rfl fo74_2 ts9 rfl) (s1 (lod rfl (ld_box ts9 ta9 rfl rfl)) (c0 (repl_ok p0.S ([0] : List UInt8) ([0, 255] : List UInt8) _ hq77) wf rfl rfl rfl cb142 rfl (fun _ => rfl) (fun _ => rfl) (s1 (app rfl rfl rfl rfl bc9 (aF (f := eU8) (xs := y61) (k := 2) rfl un156 ei5 rfl el_str hg79 rfl)) (sa rfl (sn (SC.region (sm rfl ?_)))))))))
     exact s1 (bsn (k := 3) (ds := List.map eU8 [(0 : UInt8), (0 : UInt8)]) (off := 0) (l' := [(0 : UInt8), (0 : UInt8)].length) rfl un156 ei5 rfl rfl (by rfl) rfl rfl rfl) (s1 (app rfl rfl rfl rfl bc156 (aF (f := eU8) (xs := (y61 ++ r78)) (k := 4) rfl un156 ei5 rfl (el_full (xs := [(0 : UInt8), (0 : UInt8)]) rfl) hg80 rfl)) (sa rfl (SO.nil ((wc [4] [4] (by kernel_rfl) rfl (by kernel_rfl))))))
    ·have q := si h1; subst q
     exact SC.skip ((wc [1] [1] (by kernel_rfl) rfl (by kernel_rfl)))
  ·rintro y73 h0
   refine sq (sr (sm rfl (sn (cB h0 rfl (fun h0 => ?_) (fun h0 => ?_)))))
   ·obtain ⟨r82, hq81, h0⟩ := ob h0; have q := si h0; subst q
    exact sr (sm rfl (cq [0] [] (key_turned_ok y73 _ hq81) wf rfl rfl rfl cb143 rfl rfl rfl rfl rfl rfl rfl rfl (sa rfl (sn (SC.ret (finR (Wk.trans (Wk.frz (i := 4) (x := .slc 0 1 0 r82.length none) rfl rfl (fF rfl rfl rfl)) (wc (e' := [(4, .d ((eL 1 eU8) r82))]) [] [] (by kernel_rfl) rfl (by kernel_rfl))) (lresT rfl lresN) rfl))))))
   ·have q := si h0; subst q
    exact sk (sr (sm rfl (sa rfl (sn (SC.ret (finR (Wk.trans (Wk.frz (i := 4) (x := .slc 0 1 0 y73.length none) rfl rfl (fF rfl rfl rfl)) (wc (e' := [(4, .d ((eL 1 eU8) y73))]) [] [] (by kernel_rfl) rfl (by kernel_rfl))) (lresT rfl lresN) rfl))))))
noncomputable def key_Encode (p0 : List ApiValue) (p1 : List Bool) : Option ((List UInt8) × Int) :=
 bif ((p0.length : Int) != (p1.length : Int)) then
 some (([] : List UInt8), (1 : Int))
 else
 Option.bind (slices_ContainsFunc_api_Value_api_Value p0) fun r100 =>
 bif r100 then
 some (([] : List UInt8), (8 : Int))
 else
 Option.bind (α := (List UInt8))
 (Option.bind (α := (List UInt8))
 (loop (Y := (List UInt8) × Int) (W := (List UInt8)) (fun (y130, y131) =>
 bif (decide (y131 < (p0.length : Int))) then
 Option.bind (getI p0 y131) fun v141 =>
 Option.bind (getI p1 y131) fun v142 =>
 Option.bind (key_one v141 v142) fun r144 =>
 bif decide ((y130.length + r144.length) * 1 ≤ room) then
 some (Sum.inl ((y130 ++ r144), (w64 (y131 + (1 : Int)))))
 else none
 else
 some (Sum.inr y130)) (([] : List UInt8), (0 : Int)))
 (fun e => some e))
 fun y123 =>
 bif (decide ((y123.length : Int) > (256 : Int))) then
 some (([] : List UInt8), (7 : Int))
 else
 some (y123, (0 : Int))
theorem key_Encode_ok (p0 : List ApiValue) (p1 : List Bool) (r : (List UInt8) × Int) (h0 : key_Encode p0 p1 = some r) : CallAt Tryz.prog 100 [.d ((eL 3 eApiValue) p0), .d ((eL 1 eB) p1)] [] (.tuple [.d (eS r.1), .d (eI r.2)]) [] := by
 unfold key_Encode at h0
 refine fn0 [0, 1] Tryz.func100 rfl rfl rfl rfl rfl ?_
 refine sr (s1 (asg (v := .d (eS ([] : List UInt8))) rfl) (sa rfl (sn (sq (sr (sm rfl (s1 (len rfl rfl rfl (len_lst un61)) (sm rfl (s1 (len rfl rfl rfl (len_lst un57)) ?_)))))))))
 refine s1 (bi rfl rfl q_i64_neq) (sn (cB h0 rfl (fun h0 => ?_) (fun h0 => ?_)))
 ·have q := si h0; subst q
  exact sr (s1 (asg (v := .d (eS ([] : List UInt8))) rfl) (sa rfl (sn (SC.ret (finR (Wk.refl _) (lresT rfl (lresT rfl lresN)) rfl)))))
 ·obtain ⟨r100, hq99, h0⟩ := ob h0
  refine sk (sq (sr (sm rfl (c0 (slices_ContainsFunc_api_Value_api_Value_ok p0 _ hq99) wf rfl rfl rfl cb125 rfl (fun _ => rfl) (fun _ => rfl) (sn (cB h0 rfl (fun h0 => ?_) (fun h0 => ?_)))))))
  ·have q := si h0; subst q
   exact sr (s1 (asg (v := .d (eS ([] : List UInt8))) rfl) (sa rfl (sn (SC.ret (finR (Wk.refl _) (lresT rfl (lresT rfl lresN)) rfl)))))
  ·refine sk (sr (s1 (asg (v := .d .nils) rfl) (sn (SC.seqP h0 (fun y => ⟨mk 37 [(6, .slc 0 1 0 y.length none)], [.row 1 (List.map eU8 y) true]⟩) ?_ ?_))))
   ·intro u1_124 h1
    obtain ⟨u2_140, h2, h1⟩ := ob h1
    refine sr (sm rfl (s1 (len rfl rfl rfl (len_lst un61)) (sm rfl (sn (SC.blk (SC.loopB h2 (fun y => ⟨mk 37 [(1, .d ((eL 1 eB) p1)), (6, .slc 0 1 0 y.1.length none), (16, .d ((eL 3 eApiValue) p0)), (17, .d (eI (p0.length : Int))), (18, .d (eI y.2))], [.row 1 (List.map eU8 y.1) true]⟩) (Wk.trans (Wk.pushE (σ' := [.row 1 (List.map eU8 ([] : List UInt8)) true]) (.row 1 [] true) (fun _ hh => by cases hh) rfl) (Wk.trans (Wk.env (e' := [(1, .d ((eL 1 eB) p1)), (6, .slc 0 1 0 (([] : List UInt8).length) none), (16, .d ((eL 3 eApiValue) p0)), (17, .d (eI (p0.length : Int))), (18, .d (eI (0 : Int)))]) (EW.cons (AW.refl _) (EW.cons (AW.slcn _ _ _) (EW.cons (AW.refl _) (EW.cons (AW.refl _) (EW.cons (AW.refl _) EW.nil)))))) (wq rfl))) ?_))))))
    intro n146
    rintro ⟨y130, y131⟩ w2_139 h3 hv3
    refine sr (s1 (bi rfl rfl q_i64_lss) (sn (sq (cB h3 rfl (fun h3 => ?_) (fun h3 => ?_)))))
    ·obtain ⟨v141, hv141, h3⟩ := ob h3; obtain ⟨v142, hv142, h3⟩ := ob h3; obtain ⟨r144, hq143, h3⟩ := ob h3; obtain ⟨hg145, h3⟩ := gd h3
     refine sk (sq (SC.blk (sr (sm rfl (s1 (ial rfl rfl un61 ts74 (getI_some hv141).1 (map_get (getI_some hv141).2) rfl) (s1 (lod (v := .d (eApiValue v141)) rfl (ld_rop ts74 ta74 rfl)) (s1 (alo (k := 1) zo74 rfl) (sa rfl (s0 (sto rfl rfl (sB (d' := .d (eApiValue v141)) ts74 rfl rfl rfl rfl rfl rfl rfl)) ?_)))))))))
     refine sn (SC.draws (by kernel_rfl) (t1 ([], false) (mv rfl) rfl (t1 ([1], false) (lod (v := .d (eApiValue v141)) rfl (ld_box ts74 ta74 rfl rfl)) rfl (t1 ([], false) (mv rfl) rfl (t1 ([], false) (mv rfl) rfl (t1 ([], false) (ial rfl rfl un57 ts4 (getI_some hv142).1 (map_get (getI_some hv142).2) rfl) rfl (t1 ([], false) (lod rfl (ld_rop ts4 ta4 rfl)) rfl (tc0 (key_one_ok v141 v142 _ hq143) wf rfl rfl rfl cb127 rfl (fun _ => rfl) (fun _ => rfl) (t1 ([0, 2], true) (app rfl rfl rfl rfl bc156 (aF (f := eU8) (xs := y130) (k := 2) rfl un156 ei5 rfl el_lst hg145 rfl)) rfl ?_)))))))))
     refine t1 ([], false) (asg rfl) rfl (ST.nil (And.intro (by decide +kernel) ?_))
     change SC _ _ _ _ _
     have q := si h3; subst q
     exact SC.region (s1 (bi rfl rfl q_i64_add) (sm rfl (SO.nil (lf (wc [2] [2] (by kernel_rfl) rfl (by kernel_rfl))))))
    ·have q := si h3; subst q; have q : _ = _ := hv3; subst q; have q := si h1; subst q
     exact SC.exit ((wq rfl))
   ·rintro y123 h0
    refine sq (sr (sm rfl (s1 (len rfl rfl rfl (len_slc un156)) (s1 (bi rfl rfl q_i64_gtr) (sn (cB h0 rfl (fun h0 => ?_) (fun h0 => ?_)))))))
    ·have q := si h0; subst q
     exact sr (s1 (asg (v := .d (eS ([] : List UInt8))) rfl) (sa rfl (sn (SC.ret (finR (wc (e' := [(4, .d (eS ([] : List UInt8))), (5, .d (eI (7 : Int)))]) [] [] (by kernel_rfl) rfl (by kernel_rfl)) (lresT rfl (lresT rfl lresN)) rfl)))))
    ·have q := si h0; subst q
     exact sk (sr (sm rfl (s1 (cvo (v := .d (eS y123)) rfl (cv_bytes_str un156 un9 un5 (el_full (xs := y123) rfl) (fun _ hh => by cases hh))) (sa rfl (sa rfl (sn (SC.ret (finR (wc (e' := [(4, .d (eS y123)), (5, .d (eI (0 : Int)))]) [] [] (by kernel_rfl) rfl (by kernel_rfl)) (lresT rfl (lresT rfl lresN)) rfl))))))))
noncomputable def pred_one (p0 : ApiValue) (p1 : Bool) : Option ((List UInt8)) :=
 Option.bind (key_Encode [p0] [p1]) fun (r9, r10) =>
 some r9
theorem pred_one_ok (p0 : ApiValue) (p1 : Bool) (r : (List UInt8)) (h0 : pred_one p0 p1 = some r) : CallAt Tryz.prog 77 [.d (eApiValue p0), .d (eB p1)] [] (.d (eS r)) [] := by
 unfold pred_one at h0
 refine fn0 [0, 1] Tryz.func77 rfl rfl rfl rfl rfl ?_
 obtain ⟨⟨r9, r10⟩, hq8, h0⟩ := ob h0; have q := si h0; subst q
 refine sr (s1 (bxo (k := 0) rfl rfl rfl) (s1 (asg (v := .d (eS ([] : List UInt8))) rfl) (sn (sr (s1 (lod (v := .d (eApiValue p0)) rfl (ld_box ts74 ta74 rfl rfl)) (s1 (bsn (k := 1) (ds := List.map eApiValue [p0]) (off := 0) (l' := [p0].length) rfl un61 ei74 rfl rfl (by rfl) rfl rfl rfl) (sm rfl (s1 (bsn (k := 2) (ds := List.map eB [p1]) (off := 0) (l' := [p1].length) rfl un57 ei4 rfl rfl (by rfl) rfl rfl rfl) (cq (args' := [.slc 0 3 0 ([p0].length) none, .slc 1 1 0 ([p1].length) none]) (σc := [.row 3 (List.map eApiValue [p0]) true, .row 1 (List.map eB [p1]) true]) [1, 2] [] (CallAt.frz (ArgF.frz (fF rfl rfl rfl) (ArgF.frz (fF rfl rfl rfl) (ArgF.nil _))) (fq [] [] (key_Encode_ok [p0] [p1] _ hq8) rfl rfl rfl rfl rfl rfl rfl rfl)) wf rfl rfl rfl cb100 rfl rfl rfl rfl rfl rfl rfl rfl ?_)))))))))
 refine sm rfl (s1 (ext rfl rfl) (s1 (ext rfl rfl) (sa rfl (sa rfl (sn (sr (sm rfl (sa rfl (sn ?_)))))))))
 exact SC.ret (finR (wc (e' := [(4, .d (eS r9))]) [] [] (by kernel_rfl) rfl (by kernel_rfl)) (lresT rfl lresN) rfl)
noncomputable def pred_end (p0 : List UInt8) : Option ((List UInt8)) :=
 Option.bind (key_After p0) fun (r9, r10) =>
 some r9
theorem pred_end_ok (p0 : List UInt8) (r : (List UInt8)) (h0 : pred_end p0 = some r) : CallAt Tryz.prog 117 [.d (eS p0)] [] (.d (eS r)) [] := by
 unfold pred_end at h0
 refine fn0 [0] Tryz.func117 rfl rfl rfl rfl rfl ?_
 obtain ⟨⟨r9, r10⟩, hq8, h0⟩ := ob h0; have q := si h0; subst q
 refine sr (s1 (asg (v := .d (eS ([] : List UInt8))) rfl) (sn (sr (sm rfl (c0 (key_After_ok p0 _ hq8) wf rfl rfl rfl cb72 rfl (fun _ => rfl) (fun _ => rfl) (sm rfl (s1 (ext rfl rfl) (s1 (ext rfl rfl) (sa rfl ?_)))))))))
 exact sa rfl (sn (sr (sm rfl (sa rfl (sn (SC.ret (finR (Wk.refl _) (lresT rfl lresN) rfl)))))))
noncomputable def pred_bounded (p0 : ApiPart) (p1 : List PredNode) (p2 : List UInt8) : Option (Bool × ApiSpan) :=
 bif decide (p2.length + ([1] : List UInt8).length ≤ 9223372036854775807) then
 bif decide (p2.length + ([1] : List UInt8).length ≤ 9223372036854775807) then
 Option.bind (pred_end (p2 ++ ([1] : List UInt8))) fun r492 =>
 Option.bind (α := ApiSpan)
 (bif p0.Down then
 bif decide (p2.length + ([254] : List UInt8).length ≤ 9223372036854775807) then
 Option.bind (pred_end (p2 ++ ([254] : List UInt8))) fun r500 =>
 some (ApiSpan.mk p2 r500 false)
 else none
 else
 some (ApiSpan.mk (p2 ++ ([1] : List UInt8)) r492 false))
 fun y496 =>
 Option.bind (α := Bool × ApiSpan)
 (Option.bind (α := Bool × ApiSpan)
 (loop (Y := Bool × Int × ApiSpan) (W := Bool × ApiSpan) (fun (y653, y654, y655) =>
 bif (decide (y654 < (p1.length : Int))) then
 Option.bind (α := Bool × ApiSpan)
 (Option.bind (getI p1 y654) fun v715 =>
 Option.bind (α := Bool)
 (bif (v715.Kind != (2 : Int)) then
 some true
 else
 bif (v715.Col != p0.Col) then
 some true
 else
 bif (v715.Op == (3 : Int)) then
 some true
 else
 some (v715.Op == (6 : Int)))
 fun y716 =>
 bif y716 then
 some (y653, y655)
 else
 Option.bind (pred_one v715.Val p0.Down) fun r719 =>
 bif decide (p2.length + r719.length ≤ 9223372036854775807) then
 Option.bind (α := Bool)
 (bif (v715.Op == (4 : Int)) then
 some true
 else
 some (v715.Op == (5 : Int)))
 fun y721 =>
 Option.bind (α := Bool)
 (bif (y721 == p0.Down) then
 bif (v715.Op == (4 : Int)) then
 some true
 else
 some (v715.Op == (2 : Int))
 else
 some false)
 fun y723 =>
 bif y723 then
 Option.bind (pred_end (p2 ++ r719)) fun r726 =>
 some (true, (ApiSpan.mk y655.Lo (minS y655.Hi r726) y655.Open))
 else
 bif (y721 == p0.Down) then
 some (true, (ApiSpan.mk y655.Lo (minS y655.Hi (p2 ++ r719)) y655.Open))
 else
 Option.bind (α := Bool)
 (bif (v715.Op == (4 : Int)) then
 some true
 else
 some (v715.Op == (2 : Int)))
 fun y727 =>
 bif y727 then
 some (true, (ApiSpan.mk (maxS y655.Lo (p2 ++ r719)) y655.Hi y655.Open))
 else
 Option.bind (pred_end (p2 ++ r719)) fun r730 =>
 some (true, (ApiSpan.mk (maxS y655.Lo r730) y655.Hi y655.Open))
 else none)
 fun (y712, y713) =>
 some (Sum.inl (y712, (w64 (y654 + (1 : Int))), y713))
 else
 some (Sum.inr (y653, y655))) (false, (0 : Int), y496))
 (fun e => some e))
 fun (y615, y616) =>
 some (y615, y616)
 else none
 else none
theorem pred_bounded_ok (p0 : ApiPart) (p1 : List PredNode) (p2 : List UInt8) (r : Bool × ApiSpan) (h0 : pred_bounded p0 p1 p2 = some r) : CallAt Tryz.prog 78 [.d (eApiPart p0), .d ((eL 6 ePredNode) p1), .d (eS p2)] [] (.tuple [.d (eApiSpan r.2), .d (eB r.1)]) [.box (.d (eApiSpan r.2))] := by
 unfold pred_bounded at h0
 refine fn0 [0, 1, 2] Tryz.func78 rfl rfl rfl rfl rfl ?_
 obtain ⟨hg489, h0⟩ := gd h0; obtain ⟨hg490, h0⟩ := gd h0; obtain ⟨r492, hq491, h0⟩ := ob h0
 refine sr (s1 (bxo (k := 0) rfl rfl rfl) (s1 (alo (k := 1) zo50 rfl) (sa rfl (sn (sr (sm rfl (s1 (bi (v := .d (eS (p2 ++ ([1] : List UInt8)))) rfl rfl (fun X Y => b_str_add _ X Y p2 ([1] : List UInt8) hg489)) (sm rfl (s1 (bi (v := .d (eS (p2 ++ ([1] : List UInt8)))) rfl rfl (fun X Y => b_str_add _ X Y p2 ([1] : List UInt8) hg490)) ?_)))))))))
 refine c0 (pred_end_ok (p2 ++ ([1] : List UInt8)) _ hq491) wf rfl rfl rfl cb117 rfl (fun _ => rfl) (fun _ => rfl) (s1 (bld rfl (bd50_0_1 (p2 ++ ([1] : List UInt8)) r492)) (s1 (alo (k := 2) zo50 rfl) (s0 (sto rfl rfl (sB (d' := .d (eApiSpan (ApiSpan.mk (p2 ++ ([1] : List UInt8)) r492 false))) ts50 rfl rfl rfl rfl rfl rfl rfl)) (sn (SC.seqP h0 (fun y => ⟨mk 122 [(1, .d ((eL 6 ePredNode) p1)), (2, .d (eS p2)), (3, .ref 0 0 0), (6, .ref 1 0 0), (8, .ref 2 0 0)], [.box (.d (eApiPart p0)), .box (.d (eApiSpan (ApiSpan.mk ([] : List UInt8) ([] : List UInt8) false))), .box (.d (eApiSpan y))]⟩) ?_ ?_)))))
 ·intro u1_497 h1
  refine sr (s1 (far (k := 1) rfl fo78_1 ts4 rfl) (s1 (lod rfl (ld_box ts4 ta4 rfl rfl)) (sn (cB h1 rfl (fun h1 => ?_) (fun h1 => ?_)))))
  ·obtain ⟨hg498, h1⟩ := gd h1; obtain ⟨r500, hq499, h1⟩ := ob h1; have q := si h1; subst q
   exact SC.region (sm rfl (sm rfl (s1 (bi (v := .d (eS (p2 ++ ([254] : List UInt8)))) rfl rfl (fun X Y => b_str_add _ X Y p2 ([254] : List UInt8) hg498)) (c0 (pred_end_ok (p2 ++ ([254] : List UInt8)) _ hq499) wf rfl rfl rfl cb117 rfl (fun _ => rfl) (fun _ => rfl) (s1 (bld rfl (bd50_0_1 p2 r500)) (s0 (sto rfl rfl (sB (d' := .d (eApiSpan (ApiSpan.mk p2 r500 false))) ts50 rfl rfl rfl rfl rfl rfl rfl)) (SO.nil ((wq rfl)))))))))
  ·have q := si h1; subst q
   exact SC.skip ((wq rfl))
 ·rintro y496 h0
  refine sr (sa rfl (sn (SC.seqP h0 (fun y => ⟨mk 122 [(6, .ref 0 0 0), (8, .ref 1 0 0), (9, .d (eB y.1))], [.box (.d (eApiSpan (ApiSpan.mk ([] : List UInt8) ([] : List UInt8) false))), .box (.d (eApiSpan y.2))]⟩) ?_ ?_)))
  ·intro u1_617 h1
   obtain ⟨u2_695, h2, h1⟩ := ob h1
   refine sr (sm rfl (s1 (len rfl rfl rfl (len_lst un27)) (sm rfl (sn (SC.blk (SC.loopB h2 (fun y => ⟨mk 122 [(2, .d (eS p2)), (3, .ref 0 0 0), (6, .ref 1 0 0), (8, .ref 2 0 0), (9, .d (eB y.1)), (27, .d ((eL 6 ePredNode) p1)), (28, .d (eI (p1.length : Int))), (29, .d (eI y.2.1))], [.box (.d (eApiPart p0)), .box (.d (eApiSpan (ApiSpan.mk ([] : List UInt8) ([] : List UInt8) false))), .box (.d (eApiSpan y.2.2))]⟩) (wq rfl) ?_))))))
   intro n731
   rintro ⟨y653, y654, y655⟩ w2_694 h3 hv3
   refine sr (s1 (bi rfl rfl q_i64_lss) (sn (sq (cB h3 rfl (fun h3 => ?_) (fun h3 => ?_)))))
   ·refine sk (SC.seqP h3 (fun y => ⟨mk 122 [(2, .d (eS p2)), (3, .ref 0 0 0), (6, .ref 1 0 0), (8, .ref 2 0 0), (9, .d (eB y.1)), (27, .d ((eL 6 ePredNode) p1)), (28, .d (eI (p1.length : Int))), (29, .d (eI y654))], [.box (.d (eApiPart p0)), .box (.d (eApiSpan (ApiSpan.mk ([] : List UInt8) ([] : List UInt8) false))), .box (.d (eApiSpan y.2))]⟩) ?_ ?_)
    ·intro u4_714 h4
     obtain ⟨v715, hv715, h4⟩ := ob h4
     refine SC.blk (sr (s1 (ial rfl rfl un27 ts80 (getI_some hv715).1 (map_get (getI_some hv715).2) rfl) (s1 (lod (v := .d (ePredNode v715)) rfl (ld_rop ts80 ta80 rfl)) (s1 (alo (k := 3) zo80 rfl) (s0 (sto rfl rfl (sB (d' := .d (ePredNode v715)) ts80 rfl rfl rfl rfl rfl rfl rfl)) (sn (sq (SC.seqP h4 (fun y => ⟨mk 122 [(2, .d (eS p2)), (3, .ref 0 0 0), (6, .ref 1 0 0), (8, .ref 2 0 0), (9, .d (eB y653)), (11, .ref 3 0 0), (27, .d ((eL 6 ePredNode) p1)), (28, .d (eI (p1.length : Int))), (29, .d (eI y654)), (52, .d (eB y))], [.box (.d (eApiPart p0)), .box (.d (eApiSpan (ApiSpan.mk ([] : List UInt8) ([] : List UInt8) false))), .box (.d (eApiSpan y655)), .box (.d (ePredNode v715))]⟩) ?_ ?_))))))))
     ·intro u5_717 h5
      refine SC.region (s1 (far (k := 0) rfl fo80_0 ts3 rfl) (s1 (lod rfl (ld_box ts3 ta3 rfl rfl)) (s1 (bi rfl rfl q_i64_neq) (sm rfl (sp h5 (fun h5 => ?_) (fun h5 => ?_))))))
      ·have q := si h5; subst q
       refine kw rfl (kw rfl (kw rfl (kw rfl (kw rfl (s1 (pkt rfl rfl) (sm rfl (kw rfl (kw rfl (kw rfl ?_)))))))))
       exact s1 (pkt rfl rfl) (sm rfl (kw rfl (kw rfl (kw rfl (s1 (pkt rfl rfl) (SO.nil ((wq rfl))))))))
      ·refine gw rfl (far (k := 1) rfl fo80_1 ts3 rfl) (gw rfl (lod rfl (ld_box ts3 ta3 rfl rfl)) (gw rfl (far (k := 0) rfl fo78_0 ts3 rfl) (gw rfl (lod rfl (ld_box ts3 ta3 rfl rfl)) (gw rfl (bi rfl rfl q_i64_neq) (s1 (pkf rfl rfl) (sm rfl (sp h5 (fun h5 => ?_) (fun h5 => ?_))))))))
       ·have q := si h5; subst q
        refine kw rfl (kw rfl (kw rfl (s1 (pkt rfl rfl) (sm rfl (kw rfl (kw rfl (kw rfl (s1 (pkt rfl rfl) (SO.nil ?_)))))))))
        exact (wq rfl)
       ·refine gw rfl (far (k := 2) rfl fo80_2 ts3 rfl) (gw rfl (lod rfl (ld_box ts3 ta3 rfl rfl)) (gw rfl (bi rfl rfl q_i64_eql) (s1 (pkf rfl rfl) (sm rfl (sp h5 (fun h5 => ?_) (fun h5 => ?_))))))
        ·have q := si h5; subst q
         exact kw rfl (kw rfl (kw rfl (s1 (pkt rfl rfl) (SO.nil ((wq rfl))))))
        ·have q := si h5; subst q
         exact gw rfl (far (k := 2) rfl fo80_2 ts3 rfl) (gw rfl (lod rfl (ld_box ts3 ta3 rfl rfl)) (gw rfl (bi rfl rfl q_i64_eql) (s1 (pkf rfl rfl) (SO.nil ((wq rfl))))))
     ·rintro y716 h4
      refine cB h4 rfl (fun h4 => ?_) (fun h4 => ?_)
      ·have q := si h4; subst q
       exact SC.exit ((wc [0, 1, 2] [0, 1, 2] (by kernel_rfl) rfl (by kernel_rfl)))
      ·obtain ⟨r719, hq718, h4⟩ := ob h4; obtain ⟨hg720, h4⟩ := gd h4
       refine sk (sr (sa rfl (sn (sr (sm rfl (s1 (far (k := 3) rfl fo80_3 ts74 rfl) (s1 (lod (v := .d (eApiValue v715.Val)) rfl (ld_box ts74 ta74 rfl rfl)) (s1 (far (k := 1) rfl fo78_1 ts4 rfl) (s1 (lod rfl (ld_box ts4 ta4 rfl rfl)) ?_)))))))))
       refine c0 (pred_one_ok v715.Val p0.Down _ hq718) wf rfl rfl rfl cb77 rfl (fun _ => rfl) (fun _ => rfl) (s1 (bi (v := .d (eS (p2 ++ r719))) rfl rfl (fun X Y => b_str_add _ X Y p2 r719 hg720)) (sa rfl (sn (SC.seqP h4 (fun y => ⟨mk 122 [(2, .d (eS p2)), (3, .ref 0 0 0), (6, .ref 1 0 0), (8, .ref 2 0 0), (9, .d (eB true)), (11, .ref 3 0 0), (12, .d (eS (p2 ++ r719))), (13, .d (eB y)), (27, .d ((eL 6 ePredNode) p1)), (28, .d (eI (p1.length : Int))), (29, .d (eI y654))], [.box (.d (eApiPart p0)), .box (.d (eApiSpan (ApiSpan.mk ([] : List UInt8) ([] : List UInt8) false))), .box (.d (eApiSpan y655)), .box (.d (ePredNode v715))]⟩) ?_ ?_))))
       ·intro u5_722 h5
        refine SC.region (s1 (far (k := 2) rfl fo80_2 ts3 rfl) (s1 (lod rfl (ld_box ts3 ta3 rfl rfl)) (s1 (bi rfl rfl q_i64_eql) (sm rfl (sp h5 (fun h5 => ?_) (fun h5 => ?_))))))
        ·have q := si h5; subst q
         exact kw rfl (kw rfl (kw rfl (s1 (pkt rfl rfl) (sa rfl (SO.nil ((wq rfl)))))))
        ·have q := si h5; subst q
         exact gw rfl (far (k := 2) rfl fo80_2 ts3 rfl) (gw rfl (lod rfl (ld_box ts3 ta3 rfl rfl)) (gw rfl (bi rfl rfl q_i64_eql) (s1 (pkf rfl rfl) (sa rfl (SO.nil ((wq rfl)))))))
       ·rintro y721 h4
        refine SC.blk (SC.seqP h4 (fun y => ⟨mk 122 [(2, .d (eS p2)), (3, .ref 0 0 0), (6, .ref 1 0 0), (8, .ref 2 0 0), (9, .d (eB true)), (11, .ref 3 0 0), (12, .d (eS (p2 ++ r719))), (13, .d (eB y721)), (27, .d ((eL 6 ePredNode) p1)), (28, .d (eI (p1.length : Int))), (29, .d (eI y654)), (74, .d (eB y))], [.box (.d (eApiPart p0)), .box (.d (eApiSpan (ApiSpan.mk ([] : List UInt8) ([] : List UInt8) false))), .box (.d (eApiSpan y655)), .box (.d (ePredNode v715))]⟩) ?_ ?_)
        ·intro u5_724 h5
         refine SC.region (sm rfl (s1 (far (k := 1) rfl fo78_1 ts4 rfl) (s1 (lod rfl (ld_box ts4 ta4 rfl rfl)) (s1 (bi (v := .d (eB (y721 == p0.Down))) rfl rfl (fun X Y => b_bool_eql un4 X Y y721 p0.Down)) (sm rfl (sp h5 (fun h5 => ?_) (fun h5 => ?_)))))))
         ·refine gw rfl (far (k := 2) rfl fo80_2 ts3 rfl) (gw rfl (lod rfl (ld_box ts3 ta3 rfl rfl)) (gw rfl (bi rfl rfl q_i64_eql) (gw rfl (mv rfl) (sp h5 (fun h5 => ?_) (fun h5 => ?_)))))
          ·have q := si h5; subst q
           exact kw rfl (kw rfl (kw rfl (gw rfl (pkt rfl rfl) (s1 (pkt rfl rfl) (sa rfl (SO.nil ((wq rfl))))))))
          ·have q := si h5; subst q
           exact gw rfl (far (k := 2) rfl fo80_2 ts3 rfl) (gw rfl (lod rfl (ld_box ts3 ta3 rfl rfl)) (gw rfl (bi rfl rfl q_i64_eql) (gw rfl (pkf rfl rfl) (s1 (pkt rfl rfl) (sa rfl (SO.nil ((wq rfl))))))))
         ·have q := si h5; subst q
          refine kw rfl (kw rfl (kw rfl (kw rfl (kw rfl (kw rfl (kw rfl (kw rfl (s1 (pkf rfl rfl) (sa rfl ?_)))))))))
          exact SO.nil ((wq rfl))
        ·rintro y723 h4
         refine cB h4 rfl (fun h4 => ?_) (fun h4 => ?_)
         ·obtain ⟨r726, hq725, h4⟩ := ob h4; have q := si h4; subst q
          refine SC.draws (by kernel_rfl) (t1 ([], false) (far (k := 1) rfl fo50_1 ts9 rfl) rfl (t1 ([2], false) (lod rfl (ld_box ts9 ta9 rfl rfl)) rfl (t1 ([], false) (mv rfl) rfl (tc0 (pred_end_ok (p2 ++ r719) _ hq725) wf rfl rfl rfl cb117 rfl (fun _ => rfl) (fun _ => rfl) (t1 ([], true) (mno (v := .d (eS (minS y655.Hi r726))) rfl rfl rfl (by_min_str un9 y655.Hi r726)) rfl (t1 ([], false) (far (k := 1) rfl fo50_1 ts9 rfl) rfl (t0 ([2], true) (sto rfl rfl (sB (d' := .d (eApiSpan (ApiSpan.mk y655.Lo (minS y655.Hi r726) y655.Open))) ts9 rfl rfl rfl rfl rfl rfl rfl)) rfl (ST.nil (And.intro (by decide +kernel) ?_)))))))))
          exact (wc [0, 1, 2] [0, 1, 2] (by kernel_rfl) rfl (by kernel_rfl))
         ·refine sr (sm rfl (s1 (far (k := 1) rfl fo78_1 ts4 rfl) (s1 (lod rfl (ld_box ts4 ta4 rfl rfl)) (s1 (bi (v := .d (eB (y721 == p0.Down))) rfl rfl (fun X Y => b_bool_eql un4 X Y y721 p0.Down)) (sa rfl (sn (cB h4 rfl (fun h4 => ?_) (fun h4 => ?_))))))))
          ·have q := si h4; subst q
           exact SC.region (s1 (far (k := 1) rfl fo50_1 ts9 rfl) (s1 (lod rfl (ld_box ts9 ta9 rfl rfl)) (sm rfl (s1 (mno (v := .d (eS (minS y655.Hi (p2 ++ r719)))) rfl rfl rfl (by_min_str un9 y655.Hi (p2 ++ r719))) (s1 (far (k := 1) rfl fo50_1 ts9 rfl) (s0 (sto rfl rfl (sB (d' := .d (eApiSpan (ApiSpan.mk y655.Lo (minS y655.Hi (p2 ++ r719)) y655.Open))) ts9 rfl rfl rfl rfl rfl rfl rfl)) (SO.nil ((wc [0, 1, 2] [0, 1, 2] (by kernel_rfl) rfl (by kernel_rfl))))))))))
          ·refine SC.seqP h4 (fun y => ⟨mk 122 [(2, .d (eS p2)), (3, .ref 0 0 0), (6, .ref 1 0 0), (8, .ref 2 0 0), (9, .d (eB true)), (12, .d (eS (p2 ++ r719))), (27, .d ((eL 6 ePredNode) p1)), (28, .d (eI (p1.length : Int))), (29, .d (eI y654)), (105, .d (eB y))], [.box (.d (eApiPart p0)), .box (.d (eApiSpan (ApiSpan.mk ([] : List UInt8) ([] : List UInt8) false))), .box (.d (eApiSpan y655))]⟩) ?_ ?_
           ·intro u5_728 h5
            refine SC.region (s1 (far (k := 2) rfl fo80_2 ts3 rfl) (s1 (lod rfl (ld_box ts3 ta3 rfl rfl)) (s1 (bi rfl rfl q_i64_eql) (sm rfl (sp h5 (fun h5 => ?_) (fun h5 => ?_))))))
            ·have q := si h5; subst q
             exact kw rfl (kw rfl (kw rfl (s1 (pkt rfl rfl) (sa rfl (SO.nil ((wc [0, 1, 2] [0, 1, 2] (by kernel_rfl) rfl (by kernel_rfl))))))))
            ·have q := si h5; subst q
             exact gw rfl (far (k := 2) rfl fo80_2 ts3 rfl) (gw rfl (lod rfl (ld_box ts3 ta3 rfl rfl)) (gw rfl (bi rfl rfl q_i64_eql) (s1 (pkf rfl rfl) (sa rfl (SO.nil ((wc [0, 1, 2] [0, 1, 2] (by kernel_rfl) rfl (by kernel_rfl))))))))
           ·rintro y727 h4
            refine cB h4 rfl (fun h4 => ?_) (fun h4 => ?_)
            ·have q := si h4; subst q
             exact SC.region (s1 (far (k := 0) rfl fo50_0 ts9 rfl) (s1 (lod rfl (ld_box ts9 ta9 rfl rfl)) (sm rfl (s1 (mxo (v := .d (eS (maxS y655.Lo (p2 ++ r719)))) rfl rfl rfl (by_max_str un9 y655.Lo (p2 ++ r719))) (s1 (far (k := 0) rfl fo50_0 ts9 rfl) (s0 (sto rfl rfl (sB (d' := .d (eApiSpan (ApiSpan.mk (maxS y655.Lo (p2 ++ r719)) y655.Hi y655.Open))) ts9 rfl rfl rfl rfl rfl rfl rfl)) (SO.nil ((wq rfl)))))))))
            ·obtain ⟨r730, hq729, h4⟩ := ob h4; have q := si h4; subst q
             refine SC.draws (by kernel_rfl) (t1 ([], false) (far (k := 0) rfl fo50_0 ts9 rfl) rfl (t1 ([2], false) (lod rfl (ld_box ts9 ta9 rfl rfl)) rfl (t1 ([], false) (mv rfl) rfl (tc0 (pred_end_ok (p2 ++ r719) _ hq729) wf rfl rfl rfl cb117 rfl (fun _ => rfl) (fun _ => rfl) (t1 ([], true) (mxo (v := .d (eS (maxS y655.Lo r730))) rfl rfl rfl (by_max_str un9 y655.Lo r730)) rfl (t1 ([], false) (far (k := 0) rfl fo50_0 ts9 rfl) rfl (t0 ([2], true) (sto rfl rfl (sB (d' := .d (eApiSpan (ApiSpan.mk (maxS y655.Lo r730) y655.Hi y655.Open))) ts9 rfl rfl rfl rfl rfl rfl rfl)) rfl (ST.nil (And.intro (by decide +kernel) ?_)))))))))
             exact (wq rfl)
    ·rintro ⟨y712, y713⟩ h3
     have q := si h3; subst q
     exact SC.region (s1 (bi rfl rfl q_i64_add) (sm rfl (SO.nil (lf (wq rfl)))))
   ·have q := si h3; subst q; have q : _ = _ := hv3; subst q; have q := si h1; subst q
    exact SC.exit ((wc [1, 2] [1, 2] (by kernel_rfl) rfl (by kernel_rfl)))
  ·rintro ⟨y615, y616⟩ h0
   have q := si h0; subst q
   exact sr (s1 (lod (v := .d (eApiSpan y616)) rfl (ld_box ts50 ta50 rfl rfl)) (sm rfl (s0 (sto rfl rfl (sB (d' := .d (eApiSpan y616)) ts50 rfl rfl rfl rfl rfl rfl rfl)) (sa rfl (sn (SC.ret (finR (wc (e' := [(6, .ref 0 0 0), (7, .d (eB y615))]) [0] [0] (by kernel_rfl) rfl (by kernel_rfl)) (lresC rfl (ld_box ts50 ta50 rfl rfl) (lresT rfl lresN)) rfl)))))))
noncomputable def pred_Bounds (p0 : List ApiPart) (p1 : List PredNode) : Option (Int × Bool × ApiSpan) :=
 Option.bind (pred_conjuncts 1000 p1 (w64 ((p1.length : Int) - (1 : Int))) true) fun (r151, r152) =>
 Option.bind (α := (List UInt8) × Int)
 (Option.bind (α := (List UInt8) × Int)
 (loop (Y := (List UInt8) × Int) (W := (List UInt8) × Int) (fun (y191, y192) =>
 bif (decide (y192 < (p0.length : Int))) then
 Option.bind (getI p0 y192) fun v204 =>
 Option.bind (slices_IndexFunc_pred_Node_pred_Node r151 v204) fun r206 =>
 bif (decide (r206 < (0 : Int))) then
 some (Sum.inr (y191, y192))
 else
 Option.bind (getI r151 r206) fun v207 =>
 Option.bind (pred_one v207.Val v204.Down) fun r209 =>
 bif decide (y191.length + r209.length ≤ 9223372036854775807) then
 some (Sum.inl ((y191 ++ r209), (w64 (y192 + (1 : Int)))))
 else none
 else
 some (Sum.inr (y191, y192))) (([] : List UInt8), (0 : Int)))
 (fun e => some e))
 fun (y181, y182) =>
 bindE (Y := Unit) (E := Int × Bool × ApiSpan)
 (bif (decide (y182 < (p0.length : Int))) then
 Option.bind (getI p0 y182) fun v217 =>
 Option.bind (pred_bounded v217 r151 y181) fun (r219, r220) =>
 bif r219 then
 some (Sum.inr (y182, true, r220))
 else
 some (Sum.inl ())
 else
 some (Sum.inl ()))
 (fun _ =>
 Option.bind (key_Under y181) fun r222 =>
 some (y182, false, r222))
 (fun e => some e)
theorem pred_Bounds_ok (p0 : List ApiPart) (p1 : List PredNode) (r : Int × Bool × ApiSpan) (h0 : pred_Bounds p0 p1 = some r) : CallAt Tryz.prog 43 [.d ((eL 2 eApiPart) p0), .d ((eL 6 ePredNode) p1)] [] (.tuple [.d (eApiSpan r.2.2), .d (eI r.1), .d (eB r.2.1)]) [.box (.d (eApiSpan r.2.2))] := by
 unfold pred_Bounds at h0
 refine fn0 [0, 1] Tryz.func43 rfl rfl rfl rfl rfl ?_
 obtain ⟨⟨r151, r152⟩, hq150, h0⟩ := ob h0
 refine sr (s1 (alo (k := 0) zo50 rfl) (sa rfl (sa rfl (sn (sr (sm rfl (sm rfl (s1 (len rfl rfl rfl (len_lst un27)) (s1 (bi rfl rfl q_i64_sub) ?_)))))))))
 refine cq [] [1] (pred_conjuncts_ok 1000 p1 (w64 ((p1.length : Int) - (1 : Int))) true _ hq150) wf rfl rfl rfl cb73 rfl rfl rfl rfl rfl rfl rfl rfl (sm rfl (s1 (ext rfl rfl) (s1 (ext rfl rfl) (sa rfl (sa rfl (sn (sr (s1 (asg (v := .d (eS ([] : List UInt8))) rfl) (sa rfl ?_)))))))))
 refine sn (SC.seqP h0 (fun y => ⟨mk 68 [(0, .d ((eL 2 eApiPart) p0)), (4, .ref 0 0 0), (7, .slc 1 6 0 r151.length none), (9, .d (eS y.1)), (10, .d (eI y.2))], [.box (.d (eApiSpan (ApiSpan.mk ([] : List UInt8) ([] : List UInt8) false))), .row 6 (List.map ePredNode r151) false]⟩) ?_ ?_)
 ·intro u1_183 h1
  obtain ⟨u2_203, h2, h1⟩ := ob h1
  refine SC.blk (SC.loopB h2 (fun y => ⟨mk 68 [(0, .d ((eL 2 eApiPart) p0)), (4, .ref 0 0 0), (7, .slc 1 6 0 r151.length none), (9, .d (eS y.1)), (10, .d (eI y.2))], [.box (.d (eApiSpan (ApiSpan.mk ([] : List UInt8) ([] : List UInt8) false))), .row 6 (List.map ePredNode r151) false]⟩) (Wk.trans (wq (e' := [(0, .d ((eL 2 eApiPart) p0)), (4, .ref 0 0 0), (7, .slc 1 6 0 r151.length none), (9, .d (eS ([] : List UInt8))), (10, .d (eI (0 : Int)))]) rfl) (fro 1 rfl rfl)) ?_)
  intro n211
  rintro ⟨y191, y192⟩ w2_202 h3 hv3
  refine sq (sr (sm rfl (sm rfl (s1 (len rfl rfl rfl (len_lst un28)) (s1 (bi rfl rfl q_i64_lss) (sn (cB h3 rfl (fun h3 => ?_) (fun h3 => ?_))))))))
  ·obtain ⟨v204, hv204, h3⟩ := ob h3; obtain ⟨r206, hq205, h3⟩ := ob h3
   refine sk (SC.blk (sr (sm rfl (sm rfl (s1 (ial rfl rfl un28 ts78 (getI_some hv204).1 (map_get (getI_some hv204).2) rfl) (s1 (lod (v := .d (eApiPart v204)) rfl (ld_rop ts78 ta78 rfl)) (s1 (alo (k := 2) zo78 rfl) (s0 (sto rfl rfl (sB (d' := .d (eApiPart v204)) ts78 rfl rfl rfl rfl rfl rfl rfl)) (sn ?_)))))))))
   refine sr (sm rfl (s1 (mkf rfl rfl) (cq (args' := [.slc 0 6 0 r151.length none, .fn (.func 75) [] [.ref 1 0 0]]) (σc := [.row 6 (List.map ePredNode r151) false, .box (.d (eApiPart v204))]) [1, 2] [] (CallAt.frz (ArgF.frz (fF rfl rfl rfl) (ArgF.keep (ArgF.nil _))) (fq [1] [] (slices_IndexFunc_pred_Node_pred_Node_ok r151 v204 _ hq205) rfl rfl rfl rfl rfl rfl rfl rfl)) wf rfl rfl rfl cb74 rfl rfl rfl rfl rfl rfl rfl rfl (sa rfl (sn (sq (sr (sm rfl (s1 (bi rfl rfl q_i64_lss) ?_)))))))))
   refine sn (cB h3 rfl (fun h3 => ?_) (fun h3 => ?_))
   ·have q := si h3; subst q; have q : _ = _ := hv3; subst q; have q := si h1; subst q
    exact SC.exit ((wc [0, 1] [0, 1] (by kernel_rfl) rfl (by kernel_rfl)))
   ·obtain ⟨v207, hv207, h3⟩ := ob h3; obtain ⟨r209, hq208, h3⟩ := ob h3; obtain ⟨hg210, h3⟩ := gd h3; have q := si h3; subst q
    refine sk (sd (by kernel_rfl) (t1 ([], false) (mv rfl) rfl (t1 ([], false) (mv rfl) rfl (t1 ([], false) (mv rfl) rfl (t1 ([], false) (iaz rfl rfl un27 ts80 (getI_lt hv207)) rfl (t1 ([], false) (far (k := 3) rfl fo80_3 ts74 rfl) rfl (t1 ([1], false) (lod (v := .d (eApiValue v207.Val)) rfl (ld_row ts74 ta74 rfl (map_get (getI_some hv207).2) rfl)) rfl (t1 ([], false) (far (k := 1) rfl fo78_1 ts4 rfl) rfl (t1 ([2], false) (lod rfl (ld_box ts4 ta4 rfl rfl)) rfl ?_)))))))))
    exact tc0 (pred_one_ok v207.Val v204.Down _ hq208) wf rfl rfl rfl cb77 rfl (fun _ => rfl) (fun _ => rfl) (t1 ([], false) (bi (v := .d (eS (y191 ++ r209))) rfl rfl (fun X Y => b_str_add _ X Y y191 r209 hg210)) rfl (t1 ([], false) (asg rfl) rfl (tn (by decide +kernel) (SC.region (sm rfl (s1 (bi rfl rfl q_i64_add) (sa rfl (SO.nil (lf (wc [0, 1] [0, 1] (by kernel_rfl) rfl (by kernel_rfl)))))))))))
  ·have q := si h3; subst q; have q : _ = _ := hv3; subst q; have q := si h1; subst q
   exact SC.exit ((wq rfl))
 ·rintro ⟨y181, y182⟩ h0
  refine SC.seqB h0 (fun y => ⟨mk 68 [(4, .ref 0 0 0), (9, .d (eS y181)), (10, .d (eI y182))], [.box (.d (eApiSpan (ApiSpan.mk ([] : List UInt8) ([] : List UInt8) false)))]⟩) ?_ ?_
  ·intro u1_216 h1 h0
   refine sr (sm rfl (sm rfl (s1 (len rfl rfl rfl (len_lst un28)) (s1 (bi rfl rfl q_i64_lss) (sn (cB h1 rfl (fun h1 => ?_) (fun h1 => ?_)))))))
   ·obtain ⟨v217, hv217, h1⟩ := ob h1; obtain ⟨⟨r219, r220⟩, hq218, h1⟩ := ob h1
    refine sr (sm rfl (sm rfl (s1 (ial rfl rfl un28 ts78 (getI_some hv217).1 (map_get (getI_some hv217).2) rfl) (s1 (lod (v := .d (eApiPart v217)) rfl (ld_rop ts78 ta78 rfl)) (sm rfl (sm rfl (cq (args' := [.d (eApiPart v217), .slc 0 6 0 r151.length none, .d (eS y181)]) (σc := [.row 6 (List.map ePredNode r151) false]) [1] [2] (CallAt.frz (ArgF.keep (ArgF.frz (fF rfl rfl rfl) (ArgF.keep (ArgF.nil _)))) (fq [] [1] (pred_bounded_ok v217 r151 y181 _ hq218) rfl rfl rfl rfl rfl rfl rfl rfl)) wf rfl rfl rfl cb78 rfl rfl rfl rfl rfl rfl rfl rfl (sm rfl (s1 (ext rfl rfl) ?_)))))))))
    refine s1 (ext rfl rfl) (s1 (alo (k := 3) zo50 rfl) (s0 (sto rfl rfl (sB (d' := .d (eApiSpan r220)) ts50 rfl rfl rfl rfl rfl rfl rfl)) (sa rfl (sn (sr (sm rfl (sn (cB h1 rfl (fun h1 => ?_) (fun h1 => ?_)))))))))
    ·have q := si h1; subst q; have q := si h0; subst q
     exact sr (s1 (lod (v := .d (eApiSpan r220)) rfl (ld_box ts50 ta50 rfl rfl)) (sm rfl (s0 (sto rfl rfl (sB (d' := .d (eApiSpan r220)) ts50 rfl rfl rfl rfl rfl rfl rfl)) (sa rfl (sa rfl (sn (SC.ret (finR (wc (e' := [(4, .ref 0 0 0), (5, .d (eI y182)), (6, .d (eB true))]) [0] [0] (by kernel_rfl) rfl (by kernel_rfl)) (lresC rfl (ld_box ts50 ta50 rfl rfl) (lresT rfl (lresT rfl lresN))) rfl))))))))
    ·have q := si h1; subst q
     exact SC.skip (lf (wc [0] [0] (by kernel_rfl) rfl (by kernel_rfl)))
   ·have q := si h1; subst q
    exact SC.skip (lf (wc [0] [0] (by kernel_rfl) rfl (by kernel_rfl)))
  ·intro _ h0
   obtain ⟨r222, hq221, h0⟩ := ob h0; have q := si h0; subst q
   exact sr (sm rfl (cq [] [1] (key_Under_ok y181 _ hq221) wf rfl rfl rfl cb42 rfl rfl rfl rfl rfl rfl rfl rfl (sm rfl (s0 (sto rfl rfl (sB (d' := .d (eApiSpan r222)) ts50 rfl rfl rfl rfl rfl rfl rfl)) (sa rfl (sa rfl (sn (SC.ret (finR (wc (e' := [(4, .ref 0 0 0), (5, .d (eI y182)), (6, .d (eB false))]) [0] [0] (by kernel_rfl) rfl (by kernel_rfl)) (lresC rfl (ld_box ts50 ta50 rfl rfl) (lresT rfl (lresT rfl lresN))) rfl)))))))))
noncomputable def plan_rows (p0 : PlanPlan) (p1 : Bool) : Option Int :=
 Option.bind (α := Int)
 (Option.bind (α := Int)
 (loop (Y := Int × Int) (W := Int) (fun (y47, y48) =>
 bif (decide (y48 < p0.Fixed)) then
 some (Sum.inl ((w64 (Int.tdiv y47 (10 : Int))), (w64 (y48 + (1 : Int)))))
 else
 some (Sum.inr y47)) ((1000 : Int), (0 : Int)))
 (fun e => some e))
 fun y45 =>
 Option.bind (α := Int)
 (bif p0.Bounded then
 some (w64 (Int.tdiv y45 (3 : Int)))
 else
 some y45)
 fun y54 =>
 bif p1 then
 some (1 : Int)
 else
 some (max y54 (1 : Int))
theorem plan_rows_ok (p0 : PlanPlan) (p1 : Bool) (r : Int) (h0 : plan_rows p0 p1 = some r) : CallAt Tryz.prog 44 [.d (ePlanPlan p0), .d (eB p1)] [] (.d (eI r)) [] := by
 unfold plan_rows at h0
 refine fn0 [0, 1] Tryz.func44 rfl rfl rfl rfl rfl ?_
 refine sr (s1 (bxo (k := 0) rfl rfl rfl) (sa rfl (sn (sr (sa rfl (sn (SC.seqP h0 (fun y => ⟨mk 20 [(1, .d (eB p1)), (2, .ref 0 0 0), (5, .d (eI y))], [.box (.d (ePlanPlan p0))]⟩) ?_ ?_)))))))
 ·intro u1_46 h1
  obtain ⟨u2_52, h2, h1⟩ := ob h1
  refine sr (s1 (far (k := 4) rfl fo52_2 ts3 rfl) (s1 (lod rfl (ld_box ts3 ta3 rfl rfl)) (sm rfl (sn (SC.blk (SC.loopB h2 (fun y => ⟨mk 20 [(1, .d (eB p1)), (2, .ref 0 0 0), (5, .d (eI y.1)), (7, .d (eI p0.Fixed)), (8, .d (eI y.2))], [.box (.d (ePlanPlan p0))]⟩) (wq rfl) ?_))))))
  intro n53
  rintro ⟨y47, y48⟩ w2_51 h3 hv3
  refine sr (s1 (bi rfl rfl q_i64_lss) (sn (sq (cB h3 rfl (fun h3 => ?_) (fun h3 => ?_)))))
  ·refine sk (sq (SC.blk (SC.region (sm rfl (s1 (bi (v := .d (eI (w64 (Int.tdiv y47 (10 : Int))))) rfl rfl (fun X Y => b_i64_quo _ X Y y47 (10 : Int) (by decide))) (sa rfl (SO.nil ?_)))))))
   change SC _ _ _ _ _
   have q := si h3; subst q
   exact SC.region (s1 (bi rfl rfl q_i64_add) (sm rfl (SO.nil (lf (wq rfl)))))
  ·have q := si h3; subst q; have q : _ = _ := hv3; subst q; have q := si h1; subst q
   exact SC.exit ((wq rfl))
 ·rintro y45 h0
  refine SC.seqP h0 (fun y => ⟨mk 20 [(1, .d (eB p1)), (5, .d (eI y))], []⟩) ?_ ?_
  ·intro u1_55 h1
   refine sr (s1 (far (k := 5) rfl fo52_3 ts4 rfl) (s1 (lod rfl (ld_box ts4 ta4 rfl rfl)) (sn (cB h1 rfl (fun h1 => ?_) (fun h1 => ?_)))))
   ·have q := si h1; subst q
    exact SC.region (sm rfl (s1 (bi (v := .d (eI (w64 (Int.tdiv y45 (3 : Int))))) rfl rfl (fun X Y => b_i64_quo _ X Y y45 (3 : Int) (by decide))) (sa rfl (SO.nil ((wc [] [] (by kernel_rfl) rfl (by kernel_rfl)))))))
   ·have q := si h1; subst q
    exact SC.skip ((wc [] [] (by kernel_rfl) rfl (by kernel_rfl)))
  ·rintro y54 h0
   refine sq (sr (sm rfl (sn (cB h0 rfl (fun h0 => ?_) (fun h0 => ?_)))))
   ·have q := si h0; subst q
    exact sr (sa rfl (sn (SC.ret (finR (Wk.refl _) (lresT rfl lresN) rfl))))
   ·have q := si h0; subst q
    exact sk (sr (sm rfl (s1 (mxo (v := .d (eI (max y54 (1 : Int)))) rfl rfl rfl (by_max_i64 un3 y54 (1 : Int))) (sa rfl (sn (SC.ret (finR (Wk.refl _) (lresT rfl lresN) rfl)))))))
noncomputable def pred_Cols (p0 : List PredNode) : Option ((List Int)) :=
 Option.bind (α := (List Int))
 (Option.bind (α := (List Int))
 (loop (Y := (List Int) × Int) (W := (List Int)) (fun (y211, y212) =>
 bif (decide (y212 < (p0.length : Int))) then
 Option.bind (α := (List Int))
 (Option.bind (getI p0 y212) fun v233 =>
 Option.bind (α := Bool)
 (bif (v233.Kind == (2 : Int)) then
 some true
 else
 some (v233.Kind == (3 : Int)))
 fun y234 =>
 bif y234 then
 bif decide ((y211.length + [v233.Col].length) * 8 ≤ room) then
 some (y211 ++ [v233.Col])
 else none
 else
 some y211)
 fun y231 =>
 some (Sum.inl (y231, (w64 (y212 + (1 : Int)))))
 else
 some (Sum.inr y211)) (([] : List Int), (0 : Int)))
 (fun e => some e))
 fun y199 =>
 Option.bind (isortF y199) fun r239 =>
 Option.bind (icompactF r239 0 y199.length) fun r241 =>
 some r241
theorem pred_Cols_ok (p0 : List PredNode) (r : (List Int)) (h0 : pred_Cols p0 = some r) : CallAt Tryz.prog 49 [.d ((eL 6 ePredNode) p0)] [] (.d ((eL 1 eI) r)) [] := by
 unfold pred_Cols at h0
 refine fn0 [0] Tryz.func49 rfl rfl rfl rfl rfl ?_
 refine sr (s1 (asg (v := .d .nils) rfl) (sn (sr (s1 (asg (v := .d .nils) rfl) (sn (SC.seqP h0 (fun y => ⟨mk 30 [(3, .slc 0 1 0 y.length none)], [.row 1 (List.map eI y) true]⟩) ?_ ?_))))))
 ·intro u1_200 h1
  obtain ⟨u2_226, h2, h1⟩ := ob h1
  refine sr (sm rfl (s1 (len rfl rfl rfl (len_lst un27)) (sm rfl (sn (SC.blk (SC.loopB h2 (fun y => ⟨mk 30 [(3, .slc 0 1 0 y.1.length none), (6, .d ((eL 6 ePredNode) p0)), (7, .d (eI (p0.length : Int))), (8, .d (eI y.2))], [.row 1 (List.map eI y.1) true]⟩) (Wk.trans (Wk.pushE (σ' := [.row 1 (List.map eI ([] : List Int)) true]) (.row 1 [] true) (fun _ hh => by cases hh) rfl) (Wk.trans (Wk.env (e' := [(3, .slc 0 1 0 (([] : List Int).length) none), (6, .d ((eL 6 ePredNode) p0)), (7, .d (eI (p0.length : Int))), (8, .d (eI (0 : Int)))]) (EW.cons (AW.slcn _ _ _) (EW.cons (AW.refl _) (EW.cons (AW.refl _) (EW.cons (AW.refl _) EW.nil))))) (wq rfl))) ?_))))))
  intro n237
  rintro ⟨y211, y212⟩ w2_225 h3 hv3
  refine sr (s1 (bi rfl rfl q_i64_lss) (sn (sq (cB h3 rfl (fun h3 => ?_) (fun h3 => ?_)))))
  ·refine sk (SC.seqP h3 (fun y => ⟨mk 30 [(3, .slc 0 1 0 y.length none), (6, .d ((eL 6 ePredNode) p0)), (7, .d (eI (p0.length : Int))), (8, .d (eI y212))], [.row 1 (List.map eI y) true]⟩) ?_ ?_)
   ·intro u4_232 h4
    obtain ⟨v233, hv233, h4⟩ := ob h4
    refine SC.blk (sr (s1 (ial rfl rfl un27 ts80 (getI_some hv233).1 (map_get (getI_some hv233).2) rfl) (s1 (lod (v := .d (ePredNode v233)) rfl (ld_rop ts80 ta80 rfl)) (s1 (alo (k := 1) zo80 rfl) (s0 (sto rfl rfl (sB (d' := .d (ePredNode v233)) ts80 rfl rfl rfl rfl rfl rfl rfl)) (sn (SC.seqP h4 (fun y => ⟨mk 30 [(3, .slc 0 1 0 y211.length none), (5, .ref 1 0 0), (6, .d ((eL 6 ePredNode) p0)), (7, .d (eI (p0.length : Int))), (8, .d (eI y212)), (19, .d (eB y))], [.row 1 (List.map eI y211) true, .box (.d (ePredNode v233))]⟩) ?_ ?_)))))))
    ·intro u5_235 h5
     refine SC.region (s1 (far (k := 0) rfl fo80_0 ts3 rfl) (s1 (lod rfl (ld_box ts3 ta3 rfl rfl)) (s1 (bi rfl rfl q_i64_eql) (sm rfl (sp h5 (fun h5 => ?_) (fun h5 => ?_))))))
     ·have q := si h5; subst q
      exact kw rfl (kw rfl (kw rfl (s1 (pkt rfl rfl) (SO.nil ((wq rfl))))))
     ·have q := si h5; subst q
      exact gw rfl (far (k := 0) rfl fo80_0 ts3 rfl) (gw rfl (lod rfl (ld_box ts3 ta3 rfl rfl)) (gw rfl (bi rfl rfl q_i64_eql) (s1 (pkf rfl rfl) (SO.nil ((wq rfl))))))
    ·rintro y234 h4
     refine cB h4 rfl (fun h4 => ?_) (fun h4 => ?_)
     ·obtain ⟨hg236, h4⟩ := gd h4; have q := si h4; subst q
      exact SC.region (sm rfl (s1 (far (k := 1) rfl fo80_1 ts3 rfl) (s1 (lod rfl (ld_box ts3 ta3 rfl rfl)) (s1 (bsn (k := 2) (ds := List.map eI [v233.Col]) (off := 0) (l' := [v233.Col].length) rfl un23 ei3 rfl rfl (by rfl) rfl rfl rfl) (s1 (app rfl rfl rfl rfl bc23 (aF (f := eI) (xs := y211) (k := 3) rfl un23 ei3 rfl (el_full (xs := [v233.Col]) rfl) hg236 rfl)) (sa rfl (SO.nil ((wc [3] [3] (by kernel_rfl) rfl (by kernel_rfl))))))))))
     ·have q := si h4; subst q
      exact SC.skip ((wc [0] [0] (by kernel_rfl) rfl (by kernel_rfl)))
   ·rintro y231 h3
    have q := si h3; subst q
    exact SC.region (s1 (bi rfl rfl q_i64_add) (sm rfl (SO.nil (lf (wq rfl)))))
  ·have q := si h3; subst q; have q : _ = _ := hv3; subst q; have q := si h1; subst q
   exact SC.exit ((wq rfl))
 ·rintro y199 h0
  obtain ⟨r239, hq238, h0⟩ := ob h0; obtain ⟨r241, hq240, h0⟩ := ob h0; have q := si h0; subst q
  refine sr (sm rfl (cq [0] [] (isort_ok y199 _ hq238) wf rfl rfl rfl cb37 rfl rfl rfl rfl rfl rfl rfl rfl (sn (sr (sm rfl (cq [0] [] (icompact_ok r239 0 y199.length _ hq240) wf rfl rfl rfl cb38 rfl rfl rfl rfl rfl rfl rfl rfl (sa rfl (sn (SC.ret ?_)))))))))
  exact finR (wc (e' := [(2, .d ((eL 1 eI) r241))]) [] [] (by kernel_rfl) rfl (by kernel_rfl)) (lresT rfl lresN) rfl
noncomputable def plan_Query_order (p0 : PlanQuery) : Option ((List Int)) :=
 Option.bind (α := (List Int))
 (Option.bind (α := (List Int))
 (loop (Y := (List Int) × Int) (W := (List Int)) (fun (y75, y76) =>
 bif (decide (y76 < (p0.Order.length : Int))) then
 Option.bind (getI p0.Order y76) fun v83 =>
 bif decide ((y75.length + [v83.Col].length) * 8 ≤ room) then
 some (Sum.inl ((y75 ++ [v83.Col]), (w64 (y76 + (1 : Int)))))
 else none
 else
 some (Sum.inr y75)) (([] : List Int), (0 : Int)))
 (fun e => some e))
 fun y71 =>
 some y71
theorem plan_Query_order_ok (p0 : PlanQuery) (r : (List Int)) (h0 : plan_Query_order p0 = some r) : CallAt Tryz.prog 35 [.d (ePlanQuery p0)] [] (.d ((eL 1 eI) r)) [] := by
 unfold plan_Query_order at h0
 refine fn0 [0] Tryz.func35 rfl rfl rfl rfl rfl ?_
 refine sr (s1 (bxo (k := 0) rfl rfl rfl) (s1 (asg (v := .d .nils) rfl) (sn (sr (s1 (asg (v := .d .nils) rfl) (sn (SC.seqP h0 (fun y => ⟨mk 20 [(3, .slc 0 1 0 y.length none)], [.row 1 (List.map eI y) true]⟩) ?_ ?_)))))))
 ·intro u1_72 h1
  obtain ⟨u2_82, h2, h1⟩ := ob h1
  refine sr (s1 (far (k := 2) rfl fo30_2 ts28 rfl) (s1 (lod rfl (ld_box ts28 ta28 rfl rfl)) (s1 (len rfl rfl rfl (len_lst un28)) (sm rfl (sn (SC.blk (SC.loopB h2 (fun y => ⟨mk 20 [(3, .slc 0 1 0 y.1.length none), (7, .d ((eL 2 eApiPart) p0.Order)), (8, .d (eI (p0.Order.length : Int))), (9, .d (eI y.2))], [.row 1 (List.map eI y.1) true]⟩) (Wk.trans (Wk.pushE (σ' := [.box (.d (ePlanQuery p0)), .row 1 (List.map eI ([] : List Int)) true]) (.row 1 [] true) (fun _ hh => by cases hh) rfl) (Wk.trans (Wk.env (e' := [(3, .slc 1 1 0 (([] : List Int).length) none), (7, .d ((eL 2 eApiPart) p0.Order)), (8, .d (eI (p0.Order.length : Int))), (9, .d (eI (0 : Int)))]) (EW.cons (AW.slcn _ _ _) (EW.cons (AW.refl _) (EW.cons (AW.refl _) (EW.cons (AW.refl _) EW.nil))))) (wc [1] [1] (by kernel_rfl) rfl (by kernel_rfl)))) ?_)))))))
  intro n85
  rintro ⟨y75, y76⟩ w2_81 h3 hv3
  refine sr (s1 (bi rfl rfl q_i64_lss) (sn (sq (cB h3 rfl (fun h3 => ?_) (fun h3 => ?_)))))
  ·obtain ⟨v83, hv83, h3⟩ := ob h3; obtain ⟨hg84, h3⟩ := gd h3
   refine sk (sq (SC.blk (sr (s1 (ial rfl rfl un28 ts78 (getI_some hv83).1 (map_get (getI_some hv83).2) rfl) (s1 (lod (v := .d (eApiPart v83)) rfl (ld_rop ts78 ta78 rfl)) (s1 (alo (k := 1) zo78 rfl) (s0 (sto rfl rfl (sB (d' := .d (eApiPart v83)) ts78 rfl rfl rfl rfl rfl rfl rfl)) (sn (SC.region ?_)))))))))
   refine sm rfl (s1 (far (k := 0) rfl fo78_0 ts3 rfl) (s1 (lod rfl (ld_box ts3 ta3 rfl rfl)) (s1 (bsn (k := 2) (ds := List.map eI [v83.Col]) (off := 0) (l' := [v83.Col].length) rfl un23 ei3 rfl rfl (by rfl) rfl rfl rfl) (s1 (app rfl rfl rfl rfl bc23 (aF (f := eI) (xs := y75) (k := 3) rfl un23 ei3 rfl (el_full (xs := [v83.Col]) rfl) hg84 rfl)) (sa rfl (SO.nil ?_))))))
   change SC _ _ _ _ _
   have q := si h3; subst q
   exact SC.region (s1 (bi rfl rfl q_i64_add) (sm rfl (SO.nil (lf (wc [3] [3] (by kernel_rfl) rfl (by kernel_rfl))))))
  ·have q := si h3; subst q; have q : _ = _ := hv3; subst q; have q := si h1; subst q
   exact SC.exit ((wq rfl))
 ·rintro y71 h0
  have q := si h0; subst q
  exact sr (sm rfl (sa rfl (sn (SC.ret (finR (Wk.trans (Wk.frz (i := 2) (x := .slc 0 1 0 y71.length none) rfl rfl (fF rfl rfl rfl)) (wc (e' := [(2, .d ((eL 1 eI) y71))]) [] [] (by kernel_rfl) rfl (by kernel_rfl))) (lresT rfl lresN) rfl)))))
noncomputable def slices_Grow_int_int (p0 : Int) : Option Unit :=
 Option.bind (α := Unit)
 (bif (decide (p0 < (0 : Int))) then
 none
 else
 some ())
 fun _ =>
 Option.bind (α := Unit)
 (bif (decide ((w64 (p0 - (w64 ((0 : Int) - (0 : Int))))) > (0 : Int))) then
 bif decide ((0 : Int) = 0) then
 bif decide (0 < (w64 (p0 - (w64 ((0 : Int) - (0 : Int))))) ∧ (w64 (p0 - (w64 ((0 : Int) - (0 : Int))))) * 8 ≤ 140737488355328) then
 bif decide (0 ≤ (0 : Int) ∧ (0 : Int) ≤ (((w64 (p0 - (w64 ((0 : Int) - (0 : Int))))).toNat : Nat) : Int)) then
 some ()
 else none
 else none
 else none
 else
 some ())
 fun _ =>
 some ()
theorem slices_Grow_int_int_ok (p0 : Int) (r : Unit) (h0 : slices_Grow_int_int p0 = some r) : CallAt Tryz.prog 87 [.d .nils, .d (eI p0)] [] (.slc 0 1 0 (([] : List Int).length) none) [.row 1 (List.map eI ([] : List Int)) true] := by
 unfold slices_Grow_int_int at h0
 refine fn0 [0, 1] Tryz.func87 rfl rfl rfl rfl rfl ?_
 refine sr (s1 (asg (v := .d .nils) rfl) (sn (SC.seqP h0 (fun y => ⟨mk 27 [(0, .d .nils), (1, .d (eI p0))], []⟩) ?_ ?_)))
 ·intro u1_17 h1
  refine sr (sm rfl (s1 (bi rfl rfl q_i64_lss) (sn (cB h1 rfl (fun h1 => ?_) (fun h1 => ?_)))))
  ·refine SC.region (s1 (mki (v := .d (eS ([99, 97, 110, 110, 111, 116, 32, 98, 101, 32, 110, 101, 103, 97, 116, 105, 118, 101] : List UInt8))) rfl ni9) ?_)
   cases h1
  ·have q := si h1; subst q
   exact SC.skip ((wq rfl))
 ·intro _ h0
  refine SC.seqP h0 (fun y => ⟨mk 27 [(0, .slc 0 1 0 (([] : List Int).length) none)], [.row 1 (List.map eI ([] : List Int)) true]⟩) ?_ ?_
  ·intro u1_21 h1
   refine sr (sm rfl (sm rfl (capN un23 wf rfl rfl rfl rfl (sm rfl (s1 (len rfl rfl rfl (len_nil un23)) (s1 (bi rfl rfl q_i64_sub) (s1 (bi rfl rfl q_i64_sub) (sa rfl (sn ?_)))))))))
   refine sr (sm rfl (s1 (bi rfl rfl q_i64_gtr) (sn (cB h1 rfl (fun h1 => ?_) (fun h1 => ?_)))))
   ·obtain ⟨hg22, h1⟩ := gd h1; obtain ⟨hg23, h1⟩ := gd h1; obtain ⟨hg24, h1⟩ := gd h1; have q := si h1; subst q
    refine SC.region (sm rfl (sm rfl (capN un23 wf rfl rfl rfl rfl (s1 (slo rfl rfl rfl rfl (sl_nil_hi un23 ts3 hg22)) (sm rfl (appC (k := 0) un23 un3 ei3 hg23 wf rfl rfl rfl rfl rfl rfl rfl (sm rfl (s1 (len rfl rfl rfl (len_nil un23)) (s1 (slo rfl rfl rfl rfl (sl_slc_hi un23 ts3 hg24)) ?_)))))))))
    exact sa rfl (SO.nil ((wq rfl)))
   ·have q := si h1; subst q
    exact SC.skip ((Wk.trans (Wk.pushE (σ' := [.row 1 (List.map eI ([] : List Int)) true]) (.row 1 [] true) (fun _ hh => by cases hh) rfl) (Wk.trans (Wk.env (e' := [(0, .slc 0 1 0 (([] : List Int).length) none)]) (EW.cons (AW.slcn _ _ _) EW.nil)) (wq rfl))))
  ·intro _ h0
   have q := si h0; subst q
   exact sr (sm rfl (sa rfl (sn (SC.ret (finR (Wk.refl _) (lresT rfl lresN) rfl)))))
noncomputable def slices_Concat_int_int (p0 : List (List Int)) : Option ((List Int)) :=
 Option.bind (α := Int)
 (Option.bind (α := Int)
 (loop (Y := Int × Int) (W := Int) (fun (y165, y166) =>
 bif (decide (y166 < (p0.length : Int))) then
 Option.bind (α := Int)
 (Option.bind (getI p0 y166) fun v178 =>
 bif (decide ((w64 (y165 + (v178.length : Int))) < (0 : Int))) then
 none
 else
 some (w64 (y165 + (v178.length : Int))))
 fun y176 =>
 some (Sum.inl (y176, (w64 (y166 + (1 : Int)))))
 else
 some (Sum.inr y165)) ((0 : Int), (0 : Int)))
 (fun e => some e))
 fun y159 =>
 Option.bind (slices_Grow_int_int y159) fun _ =>
 Option.bind (α := (List Int))
 (Option.bind (α := (List Int))
 (loop (Y := (List Int) × Int) (W := (List Int)) (fun (y198, y199) =>
 bif (decide (y199 < (p0.length : Int))) then
 Option.bind (getI p0 y199) fun v206 =>
 bif decide ((y198.length + v206.length) * 8 ≤ room) then
 some (Sum.inl ((y198 ++ v206), (w64 (y199 + (1 : Int)))))
 else none
 else
 some (Sum.inr y198)) (([] : List Int), (0 : Int)))
 (fun e => some e))
 fun y194 =>
 some y194
theorem slices_Concat_int_int_ok (p0 : List (List Int)) (r : (List Int)) (h0 : slices_Concat_int_int p0 = some r) : CallAt Tryz.prog 48 [.d ((eL 1 (eL 1 eI)) p0)] [] (.slc 0 1 0 r.length none) [.row 1 (List.map eI r) true] := by
 unfold slices_Concat_int_int at h0
 refine fn0 [0] Tryz.func48 rfl rfl rfl rfl rfl ?_
 refine sr (s1 (asg (v := .d .nils) rfl) (sn (sr (sa rfl (sn (SC.seqP h0 (fun y => ⟨mk 36 [(0, .d ((eL 1 (eL 1 eI)) p0)), (3, .d (eI y))], []⟩) ?_ ?_))))))
 ·intro u1_160 h1
  obtain ⟨u2_174, h2, h1⟩ := ob h1
  refine sr (sm rfl (s1 (len rfl rfl rfl (len_lst un143)) (sm rfl (sn (SC.blk (SC.loopB h2 (fun y => ⟨mk 36 [(0, .d ((eL 1 (eL 1 eI)) p0)), (3, .d (eI y.1)), (9, .d ((eL 1 (eL 1 eI)) p0)), (10, .d (eI (p0.length : Int))), (11, .d (eI y.2))], []⟩) (wq rfl) ?_))))))
  intro n179
  rintro ⟨y165, y166⟩ w2_173 h3 hv3
  refine sr (s1 (bi rfl rfl q_i64_lss) (sn (sq (cB h3 rfl (fun h3 => ?_) (fun h3 => ?_)))))
  ·refine sk (SC.seqP h3 (fun y => ⟨mk 36 [(0, .d ((eL 1 (eL 1 eI)) p0)), (3, .d (eI y)), (9, .d ((eL 1 (eL 1 eI)) p0)), (10, .d (eI (p0.length : Int))), (11, .d (eI y166))], []⟩) ?_ ?_)
   ·intro u4_177 h4
    obtain ⟨v178, hv178, h4⟩ := ob h4
    refine SC.blk (sr (s1 (ial rfl rfl un143 ts23 (getI_some hv178).1 (map_get (getI_some hv178).2) rfl) (s1 (lod rfl (ld_rop ts23 ta23 rfl)) (sa rfl (sn (sr (sm rfl (sm rfl (s1 (len rfl rfl rfl (len_lst un23)) ?_)))))))))
    refine s1 (bi rfl rfl q_i64_add) (sa rfl (sn (sr (sm rfl (s1 (bi rfl rfl q_i64_lss) (sn (cB h4 rfl (fun h4 => ?_) (fun h4 => ?_))))))))
    ·refine SC.region (s1 (mki (v := .d (eS ([108, 101, 110, 32, 111, 117, 116, 32, 111, 102, 32, 114, 97, 110, 103, 101] : List UInt8))) rfl ni9) ?_)
     cases h4
    ·have q := si h4; subst q
     exact SC.skip ((wq rfl))
   ·rintro y176 h3
    have q := si h3; subst q
    exact SC.region (s1 (bi rfl rfl q_i64_add) (sm rfl (SO.nil (lf (wq rfl)))))
  ·have q := si h3; subst q; have q : _ = _ := hv3; subst q; have q := si h1; subst q
   exact SC.exit ((wq rfl))
 ·rintro y159 h0
  obtain ⟨_, hq180, h0⟩ := ob h0
  refine sr (sm rfl (cq [] [0] (slices_Grow_int_int_ok y159 _ hq180) wf rfl rfl rfl cb87 rfl rfl rfl rfl rfl rfl rfl rfl (sa rfl (sn (SC.seqP h0 (fun y => ⟨mk 36 [(6, .slc 0 1 0 y.length none)], [.row 1 (List.map eI y) true]⟩) ?_ ?_)))))
  ·intro u1_195 h1
   obtain ⟨u2_205, h2, h1⟩ := ob h1
   refine sr (sm rfl (s1 (len rfl rfl rfl (len_lst un143)) (sm rfl (sn (SC.blk (SC.loopB h2 (fun y => ⟨mk 36 [(6, .slc 0 1 0 y.1.length none), (25, .d ((eL 1 (eL 1 eI)) p0)), (26, .d (eI (p0.length : Int))), (27, .d (eI y.2))], [.row 1 (List.map eI y.1) true]⟩) (wq rfl) ?_))))))
   intro n208
   rintro ⟨y198, y199⟩ w2_204 h3 hv3
   refine sr (s1 (bi rfl rfl q_i64_lss) (sn (sq (cB h3 rfl (fun h3 => ?_) (fun h3 => ?_)))))
   ·obtain ⟨v206, hv206, h3⟩ := ob h3; obtain ⟨hg207, h3⟩ := gd h3
    refine sk (sq (SC.blk (sr (s1 (ial rfl rfl un143 ts23 (getI_some hv206).1 (map_get (getI_some hv206).2) rfl) (s1 (lod rfl (ld_rop ts23 ta23 rfl)) (sa rfl (sn (SC.region (sm rfl ?_)))))))))
    refine sm rfl (s1 (app rfl rfl rfl rfl bc23 (aF (f := eI) (xs := y198) (k := 1) rfl un23 ei3 rfl el_lst hg207 rfl)) (sa rfl (SO.nil ?_)))
    change SC _ _ _ _ _
    have q := si h3; subst q
    exact SC.region (s1 (bi rfl rfl q_i64_add) (sm rfl (SO.nil (lf (wc [1] [1] (by kernel_rfl) rfl (by kernel_rfl))))))
   ·have q := si h3; subst q; have q : _ = _ := hv3; subst q; have q := si h1; subst q
    exact SC.exit ((wq rfl))
  ·rintro y194 h0
   have q := si h0; subst q
   exact sr (sm rfl (sa rfl (sn (SC.ret (finR (Wk.refl _) (lresT rfl lresN) rfl)))))
noncomputable def plan_Needs (p0 : PlanQuery) : Option ((List Int)) :=
 Option.bind (pred_Cols p0.Pred) fun r23 =>
 Option.bind (plan_Query_order p0) fun r25 =>
 Option.bind (slices_Concat_int_int [r23, p0.Cols, r25]) fun r27 =>
 Option.bind (isortF r27) fun r29 =>
 Option.bind (icompactF r29 0 r27.length) fun r31 =>
 some r31
theorem plan_Needs_ok (p0 : PlanQuery) (r : (List Int)) (h0 : plan_Needs p0 = some r) : CallAt Tryz.prog 16 [.d (ePlanQuery p0)] [] (.d ((eL 1 eI) r)) [] := by
 unfold plan_Needs at h0
 refine fn0 [0] Tryz.func16 rfl rfl rfl rfl rfl ?_
 obtain ⟨r23, hq22, h0⟩ := ob h0; obtain ⟨r25, hq24, h0⟩ := ob h0; obtain ⟨r27, hq26, h0⟩ := ob h0; obtain ⟨r29, hq28, h0⟩ := ob h0; obtain ⟨r31, hq30, h0⟩ := ob h0; have q := si h0; subst q
 refine sr (s1 (bxo (k := 0) rfl rfl rfl) (s1 (asg (v := .d .nils) rfl) (sn (sd (by kernel_rfl) (t1 ([], false) (far (k := 0) rfl fo30_0 ts27 rfl) rfl (t1 ([0], false) (lod rfl (ld_box ts27 ta27 rfl rfl)) rfl (tc0 (pred_Cols_ok p0.Pred _ hq22) wf rfl rfl rfl cb49 rfl (fun _ => rfl) (fun _ => rfl) (t1 ([], false) (far (k := 1) rfl fo30_1 ts23 rfl) rfl (t1 ([0], false) (lod rfl (ld_box ts23 ta23 rfl rfl)) rfl ?_)))))))))
 refine t1 ([0], false) (lod (v := .d (ePlanQuery p0)) rfl (ld_box ts30 ta30 rfl rfl)) rfl (tc0 (plan_Query_order_ok p0 _ hq24) wf rfl rfl rfl cb35 rfl (fun _ => rfl) (fun _ => rfl) (t1 ([1], true) (bsn (k := 1) (ds := List.map (eL 1 eI) [r23, p0.Cols, r25]) (off := 0) (l' := [r23, p0.Cols, r25].length) rfl un143 ei23 rfl rfl (by rfl) rfl rfl rfl) rfl (tq (args' := [.slc 0 1 0 ([r23, p0.Cols, r25].length) none]) (σc := [.row 1 (List.map (eL 1 eI) [r23, p0.Cols, r25]) true]) [1] [2] ([1, 2], true) (CallAt.frz (ArgF.frz (fF rfl rfl rfl) (ArgF.nil _)) (fq [] [1] (slices_Concat_int_int_ok [r23, p0.Cols, r25] _ hq26) rfl rfl rfl rfl rfl rfl rfl rfl)) wf rfl rfl rfl cb48 rfl rfl rfl rfl rfl rfl rfl rfl rfl (t1 ([], false) (asg rfl) rfl (tn (by decide +kernel) (sr (sm rfl (cq [2] [] (isort_ok r27 _ hq28) wf rfl rfl rfl cb37 rfl rfl rfl rfl rfl rfl rfl rfl (sn ?_)))))))))
 exact sr (sm rfl (cq [2] [] (icompact_ok r29 0 r27.length _ hq30) wf rfl rfl rfl cb38 rfl rfl rfl rfl rfl rfl rfl rfl (sa rfl (sn (SC.ret (finR (wc (e' := [(2, .d ((eL 1 eI) r31))]) [] [] (by kernel_rfl) rfl (by kernel_rfl)) (lresT rfl lresN) rfl))))))
noncomputable def plan_tells_1_1 (p0 : ApiPart) (p1 : Int) : Option Unit :=
 some ()
theorem plan_tells_1_1_ok (p0 : ApiPart) (p1 : Int) (r : Unit) (h0 : plan_tells_1_1 p0 p1 = some r) : CallAt Tryz.prog 81 [.d (eApiPart p0), .ref 0 0 0] [.box (.d (eI p1))] (.d (eB (p0.Col == p1))) [.box (.d (eI p1))] := by
 unfold plan_tells_1_1 at h0
 refine fn0 [0, 1] Tryz.func81 rfl rfl rfl rfl rfl ?_
 have q := si h0; subst q
 refine sr (s1 (bxo (k := 1) rfl rfl rfl) (sa rfl (sn (sr (s1 (far (k := 0) rfl fo78_0 ts3 rfl) (s1 (lod rfl (ld_box ts3 ta3 rfl rfl)) (s1 (lod rfl (ld_box ts3 ta3 rfl rfl)) (s1 (bi rfl rfl q_i64_eql) (sa rfl ?_)))))))))
 exact sn (SC.ret (finR (wc (e' := [(3, .d (eB (p0.Col == p1)))]) [0] [0] (by kernel_rfl) rfl (by kernel_rfl)) (lresT rfl lresN) rfl))
noncomputable def slices_IndexFunc_api_Part_api_Part_1 (p0 : List ApiPart) (p1 : Int) : Option Int :=
 bindE (Y := Unit) (E := Int)
 (Option.bind (α := Unit ⊕ Int)
 (loop (Y := Int) (W := Unit ⊕ Int) (fun y62 =>
 bif (decide (y62 < (p0.length : Int))) then
 Option.bind (getI p0 y62) fun v68 =>
 Option.bind (plan_tells_1_1 v68 p1) fun _ =>
 bif (v68.Col == p1) then
 some (Sum.inr (Sum.inr y62))
 else
 some (Sum.inl (w64 (y62 + (1 : Int))))
 else
 some (Sum.inr (Sum.inl ()))) (0 : Int))
 (Sum.elim (fun e => some (Sum.inl e)) (fun e => some (Sum.inr e))))
 (fun _ =>
 some (-1 : Int))
 (fun e => some e)
theorem slices_IndexFunc_api_Part_api_Part_1_ok (p0 : List ApiPart) (p1 : Int) (r : Int) (h0 : slices_IndexFunc_api_Part_api_Part_1 p0 p1 = some r) : CallAt Tryz.prog 118 [.d ((eL 2 eApiPart) p0), .fn (.func 81) [] [.ref 0 0 0]] [.box (.d (eI p1))] (.d (eI r)) [.box (.d (eI p1))] := by
 unfold slices_IndexFunc_api_Part_api_Part_1 at h0
 refine fn0 [0, 1] Tryz.func118 rfl rfl rfl rfl rfl ?_
 refine sr (sa rfl (sn (SC.seqB h0 (fun y => ⟨mk 19 [], [.box (.d (eI p1))]⟩) ?_ ?_)))
 ·intro u1_59 h1 h0
  obtain ⟨u2_67, h2, h1⟩ := ob h1
  refine sr (sm rfl (s1 (len rfl rfl rfl (len_lst un28)) (sm rfl (sn (SC.blk (SC.loopB h2 (fun y => ⟨mk 19 [(0, .d ((eL 2 eApiPart) p0)), (1, .fn (.func 81) [] [.ref 0 0 0]), (7, .d (eI (p0.length : Int))), (8, .d (eI y))], [.box (.d (eI p1))]⟩) (wq rfl) ?_))))))
  intro n70
  rintro y62 w2_66 h3 hv3
  refine sr (s1 (bi rfl rfl q_i64_lss) (sn (sq (cB h3 rfl (fun h3 => ?_) (fun h3 => ?_)))))
  ·obtain ⟨v68, hv68, h3⟩ := ob h3; obtain ⟨_, hq69, h3⟩ := ob h3
   refine sk (sq (SC.blk (sr (sm rfl (sa rfl (sn (sr (sm rfl (sm rfl ?_)))))))))
   refine sm rfl (s1 (ial rfl rfl un28 ts78 (getI_some hv68).1 (map_get (getI_some hv68).2) rfl) (s1 (lod (v := .d (eApiPart v68)) rfl (ld_rop ts78 ta78 rfl)) (cq [0] [] (plan_tells_1_1_ok v68 p1 _ hq69) wf rfl rfl rfl cb81 rfl rfl rfl rfl rfl rfl rfl rfl (sn (cB h3 rfl (fun h3 => ?_) (fun h3 => ?_))))))
   ·have q := si h3; subst q; have q : _ = _ := hv3; subst q; have q := si h1; subst q; have q := si h0; subst q
    exact sr (sm rfl (sa rfl (sn (SC.ret (finR (Wk.refl _) (lresT rfl lresN) rfl)))))
   ·refine SC.skip ?_
    change SC _ _ _ _ _
    have q := si h3; subst q
    exact SC.region (s1 (bi rfl rfl q_i64_add) (sm rfl (SO.nil (lf (wq rfl)))))
  ·have q := si h3; subst q; have q : _ = _ := hv3; subst q; have q := si h1; subst q
   exact SC.exit (lf (wq rfl))
 ·intro _ h0
  have q := si h0; subst q
  exact sr (sa rfl (sn (SC.ret (finR (Wk.refl _) (lresT rfl lresN) rfl))))
noncomputable def slices_ContainsFunc_api_Part_api_Part_1 (p0 : List ApiPart) (p1 : Int) : Option Bool :=
 Option.bind (slices_IndexFunc_api_Part_api_Part_1 p0 p1) fun r7 =>
 some (decide (r7 ≥ (0 : Int)))
theorem slices_ContainsFunc_api_Part_api_Part_1_ok (p0 : List ApiPart) (p1 : Int) (r : Bool) (h0 : slices_ContainsFunc_api_Part_api_Part_1 p0 p1 = some r) : CallAt Tryz.prog 80 [.d ((eL 2 eApiPart) p0), .fn (.func 81) [] [.ref 0 0 0]] [.box (.d (eI p1))] (.d (eB r)) [.box (.d (eI p1))] := by
 unfold slices_ContainsFunc_api_Part_api_Part_1 at h0
 refine fn0 [0, 1] Tryz.func80 rfl rfl rfl rfl rfl ?_
 obtain ⟨r7, hq6, h0⟩ := ob h0; have q := si h0; subst q
 refine sr (sa rfl (sn (sr (sm rfl (sm rfl (cq [0] [] (slices_IndexFunc_api_Part_api_Part_1_ok p0 p1 _ hq6) wf rfl rfl rfl cb118 rfl rfl rfl rfl rfl rfl rfl rfl (s1 (bi rfl rfl q_i64_geq) (sa rfl (sn ?_)))))))))
 exact SC.ret (finR (Wk.refl _) (lresT rfl lresN) rfl)
noncomputable def slices_Index_int_int (p0 : List Int) (p1 : Int) : Option Int :=
 bindE (Y := Unit) (E := Int)
 (Option.bind (α := Unit ⊕ Int)
 (loop (Y := Int) (W := Unit ⊕ Int) (fun y46 =>
 bif (decide (y46 < (p0.length : Int))) then
 Option.bind (getI p0 y46) fun v51 =>
 bif (p1 == v51) then
 some (Sum.inr (Sum.inr y46))
 else
 some (Sum.inl (w64 (y46 + (1 : Int))))
 else
 some (Sum.inr (Sum.inl ()))) (0 : Int))
 (Sum.elim (fun e => some (Sum.inl e)) (fun e => some (Sum.inr e))))
 (fun _ =>
 some (-1 : Int))
 (fun e => some e)
theorem slices_Index_int_int_ok (p0 : List Int) (p1 : Int) (r : Int) (h0 : slices_Index_int_int p0 p1 = some r) : CallAt Tryz.prog 119 [.d ((eL 1 eI) p0), .d (eI p1)] [] (.d (eI r)) [] := by
 unfold slices_Index_int_int at h0
 refine fn0 [0, 1] Tryz.func119 rfl rfl rfl rfl rfl ?_
 refine sr (sa rfl (sn (SC.seqB h0 (fun y => ⟨mk 19 [], []⟩) ?_ ?_)))
 ·intro u1_44 h1 h0
  obtain ⟨u2_50, h2, h1⟩ := ob h1
  refine sr (sm rfl (s1 (len rfl rfl rfl (len_lst un23)) (sm rfl (sn (SC.blk (SC.loopB h2 (fun y => ⟨mk 19 [(0, .d ((eL 1 eI) p0)), (1, .d (eI p1)), (7, .d (eI (p0.length : Int))), (8, .d (eI y))], []⟩) (wq rfl) ?_))))))
  intro n52
  rintro y46 w2_49 h3 hv3
  refine sr (s1 (bi rfl rfl q_i64_lss) (sn (sq (cB h3 rfl (fun h3 => ?_) (fun h3 => ?_)))))
  ·obtain ⟨v51, hv51, h3⟩ := ob h3
   refine sk (sq (SC.blk (sr (sm rfl (sa rfl (sn (sr (sm rfl (sm rfl ?_)))))))))
   refine sm rfl (s1 (ial rfl rfl un23 ts3 (getI_some hv51).1 (map_get (getI_some hv51).2) rfl) (s1 (lod rfl (ld_rop ts3 ta3 rfl)) (s1 (bi rfl rfl q_i64_eql) (sn (cB h3 rfl (fun h3 => ?_) (fun h3 => ?_))))))
   ·have q := si h3; subst q; have q : _ = _ := hv3; subst q; have q := si h1; subst q; have q := si h0; subst q
    exact sr (sm rfl (sa rfl (sn (SC.ret (finR (Wk.refl _) (lresT rfl lresN) rfl)))))
   ·refine SC.skip ?_
    change SC _ _ _ _ _
    have q := si h3; subst q
    exact SC.region (s1 (bi rfl rfl q_i64_add) (sm rfl (SO.nil (lf (wq rfl)))))
  ·have q := si h3; subst q; have q : _ = _ := hv3; subst q; have q := si h1; subst q
   exact SC.exit (lf (wq rfl))
 ·intro _ h0
  have q := si h0; subst q
  exact sr (sa rfl (sn (SC.ret (finR (Wk.refl _) (lresT rfl lresN) rfl))))
noncomputable def slices_Contains_int_int (p0 : List Int) (p1 : Int) : Option Bool :=
 Option.bind (slices_Index_int_int p0 p1) fun r7 =>
 some (decide (r7 ≥ (0 : Int)))
theorem slices_Contains_int_int_ok (p0 : List Int) (p1 : Int) (r : Bool) (h0 : slices_Contains_int_int p0 p1 = some r) : CallAt Tryz.prog 82 [.d ((eL 1 eI) p0), .d (eI p1)] [] (.d (eB r)) [] := by
 unfold slices_Contains_int_int at h0
 refine fn0 [0, 1] Tryz.func82 rfl rfl rfl rfl rfl ?_
 obtain ⟨r7, hq6, h0⟩ := ob h0; have q := si h0; subst q
 refine sr (sa rfl (sn (sr (sm rfl (sm rfl (c0 (slices_Index_int_int_ok p0 p1 _ hq6) wf rfl rfl rfl cb119 rfl (fun _ => rfl) (fun _ => rfl) (s1 (bi rfl rfl q_i64_geq) (sa rfl (sn ?_)))))))))
 exact SC.ret (finR (Wk.refl _) (lresT rfl lresN) rfl)
noncomputable def plan_tells_1 (p0 : Int) (p1 : ApiIndex) (p2 : ApiTable) : Option Bool :=
 Option.bind (slices_ContainsFunc_api_Part_api_Part_1 p1.Parts p0) fun r27 =>
 Option.bind (α := Bool)
 (bif (!r27) then
 Option.bind (slices_Contains_int_int p1.Extra p0) fun r35 =>
 bif (!r35) then
 Option.bind (slices_Contains_int_int p2.Primary p0) fun r37 =>
 some (!r37)
 else
 some false
 else
 some false)
 fun y32 =>
 some y32
theorem plan_tells_1_ok (p0 : Int) (p1 : ApiIndex) (p2 : ApiTable) (r : Bool) (h0 : plan_tells_1 p0 p1 p2 = some r) : CallAt Tryz.prog 79 [.d (eI p0), .ref 0 0 0, .ref 1 0 0] [.box (.d (eApiIndex p1)), .box (.d (eApiTable p2))] (.d (eB r)) [.box (.d (eApiIndex p1)), .box (.d (eApiTable p2))] := by
 unfold plan_tells_1 at h0
 refine fn0 [0, 1, 2] Tryz.func79 rfl rfl rfl rfl rfl ?_
 obtain ⟨r27, hq26, h0⟩ := ob h0
 refine sr (s1 (bxo (k := 2) rfl rfl rfl) (sa rfl (sn (sr (s1 (far (k := 1) rfl fo60_1 ts28 rfl) (s1 (lod rfl (ld_box ts28 ta28 rfl rfl)) (s1 (mkf rfl rfl) (cq [2] [] (slices_ContainsFunc_api_Part_api_Part_1_ok p1.Parts p0 _ hq26) wf rfl rfl rfl cb80 rfl rfl rfl rfl rfl rfl rfl rfl (sa rfl ?_)))))))))
 refine sn (SC.seqP h0 (fun y => ⟨mk 26 [(4, .d (eB y))], [.box (.d (eApiIndex p1)), .box (.d (eApiTable p2))]⟩) ?_ ?_)
 ·intro u1_33 h1
  refine SC.region (sm rfl (s1 (nt rfl) (sm rfl (sp h1 (fun h1 => ?_) (fun h1 => ?_)))))
  ·obtain ⟨r35, hq34, h1⟩ := ob h1
   refine gw rfl (far (k := 2) rfl fo60_2 ts23 rfl) (gw rfl (lod rfl (ld_box ts23 ta23 rfl rfl)) (gw rfl (lod rfl (ld_box ts3 ta3 rfl rfl)) (c0 (slices_Contains_int_int_ok p1.Extra p0 _ hq34) (ww rfl) rfl rfl rfl cb82 rfl (fun _ => rfl) (fun _ => rfl) (gw rfl (nt rfl) (s1 (pkt rfl rfl) (sm rfl (sp h1 (fun h1 => ?_) (fun h1 => ?_))))))))
   ·obtain ⟨r37, hq36, h1⟩ := ob h1; have q := si h1; subst q
    exact gw rfl (far (k := 2) rfl fo26_2 ts23 rfl) (gw rfl (lod rfl (ld_box ts23 ta23 rfl rfl)) (gw rfl (lod rfl (ld_box ts3 ta3 rfl rfl)) (c0 (slices_Contains_int_int_ok p2.Primary p0 _ hq36) (ww rfl) rfl rfl rfl cb82 rfl (fun _ => rfl) (fun _ => rfl) (gw rfl (nt rfl) (s1 (pkt rfl rfl) (sa rfl (SO.nil ((wc [0, 1] [0, 1] (by kernel_rfl) rfl (by kernel_rfl))))))))))
   ·have q := si h1; subst q
    exact kw rfl (kw rfl (kw rfl (kw rfl (kw rfl (s1 (pkf rfl rfl) (sa rfl (SO.nil ((wc [0, 1] [0, 1] (by kernel_rfl) rfl (by kernel_rfl))))))))))
  ·have q := si h1; subst q
   refine kw rfl (kw rfl (kw rfl (kw rfl (kw rfl (s1 (pkf rfl rfl) (sm rfl (kw rfl (kw rfl (kw rfl ?_)))))))))
   exact kw rfl (kw rfl (s1 (pkf rfl rfl) (sa rfl (SO.nil ((wc [0, 1] [0, 1] (by kernel_rfl) rfl (by kernel_rfl)))))))
 ·rintro y32 h0
  have q := si h0; subst q
  exact SC.ret (finR (Wk.refl _) (lresT rfl lresN) rfl)
noncomputable def slices_IndexFunc_int_int_3 (p0 : List Int) (p1 : ApiIndex) (p2 : ApiTable) : Option Int :=
 bindE (Y := Unit) (E := Int)
 (Option.bind (α := Unit ⊕ Int)
 (loop (Y := Int) (W := Unit ⊕ Int) (fun y78 =>
 bif (decide (y78 < (p0.length : Int))) then
 Option.bind (getI p0 y78) fun v85 =>
 Option.bind (plan_tells_1 v85 p1 p2) fun r87 =>
 bif r87 then
 some (Sum.inr (Sum.inr y78))
 else
 some (Sum.inl (w64 (y78 + (1 : Int))))
 else
 some (Sum.inr (Sum.inl ()))) (0 : Int))
 (Sum.elim (fun e => some (Sum.inl e)) (fun e => some (Sum.inr e))))
 (fun _ =>
 some (-1 : Int))
 (fun e => some e)
theorem slices_IndexFunc_int_int_3_ok (p0 : List Int) (p1 : ApiIndex) (p2 : ApiTable) (r : Int) (h0 : slices_IndexFunc_int_int_3 p0 p1 p2 = some r) : CallAt Tryz.prog 67 [.d ((eL 1 eI) p0), .fn (.func 79) [] [.ref 0 0 0, .ref 1 0 0]] [.box (.d (eApiIndex p1)), .box (.d (eApiTable p2))] (.d (eI r)) [.box (.d (eApiIndex p1)), .box (.d (eApiTable p2))] := by
 unfold slices_IndexFunc_int_int_3 at h0
 refine fn0 [0, 1] Tryz.func67 rfl rfl rfl rfl rfl ?_
 refine sr (sa rfl (sn (SC.seqB h0 (fun y => ⟨mk 19 [], [.box (.d (eApiIndex p1)), .box (.d (eApiTable p2))]⟩) ?_ ?_)))
 ·intro u1_74 h1 h0
  obtain ⟨u2_84, h2, h1⟩ := ob h1
  refine sr (sm rfl (s1 (len rfl rfl rfl (len_lst un23)) (sm rfl (sn (SC.blk (SC.loopB h2 (fun y => ⟨mk 19 [(0, .d ((eL 1 eI) p0)), (1, .fn (.func 79) [] [.ref 0 0 0, .ref 1 0 0]), (7, .d (eI (p0.length : Int))), (8, .d (eI y))], [.box (.d (eApiIndex p1)), .box (.d (eApiTable p2))]⟩) (wq rfl) ?_))))))
  intro n88
  rintro y78 w2_83 h3 hv3
  refine sr (s1 (bi rfl rfl q_i64_lss) (sn (sq (cB h3 rfl (fun h3 => ?_) (fun h3 => ?_)))))
  ·obtain ⟨v85, hv85, h3⟩ := ob h3; obtain ⟨r87, hq86, h3⟩ := ob h3
   refine sk (sq (SC.blk (sr (sm rfl (sa rfl (sn (sr (sm rfl (sm rfl ?_)))))))))
   refine sm rfl (s1 (ial rfl rfl un23 ts3 (getI_some hv85).1 (map_get (getI_some hv85).2) rfl) (s1 (lod rfl (ld_rop ts3 ta3 rfl)) (cq [0, 1] [] (plan_tells_1_ok v85 p1 p2 _ hq86) wf rfl rfl rfl cb79 rfl rfl rfl rfl rfl rfl rfl rfl (sn (cB h3 rfl (fun h3 => ?_) (fun h3 => ?_))))))
   ·have q := si h3; subst q; have q : _ = _ := hv3; subst q; have q := si h1; subst q; have q := si h0; subst q
    exact sr (sm rfl (sa rfl (sn (SC.ret (finR (Wk.refl _) (lresT rfl lresN) rfl)))))
   ·refine SC.skip ?_
    change SC _ _ _ _ _
    have q := si h3; subst q
    exact SC.region (s1 (bi rfl rfl q_i64_add) (sm rfl (SO.nil (lf (wq rfl)))))
  ·have q := si h3; subst q; have q : _ = _ := hv3; subst q; have q := si h1; subst q
   exact SC.exit (lf (wq rfl))
 ·intro _ h0
  have q := si h0; subst q
  exact sr (sa rfl (sn (SC.ret (finR (Wk.refl _) (lresT rfl lresN) rfl))))
noncomputable def slices_ContainsFunc_int_int_3 (p0 : List Int) (p1 : ApiIndex) (p2 : ApiTable) : Option Bool :=
 Option.bind (slices_IndexFunc_int_int_3 p0 p1 p2) fun r7 =>
 some (decide (r7 ≥ (0 : Int)))
theorem slices_ContainsFunc_int_int_3_ok (p0 : List Int) (p1 : ApiIndex) (p2 : ApiTable) (r : Bool) (h0 : slices_ContainsFunc_int_int_3 p0 p1 p2 = some r) : CallAt Tryz.prog 36 [.d ((eL 1 eI) p0), .fn (.func 79) [] [.ref 0 0 0, .ref 1 0 0]] [.box (.d (eApiIndex p1)), .box (.d (eApiTable p2))] (.d (eB r)) [.box (.d (eApiIndex p1)), .box (.d (eApiTable p2))] := by
 unfold slices_ContainsFunc_int_int_3 at h0
 refine fn0 [0, 1] Tryz.func36 rfl rfl rfl rfl rfl ?_
 obtain ⟨r7, hq6, h0⟩ := ob h0; have q := si h0; subst q
 refine sr (sa rfl (sn (sr (sm rfl (sm rfl (cq [0, 1] [] (slices_IndexFunc_int_int_3_ok p0 p1 p2 _ hq6) wf rfl rfl rfl cb67 rfl rfl rfl rfl rfl rfl rfl rfl (s1 (bi rfl rfl q_i64_geq) (sa rfl (sn ?_)))))))))
 exact SC.ret (finR (Wk.refl _) (lresT rfl lresN) rfl)
noncomputable def plan_tells (p0 : ApiTable) (p1 : ApiIndex) (p2 : List Int) : Option Bool :=
 Option.bind (slices_ContainsFunc_int_int_3 p2 p1 p0) fun r7 =>
 some (!r7)
theorem plan_tells_ok (p0 : ApiTable) (p1 : ApiIndex) (p2 : List Int) (r : Bool) (h0 : plan_tells p0 p1 p2 = some r) : CallAt Tryz.prog 45 [.d (eApiTable p0), .d (eApiIndex p1), .d ((eL 1 eI) p2)] [] (.d (eB r)) [] := by
 unfold plan_tells at h0
 refine fn0 [0, 1, 2] Tryz.func45 rfl rfl rfl rfl rfl ?_
 obtain ⟨r7, hq6, h0⟩ := ob h0; have q := si h0; subst q
 refine sr (s1 (bxo (k := 0) rfl rfl rfl) (s1 (bxo (k := 1) rfl rfl rfl) (sa rfl (sn (sr (sm rfl (s1 (mkf rfl rfl) (cq [1, 0] [] (slices_ContainsFunc_int_int_3_ok p2 p1 p0 _ hq6) wf rfl rfl rfl cb36 rfl rfl rfl rfl rfl rfl rfl rfl (s1 (nt rfl) ?_)))))))))
 exact sa rfl (sn (SC.ret (finR (wc (e' := [(6, .d (eB (!r7)))]) [] [] (by kernel_rfl) rfl (by kernel_rfl)) (lresT rfl lresN) rfl)))
end Lv
