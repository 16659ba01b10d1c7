/- Part of the proof of a law: functions and their walks. -/
import Derived.Test.YtddopjhkmkoicaaGreatDoorXFn3
namespace Lv
open Go Go.Proofs
set_option linter.unusedVariables false
set_option linter.unusedSimpArgs false
set_option linter.unusedSectionVars false
set_option maxRecDepth 100000
variable [BaseTab] [TabOk]
noncomputable def rA (p0 : ApiTable) (p1 : List ApiValue) (p2 : Int) (p3 : UInt64) : Option (Int × (List aM) × (List ay)) :=
 Option.bind (rT p0.bq p1) fun Xz =>
 bif (Xz != (0 : Int)) then
 some (Xz, ([] : List aM), ([] : List ay))
 else
 Option.bind (α := Bool)
 (bif (decide (p2 < (0 : Int))) then
 some true
 else
 some (decide (p2 ≥ (p1.length : Int))))
 fun adW =>
 bif adW then
 some ((1 : Int), ([] : List aM), ([] : List ay))
 else
 Option.bind (α := Bool)
 (Option.bind (bF p1 p2) fun v182 =>
 bif (v182.Kind != (1 : Int)) then
 Option.bind (bF p1 p2) fun v183 =>
 some (v183.Kind != (2 : Int))
 else
 some false)
 fun FM =>
 bif FM then
 some ((8 : Int), ([] : List aM), ([] : List ay))
 else
 Option.bind (jX p0.bB p2) fun Rk =>
 Option.bind (α := Bool)
 (Option.bind (α := Bool)
 (loop (Y := Bool × Int) (W := Bool) (fun (aaD, FL) =>
 bif (decide (FL < (p0.aY.length : Int))) then
 bif aaD then
 some (Sum.inl (true, (bD (FL + (1 : Int)))))
 else
 Option.bind (bF p0.aY FL) fun aaL =>
 Option.bind (mU aaL.Parts) fun abf =>
 Option.bind (jX abf p2) fun ae4 =>
 bif ae4 then
 some (Sum.inl (true, (bD (FL + (1 : Int)))))
 else
 Option.bind (bF p0.aY FL) fun aaK =>
 Option.bind (jX aaK.Extra p2) fun ae3 =>
 some (Sum.inl (ae3, (bD (FL + (1 : Int)))))
 else
 some (Sum.inr aaD)) (Rk, (0 : Int)))
 (fun e => some e))
 fun adT =>
 bif adT then
 some ((11 : Int), ([] : List aM), ([] : List ay))
 else
 Option.bind (nC p1) fun abe =>
 Option.bind (qh p0.bq abe p2) fun (Gv, alT) =>
 Option.bind (jW p0 p1) fun uP =>
 Option.bind (nR p0.Tree uP) fun _ =>
 bif decide ([(aM.mk (1 : Int) p0.Tree (bL.mk (0 : UInt64) (3 : Int) uP (0 : UInt64) ([] : List UInt8) Gv p3))].length * 88 ≤ room) then
 some ((0 : Int), [(aM.mk (1 : Int) p0.Tree (bL.mk (0 : UInt64) (3 : Int) uP (0 : UInt64) ([] : List UInt8) Gv p3))], [(ay.mk p0.Tree (aU.mk uP (uP ++ ([0] : List UInt8)) false) true)])
 else none
theorem Ke (p0 : ApiTable) (p1 : List ApiValue) (p2 : Int) (p3 : UInt64) (r : Int × (List aM) × (List ay)) (h0 : rA p0 p1 p2 p3 = some r) : aL Tryz.prog 16 [.d (eApiTable p0), .d ((eL 3 eApiValue) p1), .d (eI p2), .d (eU64 p3)] [] (.tuple [.agg [.slc 1 9 0 r.2.1.length none, .slc 2 5 0 r.2.2.length none, .d .aA], .d (eI r.1)]) [.box (.agg [.slc 1 9 0 r.2.1.length none, .slc 2 5 0 r.2.2.length none, .d .aA]), .row 9 (List.map bI r.2.1) true, .row 5 (List.map aK r.2.2) true] := by
 unfold rA at h0
 refine fn0 [0, 1, 2, 3] Tryz.func16 rfl rfl rfl rfl rfl ?_
 obtain ⟨Xz, agD, h0⟩ := ob h0
 refine sr (s1 (nH (k := 0) rfl rfl rfl) (s1 (qV (k := 1) aan rfl) (sa rfl (sn (sr (s1 (far (k := 1) rfl jr jB rfl) (s1 (aS rfl (aj jB vw rfl rfl)) (sm rfl (c0 (Iz p0.bq p1 _ agD) wf rfl rfl rfl anr rfl (fun _ => rfl) (fun _ => rfl) ?_)))))))))
 refine sa rfl (sn (sq (sr (sm rfl (s1 (bi rfl rfl bA) (sn (cB h0 rfl (fun h0 => ?_) (fun h0 => ?_))))))))
 ·have q := si h0; subst q
  exact sr (s1 (l8 rfl (Ns )) (sm rfl (s0 (fJ rfl rfl (sB (d' := .d (.agg [.aA, .aA, .aA])) Bq rfl rfl rfl rfl rfl rfl rfl)) (sa rfl (sn (SC.ret (aV (Wk.trans (Wk.dD (σ' := [.box (.d (eApiTable p0)), .box (.d (.agg [.aA, .aA, .aA])), .row 9 (List.map bI ([] : List aM)) true]) (.row 9 [] true) (fun _ hh => by cases hh) rfl) (Wk.trans (Wk.jh (id := 1) (y := .agg [.slc 2 9 0 (([] : List aM).length) none, .d .aA, .d .aA]) (σ' := [.box (.d (eApiTable p0)), .box (.agg [.slc 2 9 0 (([] : List aM).length) none, .d .aA, .d .aA]), .row 9 (List.map bI ([] : List aM)) true]) rfl (dh.cons (AW.dX _ _ _) (dh.cons (AW.refl _) (dh.cons (AW.refl _) dh.nil))) rfl) (Wk.trans (Wk.dD (σ' := [.box (.d (eApiTable p0)), .box (.agg [.slc 2 9 0 (([] : List aM).length) none, .d .aA, .d .aA]), .row 9 (List.map bI ([] : List aM)) true, .row 5 (List.map aK ([] : List ay)) true]) (.row 5 [] true) (fun _ hh => by cases hh) rfl) (Wk.trans (Wk.jh (id := 1) (y := .agg [.slc 2 9 0 (([] : List aM).length) none, .slc 3 5 0 (([] : List ay).length) none, .d .aA]) (σ' := [.box (.d (eApiTable p0)), .box (.agg [.slc 2 9 0 (([] : List aM).length) none, .slc 3 5 0 (([] : List ay).length) none, .d .aA]), .row 9 (List.map bI ([] : List aM)) true, .row 5 (List.map aK ([] : List ay)) true]) rfl (dh.cons (AW.refl _) (dh.cons (AW.dX _ _ _) (dh.cons (AW.refl _) dh.nil))) rfl) (wc (e' := [(8, .ref 0 0 0), (9, .d (eI Xz))]) [1, 2, 3] [1] (by kernel_rfl) rfl (by kernel_rfl)))))) (gD rfl (aj Bq Ow rfl rfl) (aI rfl aG)) rfl)))))))
 ·refine sk (sq (SC.bJ h0 (fun y => ⟨mk 114 [(1, .d ((eL 3 eApiValue) p1)), (2, .d (eI p2)), (3, .d (eU64 p3)), (4, .ref 0 0 0), (8, .ref 1 0 0), (32, .d (eB y))], [.box (.d (eApiTable p0)), .box (.d (.agg [.aA, .aA, .aA]))]⟩) ?_ ?_))
  ·intro aln h1
   refine SC.region (sm rfl (s1 (bi rfl rfl aQ) (sm rfl (sp h1 (fun h1 => ?_) (fun h1 => ?_)))))
   ·have q := si h1; subst q
    exact kw rfl (kw rfl (kw rfl (kw rfl (s1 (pkt rfl rfl) (SO.nil ((wq rfl)))))))
   ·have q := si h1; subst q
    exact gw rfl (mv rfl) (gw rfl (mv rfl) (gw rfl (len rfl rfl rfl (aZ fu)) (gw rfl (bi rfl rfl dU) (s1 (dB rfl rfl) (SO.nil ((wq rfl)))))))
  ·rintro adW h0
   refine cB h0 rfl (fun h0 => ?_) (fun h0 => ?_)
   ·have q := si h0; subst q
    exact sr (s1 (l8 rfl (Ns )) (s0 (fJ rfl rfl (sB (d' := .d (.agg [.aA, .aA, .aA])) Bq rfl rfl rfl rfl rfl rfl rfl)) (sa rfl (sn (SC.ret (aV (Wk.trans (Wk.dD (σ' := [.box (.d (eApiTable p0)), .box (.d (.agg [.aA, .aA, .aA])), .row 9 (List.map bI ([] : List aM)) true]) (.row 9 [] true) (fun _ hh => by cases hh) rfl) (Wk.trans (Wk.jh (id := 1) (y := .agg [.slc 2 9 0 (([] : List aM).length) none, .d .aA, .d .aA]) (σ' := [.box (.d (eApiTable p0)), .box (.agg [.slc 2 9 0 (([] : List aM).length) none, .d .aA, .d .aA]), .row 9 (List.map bI ([] : List aM)) true]) rfl (dh.cons (AW.dX _ _ _) (dh.cons (AW.refl _) (dh.cons (AW.refl _) dh.nil))) rfl) (Wk.trans (Wk.dD (σ' := [.box (.d (eApiTable p0)), .box (.agg [.slc 2 9 0 (([] : List aM).length) none, .d .aA, .d .aA]), .row 9 (List.map bI ([] : List aM)) true, .row 5 (List.map aK ([] : List ay)) true]) (.row 5 [] true) (fun _ hh => by cases hh) rfl) (Wk.trans (Wk.jh (id := 1) (y := .agg [.slc 2 9 0 (([] : List aM).length) none, .slc 3 5 0 (([] : List ay).length) none, .d .aA]) (σ' := [.box (.d (eApiTable p0)), .box (.agg [.slc 2 9 0 (([] : List aM).length) none, .slc 3 5 0 (([] : List ay).length) none, .d .aA]), .row 9 (List.map bI ([] : List aM)) true, .row 5 (List.map aK ([] : List ay)) true]) rfl (dh.cons (AW.refl _) (dh.cons (AW.dX _ _ _) (dh.cons (AW.refl _) dh.nil))) rfl) (wc (e' := [(8, .ref 0 0 0), (9, .d (eI (1 : Int)))]) [1, 2, 3] [1] (by kernel_rfl) rfl (by kernel_rfl)))))) (gD rfl (aj Bq Ow rfl rfl) (aI rfl aG)) rfl))))))
   ·refine sk (sq (SC.bJ h0 (fun y => ⟨mk 114 [(1, .d ((eL 3 eApiValue) p1)), (2, .d (eI p2)), (3, .d (eU64 p3)), (4, .ref 0 0 0), (8, .ref 1 0 0), (47, .d (eB y))], [.box (.d (eApiTable p0)), .box (.d (.agg [.aA, .aA, .aA]))]⟩) ?_ ?_))
    ·intro aaX h1
     obtain ⟨v182, MX, h1⟩ := ob h1
     refine SC.region (sm rfl (sm rfl (s1 (j4 rfl rfl fu d9 (ak MX).1 (aT (ak MX).2) rfl) (s1 (fap rfl fH bO rfl) (s1 (aS rfl (bK bO dW rfl)) (s1 (bi rfl rfl bA) (sm rfl (sp h1 (fun h1 => ?_) (fun h1 => ?_)))))))))
     ·obtain ⟨v183, ZL, h1⟩ := ob h1; have q := si h1; subst q
      exact gw rfl (mv rfl) (gw rfl (mv rfl) (gw rfl (j4 rfl rfl fu d9 (ak ZL).1 (aT (ak ZL).2) rfl) (gw rfl (fap rfl fH bO rfl) (gw rfl (aS rfl (bK bO dW rfl)) (gw rfl (bi rfl rfl bA) (s1 (pkt rfl rfl) (SO.nil ((wq rfl)))))))))
     ·have q := si h1; subst q
      exact kw rfl (kw rfl (kw rfl (kw rfl (kw rfl (kw rfl (s1 (dB rfl rfl) (SO.nil ((wq rfl)))))))))
    ·rintro FM h0
     refine cB h0 rfl (fun h0 => ?_) (fun h0 => ?_)
     ·have q := si h0; subst q
      exact sr (s1 (l8 rfl (Ns )) (s0 (fJ rfl rfl (sB (d' := .d (.agg [.aA, .aA, .aA])) Bq rfl rfl rfl rfl rfl rfl rfl)) (sa rfl (sn (SC.ret (aV (Wk.trans (Wk.dD (σ' := [.box (.d (eApiTable p0)), .box (.d (.agg [.aA, .aA, .aA])), .row 9 (List.map bI ([] : List aM)) true]) (.row 9 [] true) (fun _ hh => by cases hh) rfl) (Wk.trans (Wk.jh (id := 1) (y := .agg [.slc 2 9 0 (([] : List aM).length) none, .d .aA, .d .aA]) (σ' := [.box (.d (eApiTable p0)), .box (.agg [.slc 2 9 0 (([] : List aM).length) none, .d .aA, .d .aA]), .row 9 (List.map bI ([] : List aM)) true]) rfl (dh.cons (AW.dX _ _ _) (dh.cons (AW.refl _) (dh.cons (AW.refl _) dh.nil))) rfl) (Wk.trans (Wk.dD (σ' := [.box (.d (eApiTable p0)), .box (.agg [.slc 2 9 0 (([] : List aM).length) none, .d .aA, .d .aA]), .row 9 (List.map bI ([] : List aM)) true, .row 5 (List.map aK ([] : List ay)) true]) (.row 5 [] true) (fun _ hh => by cases hh) rfl) (Wk.trans (Wk.jh (id := 1) (y := .agg [.slc 2 9 0 (([] : List aM).length) none, .slc 3 5 0 (([] : List ay).length) none, .d .aA]) (σ' := [.box (.d (eApiTable p0)), .box (.agg [.slc 2 9 0 (([] : List aM).length) none, .slc 3 5 0 (([] : List ay).length) none, .d .aA]), .row 9 (List.map bI ([] : List aM)) true, .row 5 (List.map aK ([] : List ay)) true]) rfl (dh.cons (AW.refl _) (dh.cons (AW.dX _ _ _) (dh.cons (AW.refl _) dh.nil))) rfl) (wc (e' := [(8, .ref 0 0 0), (9, .d (eI (8 : Int)))]) [1, 2, 3] [1] (by kernel_rfl) rfl (by kernel_rfl)))))) (gD rfl (aj Bq Ow rfl rfl) (aI rfl aG)) rfl))))))
     ·obtain ⟨Rk, Vp, h0⟩ := ob h0
      refine sk (sr (s1 (far (k := 2) rfl sI jA rfl) (s1 (aS rfl (aj jA vo rfl rfl)) (sm rfl (c0 (kZ p0.bB p2 _ Vp) wf rfl rfl rfl RH rfl (fun _ => rfl) (fun _ => rfl) (sa rfl (sn (SC.bJ h0 (fun y => ⟨mk 114 [(1, .d ((eL 3 eApiValue) p1)), (2, .d (eI p2)), (3, .d (eU64 p3)), (4, .ref 0 0 0), (8, .ref 1 0 0), (11, .d (eB y))], [.box (.d (eApiTable p0)), .box (.d (.agg [.aA, .aA, .aA]))]⟩) ?_ ?_))))))))
      ·intro alk h1
       obtain ⟨akC, h2, h1⟩ := ob h1
       refine sr (sa rfl (sn (SC.blk (SC.dH h2 (fun y => ⟨mk 114 [(1, .d ((eL 3 eApiValue) p1)), (2, .d (eI p2)), (3, .d (eU64 p3)), (4, .ref 0 0 0), (8, .ref 1 0 0), (11, .d (eB y.1)), (12, .d (eI y.2))], [.box (.d (eApiTable p0)), .box (.d (.agg [.aA, .aA, .aA]))]⟩) (wq rfl) ?_))))
       intro n249
       rintro ⟨aaD, FL⟩ ajt h3 hv3
       refine sq (sr (sm rfl (s1 (far (k := 3) rfl sH sZ rfl) (s1 (aS rfl (aj sZ Iw rfl rfl)) (s1 (len rfl rfl rfl (aZ CP)) (s1 (bi rfl rfl aQ) (sn (cB h3 rfl (fun h3 => ?_) (fun h3 => ?_)))))))))
       ·refine sk (sq (SC.blk (SC.region (sm rfl (sm rfl (sp h3 (fun h3 => ?_) (fun h3 => ?_)))))))
        ·refine kw rfl (kw rfl (kw rfl (kw rfl (kw rfl (kw rfl (kw rfl (kw rfl (kw rfl (s1 (pkt rfl rfl) ?_)))))))))
         refine sm rfl (kw rfl (kw rfl (kw rfl (kw rfl (kw rfl (kw rfl (kw rfl (kw rfl (s1 (pkt rfl rfl) ?_)))))))))
         refine sa rfl (SO.nil ?_)
         change SC _ _ _ _ _
         have q := si h3; subst q
         exact SC.region (sm rfl (s1 (bi rfl rfl aR) (sa rfl (SO.nil (lf (wq rfl))))))
        ·obtain ⟨aaL, ZK, h3⟩ := ob h3; obtain ⟨abf, agv, h3⟩ := ob h3; obtain ⟨ae4, agu, h3⟩ := ob h3
         refine gw rfl (far (k := 3) rfl sH sZ rfl) (gw rfl (aS rfl (aj sZ Iw rfl rfl)) (gw rfl (mv rfl) (gw rfl (j4 rfl rfl CP wu (ak ZK).1 (aT (ak ZK).2) rfl) (gw rfl (fap rfl yP zB rfl) (gw rfl (aS rfl (bK zB L8 rfl)) (c0 (uI aaL.Parts _ agv) (ww rfl) rfl rfl rfl acS rfl (fun _ => rfl) (fun _ => rfl) (gw rfl (mv rfl) (c0 (kZ abf p2 _ agu) (ww rfl) rfl rfl rfl RH rfl (fun _ => rfl) (fun _ => rfl) (s1 (dB rfl rfl) ?_)))))))))
         refine sm rfl (sp h3 (fun h3 => ?_) (fun h3 => ?_))
         ·refine kw rfl (kw rfl (kw rfl (kw rfl (kw rfl (kw rfl (kw rfl (kw rfl (s1 (pkt rfl rfl) (sa rfl ?_)))))))))
          refine SO.nil ?_
          change SC _ _ _ _ _
          have q := si h3; subst q
          exact SC.region (sm rfl (s1 (bi rfl rfl aR) (sa rfl (SO.nil (lf (wq rfl))))))
         ·obtain ⟨aaK, ZJ, h3⟩ := ob h3; obtain ⟨ae3, agt, h3⟩ := ob h3
          refine gw rfl (far (k := 3) rfl sH sZ rfl) (gw rfl (aS rfl (aj sZ Iw rfl rfl)) (gw rfl (mv rfl) (gw rfl (j4 rfl rfl CP wu (ak ZJ).1 (aT (ak ZJ).2) rfl) (gw rfl (fap rfl wN jA rfl) (gw rfl (aS rfl (bK jA vo rfl)) (gw rfl (mv rfl) (c0 (kZ aaK.Extra p2 _ agt) (ww rfl) rfl rfl rfl RH rfl (fun _ => rfl) (fun _ => rfl) (s1 (dB rfl rfl) (sa rfl ?_)))))))))
          refine SO.nil ?_
          change SC _ _ _ _ _
          have q := si h3; subst q
          exact SC.region (sm rfl (s1 (bi rfl rfl aR) (sa rfl (SO.nil (lf (wq rfl))))))
       ·have q := si h3; subst q; have q : _ = _ := hv3; subst q; have q := si h1; subst q
        exact SC.exit ((wq rfl))
      ·rintro adT h0
       refine sq (sr (sm rfl (sn (cB h0 rfl (fun h0 => ?_) (fun h0 => ?_)))))
       ·have q := si h0; subst q
        exact sr (s1 (l8 rfl (Ns )) (s0 (fJ rfl rfl (sB (d' := .d (.agg [.aA, .aA, .aA])) Bq rfl rfl rfl rfl rfl rfl rfl)) (sa rfl (sn (SC.ret (aV (Wk.trans (Wk.dD (σ' := [.box (.d (eApiTable p0)), .box (.d (.agg [.aA, .aA, .aA])), .row 9 (List.map bI ([] : List aM)) true]) (.row 9 [] true) (fun _ hh => by cases hh) rfl) (Wk.trans (Wk.jh (id := 1) (y := .agg [.slc 2 9 0 (([] : List aM).length) none, .d .aA, .d .aA]) (σ' := [.box (.d (eApiTable p0)), .box (.agg [.slc 2 9 0 (([] : List aM).length) none, .d .aA, .d .aA]), .row 9 (List.map bI ([] : List aM)) true]) rfl (dh.cons (AW.dX _ _ _) (dh.cons (AW.refl _) (dh.cons (AW.refl _) dh.nil))) rfl) (Wk.trans (Wk.dD (σ' := [.box (.d (eApiTable p0)), .box (.agg [.slc 2 9 0 (([] : List aM).length) none, .d .aA, .d .aA]), .row 9 (List.map bI ([] : List aM)) true, .row 5 (List.map aK ([] : List ay)) true]) (.row 5 [] true) (fun _ hh => by cases hh) rfl) (Wk.trans (Wk.jh (id := 1) (y := .agg [.slc 2 9 0 (([] : List aM).length) none, .slc 3 5 0 (([] : List ay).length) none, .d .aA]) (σ' := [.box (.d (eApiTable p0)), .box (.agg [.slc 2 9 0 (([] : List aM).length) none, .slc 3 5 0 (([] : List ay).length) none, .d .aA]), .row 9 (List.map bI ([] : List aM)) true, .row 5 (List.map aK ([] : List ay)) true]) rfl (dh.cons (AW.refl _) (dh.cons (AW.dX _ _ _) (dh.cons (AW.refl _) dh.nil))) rfl) (wc (e' := [(8, .ref 0 0 0), (9, .d (eI (11 : Int)))]) [1, 2, 3] [1] (by kernel_rfl) rfl (by kernel_rfl)))))) (gD rfl (aj Bq Ow rfl rfl) (aI rfl aG)) rfl))))))
       ·obtain ⟨abe, ags, h0⟩ := ob h0; obtain ⟨⟨Gv, alT⟩, agr, h0⟩ := ob h0; obtain ⟨uP, agq, h0⟩ := ob h0; obtain ⟨_, agp, h0⟩ := ob h0; obtain ⟨ahd, h0⟩ := gd h0; have q := si h0; subst q
        refine sk (sd (by kernel_rfl) (t1 ([], false) (far (k := 1) rfl jr jB rfl) rfl (t1 ([0], false) (aS rfl (aj jB vw rfl rfl)) rfl (t1 ([], false) (mv rfl) rfl (Lj (yA p1 _ ags) wf rfl rfl rfl ahY rfl (fun _ => rfl) (fun _ => rfl) (t1 ([], false) (mv rfl) rfl (Lj (Gp p0.bq abe p2 _ agr) wf rfl rfl rfl anh rfl (fun _ => rfl) (fun _ => rfl) (t1 ([], false) (mv rfl) rfl (t1 ([], false) (ext rfl rfl) rfl ?_)))))))))
        refine t1 ([], false) (ext rfl rfl) rfl (t1 ([], false) (ig rfl) rfl (t1 ([], false) (ig rfl) rfl (tn (by decide +kernel) (sr (s1 (l8 rfl (Ns )) (s1 (qV (k := 2) aan rfl) (s0 (fJ rfl rfl (sB (d' := .d (.agg [.aA, .aA, .aA])) Bq rfl rfl rfl rfl rfl rfl rfl)) (sn (sr ?_)))))))))
        refine s1 (aS (v := .d (eApiTable p0)) rfl (aj uE vk rfl rfl)) (sm rfl (c0 (Da p0 p1 _ agq) wf rfl rfl rfl anq rfl (fun _ => rfl) (fun _ => rfl) (sa rfl (sn (sr (s1 (far (k := 4) rfl AA bO rfl) (s1 (aS rfl (aj bO dW rfl rfl)) (sm rfl (cq [2] [3] (BF p0.Tree uP _ agp) wf rfl rfl rfl anp rfl rfl rfl rfl rfl rfl rfl rfl ?_)))))))))
        refine sn (sr (s1 (far (k := 0) rfl Dz ET rfl) (s1 (aS rfl (aj ET Ui rfl rfl)) (s1 (far (k := 4) rfl AA bO rfl) (s1 (aS rfl (aj bO dW rfl rfl)) (sm rfl (sm rfl (sm rfl (s1 (l8 rfl (Cr (3 : Int) uP Gv p3)) ?_)))))))))
        refine s1 (l8 rfl (Nu (1 : Int) p0.Tree (bL.mk (0 : UInt64) (3 : Int) uP (0 : UInt64) ([] : List UInt8) Gv p3))) (s1 (tH (k := 4) (ds := List.map bI [(aM.mk (1 : Int) p0.Tree (bL.mk (0 : UInt64) (3 : Int) uP (0 : UInt64) ([] : List UInt8) Gv p3))]) (off := 0) (l' := [(aM.mk (1 : Int) p0.Tree (bL.mk (0 : UInt64) (3 : Int) uP (0 : UInt64) ([] : List UInt8) Gv p3))].length) rfl Q9 aad rfl rfl (by rfl) rfl rfl rfl) (s1 (app rfl rfl rfl rfl bc43 (aN (f := bI) (k := 5) Q9 aad (dx (xs := [(aM.mk (1 : Int) p0.Tree (bL.mk (0 : UInt64) (3 : Int) uP (0 : UInt64) ([] : List UInt8) Gv p3))]) rfl) ahd rfl)) (s1 (far (k := 0) rfl Dz ET rfl) (s0 (fJ rfl rfl (sB (d' := .agg [.slc 5 9 0 ([(aM.mk (1 : Int) p0.Tree (bL.mk (0 : UInt64) (3 : Int) uP (0 : UInt64) ([] : List UInt8) Gv p3))].length) none, .slc 3 5 0 ([(ay.mk p0.Tree (aU.mk uP (uP ++ ([0] : List UInt8)) false) true)].length) none, .d .aA]) ET rfl rfl rfl rfl rfl rfl rfl)) (sn (sr (s1 (aS (v := .agg [.slc 5 9 0 ([(aM.mk (1 : Int) p0.Tree (bL.mk (0 : UInt64) (3 : Int) uP (0 : UInt64) ([] : List UInt8) Gv p3))].length) none, .slc 3 5 0 ([(ay.mk p0.Tree (aU.mk uP (uP ++ ([0] : List UInt8)) false) true)].length) none, .d .aA]) rfl (aj Bq Ow rfl rfl)) (s0 (fJ rfl rfl (sB (d' := .agg [.slc 5 9 0 ([(aM.mk (1 : Int) p0.Tree (bL.mk (0 : UInt64) (3 : Int) uP (0 : UInt64) ([] : List UInt8) Gv p3))].length) none, .slc 3 5 0 ([(ay.mk p0.Tree (aU.mk uP (uP ++ ([0] : List UInt8)) false) true)].length) none, .d .aA]) Bq rfl rfl rfl rfl rfl rfl rfl)) ?_))))))))
        exact sa rfl (sn (SC.ret (aV (wc (e' := [(8, .ref 0 0 0), (9, .d (eI (0 : Int)))]) [1, 5, 3] [1] (by kernel_rfl) rfl (by kernel_rfl)) (gD rfl (aj Bq Ow rfl rfl) (aI rfl aG)) rfl)))
noncomputable def rC (p0 : List ay) (p1 : List ay) : Option Bool :=
 bif ((p0.length : Int) != (p1.length : Int)) then
 some false
 else
 eH (Y := Unit) (E := Bool)
 (Option.bind (α := Unit ⊕ Bool)
 (loop (Y := Int) (W := Unit ⊕ Bool) (fun Bc =>
 bif (decide (Bc < (p0.length : Int))) then
 Option.bind (bF p0 Bc) fun v68 =>
 Option.bind (bF p1 Bc) fun v69 =>
 bif (!(nE v68 v69)) then
 some (Sum.inr (Sum.inr false))
 else
 some (Sum.inl (bD (Bc + (1 : Int))))
 else
 some (Sum.inr (Sum.inl ()))) (0 : Int))
 (Sum.elim (fun e => some (Sum.inl e)) (fun e => some (Sum.inr e))))
 (fun _ =>
 some true)
 (fun e => some e)
theorem Kj (p0 : List ay) (p1 : List ay) (r : Bool) (h0 : rC p0 p1 = some r) : aL Tryz.prog 43 [.d ((eL 5 aK) p0), .d ((eL 5 aK) p1)] [] (.d (eB r)) [] := by
 unfold rC at h0
 refine fn0 [0, 1] Tryz.func43 rfl rfl rfl rfl rfl ?_
 refine sr (sa rfl (sn (sq (sr (sm rfl (s1 (len rfl rfl rfl (aZ Bn)) (sm rfl (s1 (len rfl rfl rfl (aZ Bn)) (s1 (bi rfl rfl bA) ?_)))))))))
 refine sn (cB h0 rfl (fun h0 => ?_) (fun h0 => ?_))
 ·have q := si h0; subst q
  exact sr (sa rfl (sn (SC.ret (aV (Wk.refl _) (aI rfl aG) rfl))))
 ·refine sk (SC.seqB h0 (fun y => ⟨mk 26 [], []⟩) ?_ ?_)
  ·intro L6 h1 h0
   obtain ⟨Qh, h2, h1⟩ := ob h1
   refine sr (sa rfl (sn (SC.blk (SC.dH h2 (fun y => ⟨mk 26 [(0, .d ((eL 5 aK) p0)), (1, .d ((eL 5 aK) p1)), (5, .d (eI y))], []⟩) (wq rfl) ?_))))
   intro n70
   rintro Bc Qb h3 hv3
   refine sq (sr (sm rfl (sm rfl (s1 (len rfl rfl rfl (aZ Bn)) (s1 (bi rfl rfl aQ) (sn (cB h3 rfl (fun h3 => ?_) (fun h3 => ?_))))))))
   ·obtain ⟨v68, Ca, h3⟩ := ob h3; obtain ⟨v69, G6, h3⟩ := ob h3
    refine sk (sq (SC.blk (sd (by kernel_rfl) (t1 ([], false) (mv rfl) rfl (t1 ([], false) (mv rfl) rfl (t1 ([], false) (j4 rfl rfl Bn Qj (ak Ca).1 (aT (ak Ca).2) rfl) rfl (t1 ([], false) (aS (v := .d (aK v68)) rfl (bK Qj YU rfl)) rfl (t1 ([], false) (mv rfl) rfl (t1 ([], false) (mv rfl) rfl ?_)))))))))
    refine t1 ([], false) (j4 rfl rfl Bn Qj (ak G6).1 (aT (ak G6).2) rfl) rfl (t1 ([], false) (aS (v := .d (aK v69)) rfl (bK Qj YU rfl)) rfl (t1 ([], false) (bi (v := .d (eB (!(nE v68 v69)))) rfl rfl (fun X Y => Cm X Y v68 v69)) rfl (tn (by decide +kernel) (cB h3 rfl (fun h3 => ?_) (fun h3 => ?_)))))
    ·have q := si h3; subst q; have q : _ = _ := hv3; subst q; have q := si h1; subst q; have q := si h0; subst q
     exact sr (sa rfl (sn (SC.ret (aV (Wk.refl _) (aI rfl aG) rfl))))
    ·refine SC.skip ?_
     change SC _ _ _ _ _
     have q := si h3; subst q
     exact SC.region (sm rfl (s1 (bi rfl rfl aR) (sa rfl (SO.nil (lf (wq rfl))))))
   ·have q := si h3; subst q; have q : _ = _ := hv3; subst q; have q := si h1; subst q
    exact SC.exit (lf (wq rfl))
  ·intro _ h0
   have q := si h0; subst q
   exact sr (sa rfl (sn (SC.ret (aV (Wk.refl _) (aI rfl aG) rfl))))
noncomputable def su (p0 : zx) (p1 : iE) : Option Bool :=
 Option.bind (α := Bool)
 (bif ((p0.Td.length : Int) != (p1.Td.length : Int)) then
 some true
 else
 Option.bind (rC p0.Locks p1.Locks) fun Xv =>
 bif (!Xv) then
 some true
 else
 some ((p0.uV.length : Int) != (p1.uV.length : Int)))
 fun adN =>
 bif adN then
 some false
 else
 eH (Y := Unit) (E := Bool)
 (Option.bind (α := Unit ⊕ Bool)
 (loop (Y := Int) (W := Unit ⊕ Bool) (fun Iq =>
 bif (decide (Iq < (p0.Td.length : Int))) then
 Option.bind (α := Bool)
 (Option.bind (bF p0.Td Iq) fun TR =>
 Option.bind (bF p1.Td Iq) fun TQ =>
 bif (TR.Kind != TQ.Kind) then
 some true
 else
 Option.bind (bF p0.Td Iq) fun TP =>
 Option.bind (bF p1.Td Iq) fun TN =>
 bif (TP.Tree != TN.Tree) then
 some true
 else
 Option.bind (bF p0.Td Iq) fun LW =>
 Option.bind (bF p1.Td Iq) fun LV =>
 some (!(sN LW.zw LV.zw)))
 fun adG =>
 bif adG then
 some (Sum.inr (Sum.inr false))
 else
 some (Sum.inl (bD (Iq + (1 : Int))))
 else
 some (Sum.inr (Sum.inl ()))) (0 : Int))
 (Sum.elim (fun e => some (Sum.inl e)) (fun e => some (Sum.inr e))))
 (fun _ =>
 eH (Y := Unit) (E := Bool)
 (Option.bind (α := Unit ⊕ Bool)
 (loop (Y := Int) (W := Unit ⊕ Bool) (fun LA =>
 bif (decide (LA < (p0.uV.length : Int))) then
 Option.bind (α := Bool)
 (Option.bind (bF p0.uV LA) fun aeb =>
 Option.bind (bF p1.uV LA) fun aea =>
 bif (aeb.Tree != aea.Tree) then
 some true
 else
 Option.bind (bF p0.uV LA) fun TM =>
 Option.bind (bF p1.uV LA) fun TL =>
 some (!(lS TM.Span TL.Span)))
 fun adA =>
 bif adA then
 some (Sum.inr (Sum.inr false))
 else
 some (Sum.inl (bD (LA + (1 : Int))))
 else
 some (Sum.inr (Sum.inl ()))) (0 : Int))
 (Sum.elim (fun e => some (Sum.inl e)) (fun e => some (Sum.inr e))))
 (fun _ =>
 some true)
 (fun e => some e))
 (fun e => some e)
theorem IX (p0 : zx) (p1 : iE) (r : Bool) (h0 : su p0 p1 = some r) : aL Tryz.prog 13 [.d (qy p0), .d (fC p1)] [] (.d (eB r)) [] := by
 unfold su at h0
 refine fn0 [0, 1] Tryz.func13 rfl rfl rfl rfl rfl ?_
 refine sr (s1 (nH (k := 0) rfl rfl rfl) (s1 (nH (k := 1) rfl rfl rfl) (sa rfl (sn (sq (SC.bJ h0 (fun y => ⟨mk 116 [(2, .ref 0 0 0), (3, .ref 1 0 0), (30, .d (eB y))], [.box (.d (qy p0)), .box (.d (fC p1))]⟩) ?_ ?_))))))
 ·intro ald h1
  refine SC.region (s1 (far (k := 0) rfl oh oz rfl) (s1 (aS rfl (aj oz EX rfl rfl)) (s1 (len rfl rfl rfl (aZ Bo)) (s1 (far (k := 0) rfl Dz ET rfl) (s1 (aS rfl (aj ET Ui rfl rfl)) (s1 (len rfl rfl rfl (aZ Q9)) (s1 (bi rfl rfl bA) (sm rfl (sp h1 (fun h1 => ?_) (fun h1 => ?_))))))))))
  ·have q := si h1; subst q
   refine kw rfl (kw rfl (kw rfl (kw rfl (kw rfl (kw rfl (s1 (pkt rfl rfl) (sm rfl (kw rfl (kw rfl ?_)))))))))
   exact kw rfl (kw rfl (kw rfl (kw rfl (kw rfl (s1 (pkt rfl rfl) (SO.nil ((wq rfl))))))))
  ·obtain ⟨Xv, agh, h1⟩ := ob h1
   refine gw rfl (far (k := 1) rfl yR sW rfl) (gw rfl (aS rfl (aj sW Ox rfl rfl)) (gw rfl (far (k := 1) rfl Pg sW rfl) (gw rfl (aS rfl (aj sW Ox rfl rfl)) (c0 (Kj p0.Locks p1.Locks _ agh) (ww rfl) rfl rfl rfl ano rfl (fun _ => rfl) (fun _ => rfl) (gw rfl (nt rfl) (s1 (dB rfl rfl) (sm rfl (sp h1 (fun h1 => ?_) (fun h1 => ?_)))))))))
   ·have q := si h1; subst q
    exact kw rfl (kw rfl (kw rfl (kw rfl (kw rfl (kw rfl (kw rfl (s1 (pkt rfl rfl) (SO.nil ((wq rfl))))))))))
   ·have q := si h1; subst q
    exact gw rfl (far (k := 2) rfl Az Br rfl) (gw rfl (aS rfl (aj Br Rb rfl rfl)) (gw rfl (len rfl rfl rfl (aZ Ot)) (gw rfl (far (k := 2) rfl Pf Ra rfl) (gw rfl (aS rfl (aj Ra aa1 rfl rfl)) (gw rfl (len rfl rfl rfl (aZ aaO)) (gw rfl (bi rfl rfl bA) (s1 (dB rfl rfl) (SO.nil ((wq rfl))))))))))
 ·rintro adN h0
  refine cB h0 rfl (fun h0 => ?_) (fun h0 => ?_)
  ·have q := si h0; subst q
   exact sr (sa rfl (sn (SC.ret (aV (wc (e' := [(4, .d (eB false))]) [] [] (by kernel_rfl) rfl (by kernel_rfl)) (aI rfl aG) rfl))))
  ·refine sk (SC.seqB h0 (fun y => ⟨mk 116 [(2, .ref 0 0 0), (3, .ref 1 0 0)], [.box (.d (qy p0)), .box (.d (fC p1))]⟩) ?_ ?_)
   ·intro ak9 h1 h0
    obtain ⟨akt, h2, h1⟩ := ob h1
    refine sr (sa rfl (sn (SC.blk (SC.dH h2 (fun y => ⟨mk 116 [(2, .ref 0 0 0), (3, .ref 1 0 0), (5, .d (eI y))], [.box (.d (qy p0)), .box (.d (fC p1))]⟩) (wq rfl) ?_))))
    intro aoq
    rintro Iq ajo h3 hv3
    refine sq (sr (sm rfl (s1 (far (k := 0) rfl oh oz rfl) (s1 (aS rfl (aj oz EX rfl rfl)) (s1 (len rfl rfl rfl (aZ Bo)) (s1 (bi rfl rfl aQ) (sn (cB h3 rfl (fun h3 => ?_) (fun h3 => ?_)))))))))
    ·refine sk (sq (SC.blk (SC.bJ h3 (fun y => ⟨mk 116 [(2, .ref 0 0 0), (3, .ref 1 0 0), (5, .d (eI Iq)), (80, .d (eB y))], [.box (.d (qy p0)), .box (.d (fC p1))]⟩) ?_ ?_)))
     ·intro aj8 h4
      obtain ⟨TR, MU, h4⟩ := ob h4; obtain ⟨TQ, MS, h4⟩ := ob h4
      refine SC.draws (by kernel_rfl) (t1 ([], false) (far (k := 0) rfl oh oz rfl) rfl (t1 ([0], false) (aS rfl (aj oz EX rfl rfl)) rfl (t1 ([], false) (mv rfl) rfl (t1 ([], false) (j4 rfl rfl Bo Ou (ak MU).1 (aT (ak MU).2) rfl) rfl (t1 ([], false) (fap rfl acw bO rfl) rfl (t1 ([], false) (aS rfl (bK bO dW rfl)) rfl (t1 ([], false) (far (k := 0) rfl Dz ET rfl) rfl (t1 ([1], false) (aS rfl (aj ET Ui rfl rfl)) rfl (t1 ([], false) (mv rfl) rfl ?_)))))))))
      refine t1 ([], false) (j4 rfl rfl Q9 Ug (ak MS).1 (aT (ak MS).2) rfl) rfl (t1 ([], false) (fap rfl X6 bO rfl) rfl (t1 ([], false) (aS rfl (bK bO dW rfl)) rfl (t1 ([], false) (bi rfl rfl bA) rfl (t1 ([], false) (mv rfl) rfl (tp h4 (fun h4 => ?_) (fun h4 => ?_))))))
      ·have q := si h4; subst q
       refine jw rfl (jw rfl (jw rfl (jw rfl (jw rfl (jw rfl (jw rfl (jw rfl (jw rfl (jw rfl ?_)))))))))
       refine jw rfl (jw rfl (jw rfl (t1 ([], false) (pkt rfl rfl) rfl (t1 ([], false) (mv rfl) rfl (jw rfl (jw rfl (jw rfl (jw rfl (jw rfl ?_)))))))))
       refine jw rfl (jw rfl (jw rfl (jw rfl (jw rfl (jw rfl (jw rfl (jw rfl (t1 ([], false) (pkt rfl rfl) rfl (ST.nil (And.intro (by decide +kernel) ?_))))))))))
       exact (wq rfl)
      ·obtain ⟨TP, MQ, h4⟩ := ob h4; obtain ⟨TN, MP, h4⟩ := ob h4
       refine u1 ([], false) (ww rfl) (far (k := 0) rfl oh oz rfl) rfl (u1 ([0], false) (ww rfl) (aS rfl (aj oz EX rfl rfl)) rfl (u1 ([], false) (ww rfl) (mv rfl) rfl (u1 ([], false) (ww rfl) (j4 rfl rfl Bo Ou (ak MQ).1 (aT (ak MQ).2) rfl) rfl (u1 ([], false) (ww rfl) (fap rfl VF bO rfl) rfl (u1 ([], false) (ww rfl) (aS rfl (bK bO dW rfl)) rfl (u1 ([], false) (ww rfl) (far (k := 0) rfl Dz ET rfl) rfl (u1 ([1], false) (ww rfl) (aS rfl (aj ET Ui rfl rfl)) rfl (u1 ([], false) (ww rfl) (mv rfl) rfl (u1 ([], false) (ww rfl) (j4 rfl rfl Q9 Ug (ak MP).1 (aT (ak MP).2) rfl) rfl ?_)))))))))
       refine u1 ([], false) (ww rfl) (fap rfl X5 bO rfl) rfl (u1 ([], false) (ww rfl) (aS rfl (bK bO dW rfl)) rfl (u1 ([], false) (ww rfl) (bi rfl rfl bA) rfl (t1 ([], false) (dB rfl rfl) rfl (t1 ([], false) (mv rfl) rfl (tp h4 (fun h4 => ?_) (fun h4 => ?_))))))
       ·have q := si h4; subst q
        refine jw rfl (jw rfl (jw rfl (jw rfl (jw rfl (jw rfl (jw rfl (jw rfl (jw rfl (jw rfl ?_)))))))))
        refine jw rfl (jw rfl (jw rfl (t1 ([], false) (pkt rfl rfl) rfl (ST.nil (And.intro (by decide +kernel) ?_)))))
        exact (wq rfl)
       ·obtain ⟨LW, MO, h4⟩ := ob h4; obtain ⟨LV, MN, h4⟩ := ob h4; have q := si h4; subst q
        refine u1 ([], false) (ww rfl) (far (k := 0) rfl oh oz rfl) rfl (u1 ([0], false) (ww rfl) (aS rfl (aj oz EX rfl rfl)) rfl (u1 ([], false) (ww rfl) (mv rfl) rfl (u1 ([], false) (ww rfl) (j4 rfl rfl Bo Ou (ak MO).1 (aT (ak MO).2) rfl) rfl (u1 ([], false) (ww rfl) (fap rfl KQ xQ rfl) rfl (u1 ([], false) (ww rfl) (aS (v := .d (bX LW.zw)) rfl (bK xQ CS rfl)) rfl (u1 ([], false) (ww rfl) (far (k := 0) rfl Dz ET rfl) rfl (u1 ([1], false) (ww rfl) (aS rfl (aj ET Ui rfl rfl)) rfl (u1 ([], false) (ww rfl) (mv rfl) rfl (u1 ([], false) (ww rfl) (j4 rfl rfl Q9 Ug (ak MN).1 (aT (ak MN).2) rfl) rfl ?_)))))))))
        refine u1 ([], false) (ww rfl) (fap rfl X4 xQ rfl) rfl (u1 ([], false) (ww rfl) (aS (v := .d (bX LV.zw)) rfl (bK xQ CS rfl)) rfl (u1 ([], false) (ww rfl) (bi (v := .d (eB (!(sN LW.zw LV.zw)))) rfl rfl (fun X Y => Fu X Y LW.zw LV.zw)) rfl (t1 ([], false) (dB rfl rfl) rfl (ST.nil (And.intro (by decide +kernel) ?_)))))
        exact (wq rfl)
     ·rintro adG h3
      refine cB h3 rfl (fun h3 => ?_) (fun h3 => ?_)
      ·have q := si h3; subst q; have q : _ = _ := hv3; subst q; have q := si h1; subst q; have q := si h0; subst q
       exact sr (sa rfl (sn (SC.ret (aV (wc (e' := [(4, .d (eB false))]) [] [] (by kernel_rfl) rfl (by kernel_rfl)) (aI rfl aG) rfl))))
      ·refine SC.skip ?_
       change SC _ _ _ _ _
       have q := si h3; subst q
       exact SC.region (sm rfl (s1 (bi rfl rfl aR) (sa rfl (SO.nil (lf (wq rfl))))))
    ·have q := si h3; subst q; have q : _ = _ := hv3; subst q; have q := si h1; subst q
     exact SC.exit (lf (wq rfl))
   ·intro _ h0
    refine SC.seqB h0 (fun y => ⟨mk 116 [], []⟩) ?_ ?_
    ·intro ak4 h1 h0
     obtain ⟨akp, h2, h1⟩ := ob h1
     refine sr (sa rfl (sn (SC.blk (SC.dH h2 (fun y => ⟨mk 116 [(2, .ref 0 0 0), (3, .ref 1 0 0), (6, .d (eI y))], [.box (.d (qy p0)), .box (.d (fC p1))]⟩) (wq rfl) ?_))))
     intro aol
     rintro LA ajl h3 hv3
     refine sq (sr (sm rfl (s1 (far (k := 2) rfl Az Br rfl) (s1 (aS rfl (aj Br Rb rfl rfl)) (s1 (len rfl rfl rfl (aZ Ot)) (s1 (bi rfl rfl aQ) (sn (cB h3 rfl (fun h3 => ?_) (fun h3 => ?_)))))))))
     ·refine sk (sq (SC.blk (SC.bJ h3 (fun y => ⟨mk 116 [(2, .ref 0 0 0), (3, .ref 1 0 0), (6, .d (eI LA)), (115, .d (eB y))], [.box (.d (qy p0)), .box (.d (fC p1))]⟩) ?_ ?_)))
      ·intro aj5 h4
       obtain ⟨aeb, Zt, h4⟩ := ob h4; obtain ⟨aea, Zr, h4⟩ := ob h4
       refine SC.draws (by kernel_rfl) (t1 ([], false) (far (k := 2) rfl Az Br rfl) rfl (t1 ([0], false) (aS rfl (aj Br Rb rfl rfl)) rfl (t1 ([], false) (mv rfl) rfl (t1 ([], false) (j4 rfl rfl Ot YT (ak Zt).1 (aT (ak Zt).2) rfl) rfl (t1 ([], false) (fap rfl X3 bO rfl) rfl (t1 ([], false) (aS rfl (bK bO dW rfl)) rfl (t1 ([], false) (far (k := 2) rfl Pf Ra rfl) rfl (t1 ([1], false) (aS rfl (aj Ra aa1 rfl rfl)) rfl (t1 ([], false) (mv rfl) rfl ?_)))))))))
       refine t1 ([], false) (j4 rfl rfl aaO YS (ak Zr).1 (aT (ak Zr).2) rfl) rfl (t1 ([], false) (fap rfl XZ bO rfl) rfl (t1 ([], false) (aS rfl (bK bO dW rfl)) rfl (t1 ([], false) (bi rfl rfl bA) rfl (t1 ([], false) (mv rfl) rfl (tp h4 (fun h4 => ?_) (fun h4 => ?_))))))
       ·have q := si h4; subst q
        refine jw rfl (jw rfl (jw rfl (jw rfl (jw rfl (jw rfl (jw rfl (jw rfl (jw rfl (jw rfl ?_)))))))))
        refine jw rfl (jw rfl (jw rfl (t1 ([], false) (pkt rfl rfl) rfl (ST.nil (And.intro (by decide +kernel) ?_)))))
        exact (wq rfl)
       ·obtain ⟨TM, Zq, h4⟩ := ob h4; obtain ⟨TL, Zp, h4⟩ := ob h4; have q := si h4; subst q
        refine u1 ([], false) (ww rfl) (far (k := 2) rfl Az Br rfl) rfl (u1 ([0], false) (ww rfl) (aS rfl (aj Br Rb rfl rfl)) rfl (u1 ([], false) (ww rfl) (mv rfl) rfl (u1 ([], false) (ww rfl) (j4 rfl rfl Ot YT (ak Zq).1 (aT (ak Zq).2) rfl) rfl (u1 ([], false) (ww rfl) (fap rfl X0 Ah rfl) rfl (u1 ([], false) (ww rfl) (aS (v := .d (eZ TM.Span)) rfl (bK Ah J2 rfl)) rfl (u1 ([], false) (ww rfl) (far (k := 2) rfl Pf Ra rfl) rfl (u1 ([1], false) (ww rfl) (aS rfl (aj Ra aa1 rfl rfl)) rfl (u1 ([], false) (ww rfl) (mv rfl) rfl (u1 ([], false) (ww rfl) (j4 rfl rfl aaO YS (ak Zp).1 (aT (ak Zp).2) rfl) rfl ?_)))))))))
        refine u1 ([], false) (ww rfl) (fap rfl XY Ah rfl) rfl (u1 ([], false) (ww rfl) (aS (v := .d (eZ TL.Span)) rfl (bK Ah J2 rfl)) rfl (u1 ([], false) (ww rfl) (bi (v := .d (eB (!(lS TM.Span TL.Span)))) rfl rfl (fun X Y => DF X Y TM.Span TL.Span)) rfl (t1 ([], false) (dB rfl rfl) rfl (ST.nil (And.intro (by decide +kernel) ?_)))))
        exact (wq rfl)
      ·rintro adA h3
       refine cB h3 rfl (fun h3 => ?_) (fun h3 => ?_)
       ·have q := si h3; subst q; have q : _ = _ := hv3; subst q; have q := si h1; subst q; have q := si h0; subst q
        exact sr (sa rfl (sn (SC.ret (aV (wc (e' := [(4, .d (eB false))]) [] [] (by kernel_rfl) rfl (by kernel_rfl)) (aI rfl aG) rfl))))
       ·refine SC.skip ?_
        change SC _ _ _ _ _
        have q := si h3; subst q
        exact SC.region (sm rfl (s1 (bi rfl rfl aR) (sa rfl (SO.nil (lf (wq rfl))))))
     ·have q := si h3; subst q; have q : _ = _ := hv3; subst q; have q := si h1; subst q
      exact SC.exit (lf (wc [] [] (by kernel_rfl) rfl (by kernel_rfl)))
    ·intro _ h0
     have q := si h0; subst q
     exact sr (sa rfl (sn (SC.ret (aV (Wk.refl _) (aI rfl aG) rfl))))
noncomputable def eP (p0 : aB) (p1 : bL) : Option aB :=
 eH (Y := Unit) (E := aB)
 (bif (p1.Kind == (1 : Int)) then
 some (Sum.inr (aB.mk true p1.Val))
 else
 bif (p1.Kind == (2 : Int)) then
 some (Sum.inr (aB.mk false ([] : List UInt8)))
 else
 bif (p1.Kind == (3 : Int)) then
 Option.bind (α := Bool)
 (bif (!p0.has) then
 some true
 else
 bif (decide (p1.Off < (0 : Int))) then
 some true
 else
 some (decide (p1.Off > (bD ((p0.s.length : Int) - (8 : Int))))))
 fun adS =>
 bif adS then
 some (Sum.inr p0)
 else
 Option.bind (α := (List UInt8))
 (Option.bind (α := (List UInt8))
 (loop (Y := (List UInt8) × Int × Int) (W := (List UInt8)) (fun (Tq, LD, xV) =>
 bif (decide (xV ≥ (0 : Int))) then
 Option.bind (bF Tq (bD (p1.Off + xV))) fun JR =>
 bif decide (0 ≤ (bD ((56 : Int) - (bD ((8 : Int) * xV))))) then
 Option.bind (bF Tq (bD (p1.Off + xV))) fun ajL =>
 some (Sum.inl ((List.set Tq ((bD (p1.Off + xV)).toNat) (Ei (bD ((bD ((JR.toNat : Int) + (((bZ p1.Num ((bD ((56 : Int) - (bD ((8 : Int) * xV)))).toNat)).toUInt8).toNat : Int))) + LD)))), (bD (Int.tdiv (bD ((bD ((JR.toNat : Int) + (((bZ p1.Num ((bD ((56 : Int) - (bD ((8 : Int) * xV)))).toNat)).toUInt8).toNat : Int))) + LD)) (256 : Int))), (bD (xV - (1 : Int)))))
 else none
 else
 some (Sum.inr Tq)) (p0.s, (0 : Int), (7 : Int)))
 (fun e => some e))
 fun QW =>
 some (Sum.inr (aB.mk true QW))
 else
 bif (p1.Kind == (4 : Int)) then
 Option.bind (α := Bool)
 (bif (!p0.has) then
 some true
 else
 bif (p0.s == ([] : List UInt8)) then
 some true
 else
 bif (decide (p1.Off < (0 : Int))) then
 some true
 else
 bif (decide (p1.Off > (255 : Int))) then
 some true
 else
 Option.bind (bF p0.s (0 : Int)) fun Oi =>
 bif ((Oi.toNat : Int) != p1.Off) then
 some true
 else
 some (decide ((bD ((p0.s.length : Int) + (p1.Val.length : Int))) > (512 : Int))))
 fun adR =>
 bif adR then
 some (Sum.inr p0)
 else
 bif decide (0 ≤ (1 : Int) ∧ (1 : Int) ≤ (p0.s.length : Int)) then
 bif decide ([(Ei (bD (p1.Off + (1 : Int))))].length + (List.drop (1 : Int).toNat p0.s).length ≤ 9223372036854775807) then
 bif decide (([(Ei (bD (p1.Off + (1 : Int))))] ++ (List.drop (1 : Int).toNat p0.s)).length + p1.Val.length ≤ 9223372036854775807) then
 some (Sum.inr (aB.mk true (([(Ei (bD (p1.Off + (1 : Int))))] ++ (List.drop (1 : Int).toNat p0.s)) ++ p1.Val)))
 else none
 else none
 else none
 else
 some (Sum.inl ()))
 (fun _ =>
 some p0)
 (fun e => some e)
theorem lC (p0 : aB) (p1 : bL) (r : aB) (h0 : eP p0 p1 = some r) : aL Tryz.prog 85 [.d (aH p0), .d (bX p1)] [] (.d (aH r)) [.box (.d (aH r))] := by
 unfold eP at h0
 refine fn0 [0, 1] Tryz.func85 rfl rfl rfl rfl rfl ?_
 refine sr (s1 (nH (k := 0) rfl rfl rfl) (s1 (nH (k := 1) rfl rfl rfl) (s1 (qV (k := 2) Te rfl) (sn (SC.seqB h0 (fun y => ⟨mk 133 [(2, .ref 0 0 0), (4, .ref 1 0 0)], [.box (.d (aH p0)), .box (.d (aH (aB.mk false ([] : List UInt8))))]⟩) ?_ ?_)))))
 ·intro aaW h1 h0
  refine sr (s1 (far (k := 1) rfl Ay bO rfl) (s1 (aS rfl (aj bO dW rfl rfl)) (sn (SC.blk (sr (s1 (bi rfl rfl aP) (sa rfl (sn (cB h1 rfl (fun h1 => ?_) (fun h1 => ?_))))))))))
  ·have q := si h1; subst q; have q := si h0; subst q
   exact sr (s1 (far (k := 4) rfl Pb eT rfl) (s1 (aS rfl (aj eT jy rfl rfl)) (s1 (l8 rfl (vZ true p1.Val)) (s0 (fJ rfl rfl (sB (d' := .d (aH (aB.mk true p1.Val))) iG rfl rfl rfl rfl rfl rfl rfl)) (sn (SC.ret (aV (wc (e' := [(4, .ref 0 0 0)]) [2] [2] (by kernel_rfl) rfl (by kernel_rfl)) (gD rfl (aj iG qR rfl rfl) aG) rfl)))))))
  ·refine sr (s1 (bi rfl rfl aP) (sa rfl (sn (cB h1 rfl (fun h1 => ?_) (fun h1 => ?_)))))
   ·have q := si h1; subst q; have q := si h0; subst q
    exact sr (s1 (l8 rfl (acY )) (s0 (fJ rfl rfl (sB (d' := .d (aH (aB.mk false ([] : List UInt8)))) iG rfl rfl rfl rfl rfl rfl rfl)) (sn (SC.ret (aV (wc (e' := [(4, .ref 0 0 0)]) [2] [2] (by kernel_rfl) rfl (by kernel_rfl)) (gD rfl (aj iG qR rfl rfl) aG) rfl)))))
   ·refine sr (s1 (bi rfl rfl aP) (sa rfl (sn (cB h1 rfl (fun h1 => ?_) (fun h1 => ?_)))))
    ·refine sq (SC.bJ h1 (fun y => ⟨mk 133 [(2, .ref 0 0 0), (3, .ref 1 0 0), (4, .ref 2 0 0), (37, .d (eB y))], [.box (.d (aH p0)), .box (.d (bX p1)), .box (.d (aH (aB.mk false ([] : List UInt8))))]⟩) ?_ ?_)
     ·intro akB h2
      refine SC.region (s1 (far (k := 0) rfl Ce jV rfl) (s1 (aS rfl (aj jV zD rfl rfl)) (s1 (nt rfl) (sm rfl (sp h2 (fun h2 => ?_) (fun h2 => ?_))))))
      ·have q := si h2; subst q
       refine kw rfl (kw rfl (kw rfl (s1 (pkt rfl rfl) (sm rfl (kw rfl (kw rfl (kw rfl (kw rfl (kw rfl ?_)))))))))
       exact kw rfl (kw rfl (s1 (pkt rfl rfl) (SO.nil ((wq rfl)))))
      ·refine gw rfl (far (k := 5) rfl wO bO rfl) (gw rfl (aS rfl (aj bO dW rfl rfl)) (gw rfl (bi rfl rfl aQ) (s1 (dB rfl rfl) (sm rfl (sp h2 (fun h2 => ?_) (fun h2 => ?_))))))
       ·have q := si h2; subst q
        exact kw rfl (kw rfl (kw rfl (kw rfl (kw rfl (kw rfl (kw rfl (s1 (pkt rfl rfl) (SO.nil ((wq rfl))))))))))
       ·have q := si h2; subst q
        exact gw rfl (far (k := 5) rfl wO bO rfl) (gw rfl (aS rfl (aj bO dW rfl rfl)) (gw rfl (far (k := 1) rfl uq eT rfl) (gw rfl (aS rfl (aj eT jy rfl rfl)) (gw rfl (len rfl rfl rfl (fK l9)) (gw rfl (bi rfl rfl fD) (gw rfl (bi rfl rfl bP) (s1 (dB rfl rfl) (SO.nil ((wq rfl))))))))))
     ·rintro adS h1
      refine cB h1 rfl (fun h1 => ?_) (fun h1 => ?_)
      ·have q := si h1; subst q; have q := si h0; subst q
       exact sr (s1 (aS (v := .d (aH p0)) rfl (aj iG qR rfl rfl)) (s0 (fJ rfl rfl (sB (d' := .d (aH p0)) iG rfl rfl rfl rfl rfl rfl rfl)) (sn (SC.ret (aV (wc (e' := [(4, .ref 0 0 0)]) [2] [2] (by kernel_rfl) rfl (by kernel_rfl)) (gD rfl (aj iG qR rfl rfl) aG) rfl)))))
      ·refine sk (sr (s1 (far (k := 1) rfl uq eT rfl) (s1 (aS rfl (aj eT jy rfl rfl)) (s1 (cvs (s := p0.s) (k := 3) rfl l9 bW uX qQ rfl) (sa rfl (sn (sr (sa rfl (sn ?_)))))))))
       refine SC.bJ h1 (fun y => ⟨mk 133 [(4, .ref 0 0 0), (5, .slc 1 1 0 y.length none)], [.box (.d (aH (aB.mk false ([] : List UInt8)))), .row 1 (List.map bR y) true]⟩) ?_ ?_
       ·intro akz h2
        obtain ⟨aki, h3, h2⟩ := ob h2
        refine sr (sa rfl (sn (SC.blk (SC.dH h3 (fun y => ⟨mk 133 [(3, .ref 0 0 0), (4, .ref 1 0 0), (5, .slc 2 1 0 y.1.length none), (6, .d (eI y.2.1)), (7, .d (eI y.2.2))], [.box (.d (bX p1)), .box (.d (aH (aB.mk false ([] : List UInt8)))), .row 1 (List.map bR y.1) true]⟩) (wc [1, 2, 3] [1, 2, 3] (by kernel_rfl) rfl (by kernel_rfl)) ?_))))
        intro n279
        rintro ⟨Tq, LD, xV⟩ ajg h4 hv4
        refine sq (sr (sm rfl (s1 (bi rfl rfl dU) (sn (cB h4 rfl (fun h4 => ?_) (fun h4 => ?_))))))
        ·obtain ⟨JR, ZG, h4⟩ := ob h4; obtain ⟨ahb, h4⟩ := gd h4; obtain ⟨ajL, ZF, h4⟩ := ob h4
         refine sk (sq (SC.blk (sd (by kernel_rfl) (t1 ([], false) (mv rfl) rfl (t1 ([], false) (far (k := 5) rfl wO bO rfl) rfl (t1 ([0], false) (aS rfl (aj bO dW rfl rfl)) rfl (t1 ([], false) (mv rfl) rfl (t1 ([], false) (bi rfl rfl aR) rfl (t1 ([], false) (CB rfl rfl bW qQ (fT ZG)) rfl ?_)))))))))
         refine t1 ([2], false) (aS rfl (gH qQ Ov rfl (aT (ak ZG).2) rfl)) rfl (t1 ([], false) (tF rfl (jv uX Im JR)) rfl (t1 ([], false) (far (k := 6) rfl acy fU rfl) rfl (t1 ([0], false) (aS rfl (aj fU lY rfl rfl)) rfl (t1 ([], false) (mv rfl) rfl (t1 ([], false) (bi rfl rfl rD) rfl (t1 ([], false) (bi rfl rfl fD) rfl (t1 ([], false) (bi (v := .d (eU64 (bZ p1.Num ((bD ((56 : Int) - (bD ((8 : Int) * xV)))).toNat)))) rfl rfl (fun X Y => zq _ X Y p1.Num _ ahb)) rfl (t1 ([], false) (tF rfl (o9 uD uX (bZ p1.Num ((bD ((56 : Int) - (bD ((8 : Int) * xV)))).toNat)))) rfl (t1 ([], false) (tF rfl (jv uX Im ((bZ p1.Num ((bD ((56 : Int) - (bD ((8 : Int) * xV)))).toNat)).toUInt8))) rfl ?_)))))))))
         refine t1 ([], false) (bi rfl rfl aR) rfl (t1 ([], false) (mv rfl) rfl (t1 ([], false) (bi rfl rfl aR) rfl (t1 ([], false) (ig rfl) rfl (tn (by decide +kernel) (sr (sm rfl (s1 (far (k := 5) rfl wO bO rfl) (s1 (aS rfl (aj bO dW rfl rfl)) (sm rfl ?_)))))))))
         refine s1 (bi rfl rfl aR) (sm rfl (s1 (tF rfl (DU Im uX (bD ((bD ((JR.toNat : Int) + (((bZ p1.Num ((bD ((56 : Int) - (bD ((8 : Int) * xV)))).toNat)).toUInt8).toNat : Int))) + LD)))) (s1 (CB rfl rfl bW qQ (fT ZF)) (s0 (fJ (b := .d (bR (Ei (bD ((bD ((JR.toNat : Int) + (((bZ p1.Num ((bD ((56 : Int) - (bD ((8 : Int) * xV)))).toNat)).toUInt8).toNat : Int))) + LD))))) rfl rfl (sR (f := bR) (v := (Ei (bD ((bD ((JR.toNat : Int) + (((bZ p1.Num ((bD ((56 : Int) - (bD ((8 : Int) * xV)))).toNat)).toUInt8).toNat : Int))) + LD)))) qQ rfl rfl rfl rfl (ak ZF).2 rfl rfl)) (sn (SC.region (sm rfl (s1 (bi (v := .d (eI (bD (Int.tdiv (bD ((bD ((JR.toNat : Int) + (((bZ p1.Num ((bD ((56 : Int) - (bD ((8 : Int) * xV)))).toNat)).toUInt8).toNat : Int))) + LD)) (256 : Int))))) rfl rfl (fun X Y => Sc _ X Y (bD ((bD ((JR.toNat : Int) + (((bZ p1.Num ((bD ((56 : Int) - (bD ((8 : Int) * xV)))).toNat)).toUInt8).toNat : Int))) + LD)) (256 : Int) (by decide))) (sa rfl ?_)))))))))
         refine SO.nil ?_
         change SC _ _ _ _ _
         have q := si h4; subst q
         exact SC.region (sm rfl (s1 (bi rfl rfl fD) (sa rfl (SO.nil (lf (Wk.env (EW.cons (AW.refl _) (EW.cons (AW.refl _) (EW.cons (AW.slc rfl (by simp)) (EW.cons (AW.refl _) (EW.cons (AW.refl _) EW.nil)))))))))))
        ·have q := si h4; subst q; have q : _ = _ := hv4; subst q; have q := si h2; subst q
         exact SC.exit ((wc [1, 2] [1, 2] (by kernel_rfl) rfl (by kernel_rfl)))
       ·rintro QW h1
        have q := si h1; subst q; have q := si h0; subst q
        exact sr (sm rfl (s1 (tF (v := .d (eS QW)) rfl (iy bW l9 uX (dx (xs := QW) rfl) (fun _ hh => by cases hh))) (s1 (l8 rfl (vZ true QW)) (s0 (fJ rfl rfl (sB (d' := .d (aH (aB.mk true QW))) iG rfl rfl rfl rfl rfl rfl rfl)) (sn (SC.ret (aV (wc (e' := [(4, .ref 0 0 0)]) [0] [0] (by kernel_rfl) rfl (by kernel_rfl)) (gD rfl (aj iG qR rfl rfl) aG) rfl)))))))
    ·refine sr (s1 (bi rfl rfl aP) (sa rfl (sn (cB h1 rfl (fun h1 => ?_) (fun h1 => ?_)))))
     ·refine sq (SC.bJ h1 (fun y => ⟨mk 133 [(2, .ref 0 0 0), (3, .ref 1 0 0), (4, .ref 2 0 0), (116, .d (eB y))], [.box (.d (aH p0)), .box (.d (bX p1)), .box (.d (aH (aB.mk false ([] : List UInt8))))]⟩) ?_ ?_)
      ·intro akx h2
       refine SC.draws (by kernel_rfl) (t1 ([], false) (far (k := 0) rfl Ce jV rfl) rfl (t1 ([0], false) (aS rfl (aj jV zD rfl rfl)) rfl (t1 ([], false) (nt rfl) rfl (t1 ([], false) (mv rfl) rfl (tp h2 (fun h2 => ?_) (fun h2 => ?_))))))
       ·have q := si h2; subst q
        refine jw rfl (jw rfl (jw rfl (t1 ([], false) (pkt rfl rfl) rfl (t1 ([], false) (mv rfl) rfl (jw rfl (jw rfl (jw rfl (t1 ([], false) (pkt rfl rfl) rfl (t1 ([], false) (mv rfl) rfl ?_)))))))))
        refine jw rfl (jw rfl (jw rfl (t1 ([], false) (pkt rfl rfl) rfl (t1 ([], false) (mv rfl) rfl (jw rfl (jw rfl (jw rfl (jw rfl (jw rfl ?_)))))))))
        refine jw rfl (jw rfl (t1 ([], false) (pkt rfl rfl) rfl (t1 ([], false) (mv rfl) rfl (jw rfl (jw rfl (jw rfl (jw rfl (jw rfl (jw rfl ?_)))))))))
        refine jw rfl (jw rfl (t1 ([], false) (pkt rfl rfl) rfl (ST.nil (And.intro (by decide +kernel) ?_))))
        exact (wq rfl)
       ·refine u1 ([], false) (ww rfl) (far (k := 1) rfl uq eT rfl) rfl (u1 ([0], false) (ww rfl) (aS rfl (aj eT jy rfl rfl)) rfl (u1 ([], false) (ww rfl) (bi rfl rfl (iC (b := ([] : List UInt8)))) rfl (t1 ([], false) (dB rfl rfl) rfl (t1 ([], false) (mv rfl) rfl (tp h2 (fun h2 => ?_) (fun h2 => ?_))))))
        ·have q := si h2; subst q
         refine jw rfl (jw rfl (jw rfl (t1 ([], false) (pkt rfl rfl) rfl (t1 ([], false) (mv rfl) rfl (jw rfl (jw rfl (jw rfl (t1 ([], false) (pkt rfl rfl) rfl (t1 ([], false) (mv rfl) rfl ?_)))))))))
         refine jw rfl (jw rfl (jw rfl (jw rfl (jw rfl (jw rfl (jw rfl (t1 ([], false) (pkt rfl rfl) rfl (t1 ([], false) (mv rfl) rfl (jw rfl ?_)))))))))
         refine jw rfl (jw rfl (jw rfl (jw rfl (jw rfl (jw rfl (jw rfl (t1 ([], false) (pkt rfl rfl) rfl (ST.nil (And.intro (by decide +kernel) ?_)))))))))
         exact (wq rfl)
        ·refine u1 ([], false) (ww rfl) (far (k := 5) rfl wO bO rfl) rfl (u1 ([1], false) (ww rfl) (aS rfl (aj bO dW rfl rfl)) rfl (u1 ([], false) (ww rfl) (bi rfl rfl aQ) rfl (t1 ([], false) (dB rfl rfl) rfl (t1 ([], false) (mv rfl) rfl (tp h2 (fun h2 => ?_) (fun h2 => ?_))))))
         ·have q := si h2; subst q
          refine jw rfl (jw rfl (jw rfl (t1 ([], false) (pkt rfl rfl) rfl (t1 ([], false) (mv rfl) rfl (jw rfl (jw rfl (jw rfl (jw rfl (jw rfl ?_)))))))))
          refine jw rfl (jw rfl (t1 ([], false) (pkt rfl rfl) rfl (t1 ([], false) (mv rfl) rfl (jw rfl (jw rfl (jw rfl (jw rfl (jw rfl (jw rfl ?_)))))))))
          refine jw rfl (jw rfl (t1 ([], false) (pkt rfl rfl) rfl (ST.nil (And.intro (by decide +kernel) ?_))))
          exact (wq rfl)
         ·refine u1 ([], false) (ww rfl) (far (k := 5) rfl wO bO rfl) rfl (u1 ([1], false) (ww rfl) (aS rfl (aj bO dW rfl rfl)) rfl (u1 ([], false) (ww rfl) (bi rfl rfl bP) rfl (t1 ([], false) (dB rfl rfl) rfl (t1 ([], false) (mv rfl) rfl (tp h2 (fun h2 => ?_) (fun h2 => ?_))))))
          ·have q := si h2; subst q
           refine jw rfl (jw rfl (jw rfl (jw rfl (jw rfl (jw rfl (jw rfl (t1 ([], false) (pkt rfl rfl) rfl (t1 ([], false) (mv rfl) rfl (jw rfl ?_)))))))))
           refine jw rfl (jw rfl (jw rfl (jw rfl (jw rfl (jw rfl (jw rfl (t1 ([], false) (pkt rfl rfl) rfl (ST.nil (And.intro (by decide +kernel) ?_)))))))))
           exact (wq rfl)
          ·obtain ⟨Oi, MW, h2⟩ := ob h2
           refine u1 ([], false) (ww rfl) (far (k := 1) rfl uq eT rfl) rfl (u1 ([0], false) (ww rfl) (aS rfl (aj eT jy rfl rfl)) rfl (u1 ([], false) (ww rfl) (ixs rfl rfl rfl rfl (j6 l9 (ak MW).1 (ak MW).2)) rfl (u1 ([], false) (ww rfl) (tF rfl (jv uX Im Oi)) rfl (u1 ([], false) (ww rfl) (far (k := 5) rfl wO bO rfl) rfl (u1 ([1], false) (ww rfl) (aS rfl (aj bO dW rfl rfl)) rfl (u1 ([], false) (ww rfl) (bi rfl rfl bA) rfl (t1 ([], false) (dB rfl rfl) rfl (t1 ([], false) (mv rfl) rfl (tp h2 (fun h2 => ?_) (fun h2 => ?_))))))))))
           ·have q := si h2; subst q
            refine jw rfl (jw rfl (jw rfl (jw rfl (jw rfl (jw rfl (jw rfl (jw rfl (t1 ([], false) (pkt rfl rfl) rfl (ST.nil (And.intro (by decide +kernel) ?_))))))))))
            exact (wq rfl)
           ·have q := si h2; subst q
            refine u1 ([], false) (ww rfl) (far (k := 1) rfl uq eT rfl) rfl (u1 ([0], false) (ww rfl) (aS rfl (aj eT jy rfl rfl)) rfl (u1 ([], false) (ww rfl) (len rfl rfl rfl (fK l9)) rfl (u1 ([], false) (ww rfl) (far (k := 4) rfl Pb eT rfl) rfl (u1 ([1], false) (ww rfl) (aS rfl (aj eT jy rfl rfl)) rfl (u1 ([], false) (ww rfl) (len rfl rfl rfl (fK l9)) rfl (u1 ([], false) (ww rfl) (bi rfl rfl aR) rfl (u1 ([], false) (ww rfl) (bi rfl rfl bP) rfl (t1 ([], false) (dB rfl rfl) rfl (ST.nil (And.intro (by decide +kernel) ?_))))))))))
            exact (wq rfl)
      ·rintro adR h1
       refine cB h1 rfl (fun h1 => ?_) (fun h1 => ?_)
       ·have q := si h1; subst q; have q := si h0; subst q
        exact sr (s1 (aS (v := .d (aH p0)) rfl (aj iG qR rfl rfl)) (s0 (fJ rfl rfl (sB (d' := .d (aH p0)) iG rfl rfl rfl rfl rfl rfl rfl)) (sn (SC.ret (aV (wc (e' := [(4, .ref 0 0 0)]) [2] [2] (by kernel_rfl) rfl (by kernel_rfl)) (gD rfl (aj iG qR rfl rfl) aG) rfl)))))
       ·obtain ⟨ag9, h1⟩ := gd h1; obtain ⟨ag8, h1⟩ := gd h1; obtain ⟨ag7, h1⟩ := gd h1; have q := si h1; subst q; have q := si h0; subst q
        refine sk (sd (by kernel_rfl) (t1 ([], false) (far (k := 5) rfl wO bO rfl) rfl (t1 ([1], false) (aS rfl (aj bO dW rfl rfl)) rfl (t1 ([], false) (bi rfl rfl aR) rfl (t1 ([], false) (tF rfl (DU Im uX (bD (p1.Off + (1 : Int))))) rfl (t1 ([3], true) (tH (k := 3) (ds := List.map bR [(Ei (bD (p1.Off + (1 : Int))))]) (off := 0) (l' := [(Ei (bD (p1.Off + (1 : Int))))].length) rfl bW DT rfl rfl (by rfl) rfl rfl rfl) rfl (t1 ([3], false) (tF (v := .d (eS [(Ei (bD (p1.Off + (1 : Int))))])) rfl (iy bW l9 uX (dx (xs := [(Ei (bD (p1.Off + (1 : Int))))]) rfl) (fun _ hh => by cases hh))) rfl (t1 ([], false) (far (k := 1) rfl uq eT rfl) rfl (t1 ([0], false) (aS rfl (aj eT jy rfl rfl)) rfl ?_)))))))))
        exact t1 ([], false) (SV rfl rfl rfl rfl (Rf l9 ag9)) rfl (t1 ([], false) (bi (v := .d (eS ([(Ei (bD (p1.Off + (1 : Int))))] ++ (List.drop (1 : Int).toNat p0.s)))) rfl rfl (fun X Y => wh _ X Y [(Ei (bD (p1.Off + (1 : Int))))] (List.drop (1 : Int).toNat p0.s) ag8)) rfl (t1 ([], false) (far (k := 4) rfl Pb eT rfl) rfl (t1 ([1], false) (aS rfl (aj eT jy rfl rfl)) rfl (t1 ([], false) (bi (v := .d (eS (([(Ei (bD (p1.Off + (1 : Int))))] ++ (List.drop (1 : Int).toNat p0.s)) ++ p1.Val))) rfl rfl (fun X Y => wh _ X Y ([(Ei (bD (p1.Off + (1 : Int))))] ++ (List.drop (1 : Int).toNat p0.s)) p1.Val ag7)) rfl (t1 ([], false) (l8 rfl (vZ true (([(Ei (bD (p1.Off + (1 : Int))))] ++ (List.drop (1 : Int).toNat p0.s)) ++ p1.Val))) rfl (t0 ([2], true) (fJ rfl rfl (sB (d' := .d (aH (aB.mk true (([(Ei (bD (p1.Off + (1 : Int))))] ++ (List.drop (1 : Int).toNat p0.s)) ++ p1.Val)))) iG rfl rfl rfl rfl rfl rfl rfl)) rfl (tn (by decide +kernel) (SC.ret (aV (wc (e' := [(4, .ref 0 0 0)]) [2] [2] (by kernel_rfl) rfl (by kernel_rfl)) (gD rfl (aj iG qR rfl rfl) aG) rfl)))))))))
     ·have q := si h1; subst q
      exact SC.skip (lf (wc [0, 2] [0, 2] (by kernel_rfl) rfl (by kernel_rfl)))
 ·intro _ h0
  have q := si h0; subst q
  exact sr (s1 (aS (v := .d (aH p0)) rfl (aj iG qR rfl rfl)) (s0 (fJ rfl rfl (sB (d' := .d (aH p0)) iG rfl rfl rfl rfl rfl rfl rfl)) (sn (SC.ret (aV (wc (e' := [(4, .ref 0 0 0)]) [1] [1] (by kernel_rfl) rfl (by kernel_rfl)) (gD rfl (aj iG qR rfl rfl) aG) rfl)))))
noncomputable def jC (p0 : aW) (p1 : bL) : Option aW :=
 Option.bind (α := UInt64 × aB × aB)
 (Option.bind (α := Bool)
 (bif (p1.Kind == (1 : Int)) then
 some (p1.Kind == (1 : Int))
 else
 bif (p1.Kind == (2 : Int)) then
 some (p1.Kind == (2 : Int))
 else
 some (p1.Kind == (3 : Int)))
 fun adY =>
 bif adY then
 bif (p1.A9 == (0 : UInt64)) then
 Option.bind (eP (aB.mk p0.Has p0.Val) p1) fun abn =>
 some (p0.A9, abn, (aB.mk p0.New p0.jg))
 else
 Option.bind (α := Bool)
 (bif (p1.Kind != (3 : Int)) then
 some true
 else
 some (decide (p1.Off ≥ (0 : Int))))
 fun adX =>
 bif adX then
 Option.bind (α := UInt64 × aB)
 (bif (p0.A9 == (0 : UInt64)) then
 some (p1.A9, (aB.mk p0.Has p0.Val))
 else
 some (p0.A9, (aB.mk p0.New p0.jg)))
 fun (WT, Ad) =>
 bif (WT == p1.A9) then
 Option.bind (eP Ad p1) fun abl =>
 some (WT, (aB.mk p0.Has p0.Val), abl)
 else
 some (WT, (aB.mk p0.Has p0.Val), Ad)
 else
 some (p0.A9, (aB.mk p0.Has p0.Val), (aB.mk p0.New p0.jg))
 else
 bif (p1.Kind == (4 : Int)) then
 Option.bind (eP (aB.mk p0.Has p0.Val) p1) fun UD =>
 Option.bind (eP (aB.mk p0.New p0.jg) p1) fun abj =>
 some (p0.A9, UD, abj)
 else
 Option.bind (α := Bool)
 (bif (p1.Kind == (5 : Int)) then
 some (p1.Kind == (5 : Int))
 else
 some (p1.Kind == (6 : Int)))
 fun y150 =>
 bif y150 then
 Option.bind (α := Bool)
 (bif (p0.A9 == p1.A9) then
 some (p0.A9 != (0 : UInt64))
 else
 some false)
 fun y152 =>
 bif y152 then
 Option.bind (α := aB)
 (bif (p1.Kind == (5 : Int)) then
 some (aB.mk p0.New p0.jg)
 else
 some (aB.mk p0.Has p0.Val))
 fun Ac =>
 some ((0 : UInt64), Ac, (aB.mk p0.New p0.jg))
 else
 some (p0.A9, (aB.mk p0.Has p0.Val), (aB.mk p0.New p0.jg))
 else
 some (p0.A9, (aB.mk p0.Has p0.Val), (aB.mk p0.New p0.jg)))
 fun (Bf, JL, QY) =>
 Option.bind (α := aW)
 (bif JL.has then
 some (aW.mk p0.Key JL.has JL.s Bf false ([] : List UInt8))
 else
 some (aW.mk p0.Key JL.has ([] : List UInt8) Bf false ([] : List UInt8)))
 fun qW =>
 Option.bind (α := aW)
 (Option.bind (α := Bool)
 (bif (Bf != (0 : UInt64)) then
 some QY.has
 else
 some false)
 fun FN =>
 bif FN then
 some (aW.mk qW.Key qW.Has qW.Val qW.A9 true QY.s)
 else
 some qW)
 fun y160 =>
 some y160
theorem rR (p0 : aW) (p1 : bL) (r : aW) (h0 : jC p0 p1 = some r) : aL Tryz.prog 55 [.d (aO p0), .d (bX p1)] [] (.d (aO r)) [.box (.d (aO r))] := by
 unfold jC at h0
 refine fn0 [0, 1] Tryz.func55 rfl rfl rfl rfl rfl ?_
 refine sr (s1 (nH (k := 0) rfl rfl rfl) (s1 (nH (k := 1) rfl rfl rfl) (s1 (qV (k := 2) QI rfl) (sn (sr (s1 (far (k := 1) rfl VE jV rfl) (s1 (aS rfl (aj jV zD rfl rfl)) (s1 (far (k := 2) rfl O9 eT rfl) (s1 (aS rfl (aj eT jy rfl rfl)) ?_)))))))))
 refine s1 (l8 rfl (vZ p0.Has p0.Val)) (s1 (qV (k := 3) Te rfl) (s0 (fJ rfl rfl (sB (d' := .d (aH (aB.mk p0.Has p0.Val))) iG rfl rfl rfl rfl rfl rfl rfl)) (sn (sr (s1 (far (k := 4) rfl VB jV rfl) (s1 (aS rfl (aj jV zD rfl rfl)) (s1 (far (k := 5) rfl VA eT rfl) (s1 (aS rfl (aj eT jy rfl rfl)) (s1 (l8 rfl (vZ p0.New p0.jg)) ?_)))))))))
 refine s1 (qV (k := 4) Te rfl) (s0 (fJ rfl rfl (sB (d' := .d (aH (aB.mk p0.New p0.jg))) iG rfl rfl rfl rfl rfl rfl rfl)) (sn (sr (s1 (far (k := 3) rfl VD fU rfl) (s1 (aS rfl (aj fU lY rfl rfl)) (sa rfl (sn (SC.bJ h0 (fun y => ⟨mk 98 [(2, .ref 0 0 0), (4, .ref 1 0 0), (5, .ref 2 0 0), (6, .ref 3 0 0), (7, .d (eU64 y.1))], [.box (.d (aO p0)), .box (.d (aO (aW.mk ([] : List UInt8) false ([] : List UInt8) (0 : UInt64) false ([] : List UInt8)))), .box (.d (aH y.2.1)), .box (.d (aH y.2.2))]⟩) ?_ ?_))))))))
 ·intro alu h1
  refine sr (s1 (far (k := 1) rfl Ay bO rfl) (s1 (aS rfl (aj bO dW rfl rfl)) (sn (SC.blk (SC.bJ h1 (fun y => ⟨mk 98 [(2, .ref 0 0 0), (3, .ref 1 0 0), (4, .ref 2 0 0), (5, .ref 3 0 0), (6, .ref 4 0 0), (7, .d (eU64 p0.A9)), (22, .d (eI p1.Kind)), (23, .d (eB y))], [.box (.d (aO p0)), .box (.d (bX p1)), .box (.d (aO (aW.mk ([] : List UInt8) false ([] : List UInt8) (0 : UInt64) false ([] : List UInt8)))), .box (.d (aH (aB.mk p0.Has p0.Val))), .box (.d (aH (aB.mk p0.New p0.jg)))]⟩) ?_ ?_)))))
  ·intro akL h2
   refine sr (s1 (bi rfl rfl aP) (sa rfl (sn (cB h2 rfl (fun h2 => ?_) (fun h2 => ?_)))))
   ·have q := si h2; subst q
    exact SC.skip ((wq rfl))
   ·refine sr (s1 (bi rfl rfl aP) (sa rfl (sn (cB h2 rfl (fun h2 => ?_) (fun h2 => ?_)))))
    ·have q := si h2; subst q
     exact SC.skip ((wq rfl))
    ·have q := si h2; subst q
     exact SC.region (s1 (bi rfl rfl aP) (sa rfl (SO.nil ((wq rfl)))))
  ·rintro adY h1
   refine cB h1 rfl (fun h1 => ?_) (fun h1 => ?_)
   ·refine sr (s1 (far (k := 3) rfl KR fU rfl) (s1 (aS rfl (aj fU lY rfl rfl)) (s1 (bi rfl rfl (jo (b := (0 : UInt64)))) (sn (cB h1 rfl (fun h1 => ?_) (fun h1 => ?_))))))
    ·obtain ⟨abn, agM, h1⟩ := ob h1; have q := si h1; subst q
     exact SC.region (s1 (aS (v := .d (aH (aB.mk p0.Has p0.Val))) rfl (aj iG qR rfl rfl)) (s1 (aS (v := .d (bX p1)) rfl (aj xQ CS rfl rfl)) (cq [] [5] (lC (aB.mk p0.Has p0.Val) p1 _ agM) wf rfl rfl rfl Yb rfl rfl rfl rfl rfl rfl rfl rfl (s0 (fJ rfl rfl (sB (d' := .d (aH abn)) iG rfl rfl rfl rfl rfl rfl rfl)) (SO.nil ((wc [0, 2, 3, 4] [0, 2, 3, 4] (by kernel_rfl) rfl (by kernel_rfl))))))))
    ·refine SC.bJ h1 (fun y => ⟨mk 98 [(2, .ref 0 0 0), (3, .ref 1 0 0), (4, .ref 2 0 0), (5, .ref 3 0 0), (6, .ref 4 0 0), (7, .d (eU64 p0.A9)), (40, .d (eB y))], [.box (.d (aO p0)), .box (.d (bX p1)), .box (.d (aO (aW.mk ([] : List UInt8) false ([] : List UInt8) (0 : UInt64) false ([] : List UInt8)))), .box (.d (aH (aB.mk p0.Has p0.Val))), .box (.d (aH (aB.mk p0.New p0.jg)))]⟩) ?_ ?_
     ·intro aaS h2
      refine SC.region (s1 (far (k := 1) rfl Ay bO rfl) (s1 (aS rfl (aj bO dW rfl rfl)) (s1 (bi rfl rfl bA) (sm rfl (sp h2 (fun h2 => ?_) (fun h2 => ?_))))))
      ·have q := si h2; subst q
       exact kw rfl (kw rfl (kw rfl (s1 (pkt rfl rfl) (SO.nil ((wq rfl))))))
      ·have q := si h2; subst q
       exact gw rfl (far (k := 5) rfl wO bO rfl) (gw rfl (aS rfl (aj bO dW rfl rfl)) (gw rfl (bi rfl rfl dU) (s1 (dB rfl rfl) (SO.nil ((wq rfl))))))
     ·rintro adX h1
      refine cB h1 rfl (fun h1 => ?_) (fun h1 => ?_)
      ·refine SC.bJ h1 (fun y => ⟨mk 98 [(2, .ref 0 0 0), (3, .ref 1 0 0), (4, .ref 2 0 0), (5, .ref 3 0 0), (6, .ref 4 0 0), (7, .d (eU64 y.1))], [.box (.d (aO p0)), .box (.d (bX p1)), .box (.d (aO (aW.mk ([] : List UInt8) false ([] : List UInt8) (0 : UInt64) false ([] : List UInt8)))), .box (.d (aH (aB.mk p0.Has p0.Val))), .box (.d (aH y.2))]⟩) ?_ ?_
       ·intro akK h2
        refine sr (sm rfl (s1 (bi rfl rfl (jo (b := (0 : UInt64)))) (sn (cB h2 rfl (fun h2 => ?_) (fun h2 => ?_)))))
        ·have q := si h2; subst q
         exact sr (s1 (far (k := 3) rfl KR fU rfl) (s1 (aS rfl (aj fU lY rfl rfl)) (sa rfl (sn (SC.region (s1 (aS (v := .d (aH (aB.mk p0.Has p0.Val))) rfl (aj iG qR rfl rfl)) (s0 (fJ rfl rfl (sB (d' := .d (aH (aB.mk p0.Has p0.Val))) iG rfl rfl rfl rfl rfl rfl rfl)) (SO.nil ((wq rfl))))))))))
        ·have q := si h2; subst q
         exact SC.skip ((wq rfl))
       ·rintro ⟨WT, Ad⟩ h1
        refine sr (sm rfl (s1 (far (k := 3) rfl KR fU rfl) (s1 (aS rfl (aj fU lY rfl rfl)) (s1 (bi rfl rfl jo) (sn (cB h1 rfl (fun h1 => ?_) (fun h1 => ?_)))))))
        ·obtain ⟨abl, agK, h1⟩ := ob h1; have q := si h1; subst q
         exact SC.region (s1 (aS (v := .d (aH Ad)) rfl (aj iG qR rfl rfl)) (s1 (aS (v := .d (bX p1)) rfl (aj xQ CS rfl rfl)) (cq [] [5] (lC Ad p1 _ agK) wf rfl rfl rfl Yb rfl rfl rfl rfl rfl rfl rfl rfl (s0 (fJ rfl rfl (sB (d' := .d (aH abl)) iG rfl rfl rfl rfl rfl rfl rfl)) (SO.nil ((wc [0, 2, 3, 4] [0, 2, 3, 4] (by kernel_rfl) rfl (by kernel_rfl))))))))
        ·have q := si h1; subst q
         exact SC.skip ((wc [0, 2, 3, 4] [0, 2, 3, 4] (by kernel_rfl) rfl (by kernel_rfl)))
      ·have q := si h1; subst q
       exact SC.skip ((wc [0, 2, 3, 4] [0, 2, 3, 4] (by kernel_rfl) rfl (by kernel_rfl)))
   ·refine sr (s1 (bi rfl rfl aP) (sa rfl (sn (cB h1 rfl (fun h1 => ?_) (fun h1 => ?_)))))
    ·obtain ⟨UD, Vq, h1⟩ := ob h1; obtain ⟨abj, agI, h1⟩ := ob h1; have q := si h1; subst q
     refine sr (s1 (aS (v := .d (aH (aB.mk p0.Has p0.Val))) rfl (aj iG qR rfl rfl)) (s1 (aS (v := .d (bX p1)) rfl (aj xQ CS rfl rfl)) (cq [] [5] (lC (aB.mk p0.Has p0.Val) p1 _ Vq) wf rfl rfl rfl Yb rfl rfl rfl rfl rfl rfl rfl rfl (s0 (fJ rfl rfl (sB (d' := .d (aH UD)) iG rfl rfl rfl rfl rfl rfl rfl)) (sn (SC.region (s1 (aS (v := .d (aH (aB.mk p0.New p0.jg))) rfl (aj iG qR rfl rfl)) (s1 (aS (v := .d (bX p1)) rfl (aj xQ CS rfl rfl)) (cq [] [6] (lC (aB.mk p0.New p0.jg) p1 _ agI) wf rfl rfl rfl Yb rfl rfl rfl rfl rfl rfl rfl rfl ?_)))))))))
     exact s0 (fJ rfl rfl (sB (d' := .d (aH abj)) iG rfl rfl rfl rfl rfl rfl rfl)) (SO.nil ((wc [0, 2, 3, 4] [0, 2, 3, 4] (by kernel_rfl) rfl (by kernel_rfl))))
    ·refine SC.bJ h1 (fun y => ⟨mk 98 [(2, .ref 0 0 0), (3, .ref 1 0 0), (4, .ref 2 0 0), (5, .ref 3 0 0), (6, .ref 4 0 0), (7, .d (eU64 p0.A9)), (61, .d (eB y))], [.box (.d (aO p0)), .box (.d (bX p1)), .box (.d (aO (aW.mk ([] : List UInt8) false ([] : List UInt8) (0 : UInt64) false ([] : List UInt8)))), .box (.d (aH (aB.mk p0.Has p0.Val))), .box (.d (aH (aB.mk p0.New p0.jg)))]⟩) ?_ ?_
     ·intro akJ h2
      refine sr (s1 (bi rfl rfl aP) (sa rfl (sn (cB h2 rfl (fun h2 => ?_) (fun h2 => ?_)))))
      ·have q := si h2; subst q
       exact SC.skip ((wq rfl))
      ·have q := si h2; subst q
       exact SC.region (s1 (bi rfl rfl aP) (sa rfl (SO.nil ((wq rfl)))))
     ·rintro y150 h1
      refine cB h1 rfl (fun h1 => ?_) (fun h1 => ?_)
      ·refine SC.bJ h1 (fun y => ⟨mk 98 [(2, .ref 0 0 0), (3, .ref 1 0 0), (4, .ref 2 0 0), (5, .ref 3 0 0), (6, .ref 4 0 0), (7, .d (eU64 p0.A9)), (71, .d (eB y))], [.box (.d (aO p0)), .box (.d (bX p1)), .box (.d (aO (aW.mk ([] : List UInt8) false ([] : List UInt8) (0 : UInt64) false ([] : List UInt8)))), .box (.d (aH (aB.mk p0.Has p0.Val))), .box (.d (aH (aB.mk p0.New p0.jg)))]⟩) ?_ ?_
       ·intro akI h2
        refine SC.region (sm rfl (s1 (far (k := 3) rfl KR fU rfl) (s1 (aS rfl (aj fU lY rfl rfl)) (s1 (bi rfl rfl jo) (sm rfl (sp h2 (fun h2 => ?_) (fun h2 => ?_)))))))
        ·have q := si h2; subst q
         exact gw rfl (mv rfl) (gw rfl (bi rfl rfl (Jp (b := (0 : UInt64)))) (s1 (pkt rfl rfl) (SO.nil ((wq rfl)))))
        ·have q := si h2; subst q
         exact kw rfl (kw rfl (s1 (dB rfl rfl) (SO.nil ((wq rfl)))))
       ·rintro y152 h1
        refine cB h1 rfl (fun h1 => ?_) (fun h1 => ?_)
        ·refine SC.bJ h1 (fun y => ⟨mk 98 [(2, .ref 0 0 0), (4, .ref 1 0 0), (5, .ref 2 0 0), (6, .ref 3 0 0)], [.box (.d (aO p0)), .box (.d (aO (aW.mk ([] : List UInt8) false ([] : List UInt8) (0 : UInt64) false ([] : List UInt8)))), .box (.d (aH y)), .box (.d (aH (aB.mk p0.New p0.jg)))]⟩) ?_ ?_
         ·intro akH h2
          refine sr (s1 (far (k := 1) rfl Ay bO rfl) (s1 (aS rfl (aj bO dW rfl rfl)) (s1 (bi rfl rfl aP) (sn (cB h2 rfl (fun h2 => ?_) (fun h2 => ?_))))))
          ·have q := si h2; subst q
           exact SC.region (s1 (aS (v := .d (aH (aB.mk p0.New p0.jg))) rfl (aj iG qR rfl rfl)) (s0 (fJ rfl rfl (sB (d' := .d (aH (aB.mk p0.New p0.jg))) iG rfl rfl rfl rfl rfl rfl rfl)) (SO.nil ((wc [0, 2, 3, 4] [0, 2, 3, 4] (by kernel_rfl) rfl (by kernel_rfl))))))
          ·have q := si h2; subst q
           exact SC.skip ((wc [0, 2, 3, 4] [0, 2, 3, 4] (by kernel_rfl) rfl (by kernel_rfl)))
         ·rintro Ac h1
          have q := si h1; subst q
          exact SC.region (s1 (ig (v := .d (eU64 (0 : UInt64))) rfl) (SO.nil ((wq rfl))))
        ·have q := si h1; subst q
         exact SC.skip ((wc [0, 2, 3, 4] [0, 2, 3, 4] (by kernel_rfl) rfl (by kernel_rfl)))
      ·have q := si h1; subst q
       exact SC.skip ((wc [0, 2, 3, 4] [0, 2, 3, 4] (by kernel_rfl) rfl (by kernel_rfl)))
 ·rintro ⟨Bf, JL, QY⟩ h0
  refine sr (s1 (far (k := 0) rfl Hg eT rfl) (s1 (aS rfl (aj eT jy rfl rfl)) (s1 (far (k := 0) rfl Ce jV rfl) (s1 (aS rfl (aj jV zD rfl rfl)) (sm rfl (s1 (l8 rfl (PE p0.Key JL.has Bf)) (s1 (qV (k := 4) QI rfl) (s0 (fJ rfl rfl (sB (d' := .d (aO (aW.mk p0.Key JL.has ([] : List UInt8) Bf false ([] : List UInt8)))) p8 rfl rfl rfl rfl rfl rfl rfl)) (sn ?_)))))))))
  refine SC.bJ h0 (fun y => ⟨mk 98 [(4, .ref 0 0 0), (6, .ref 1 0 0), (7, .d (eU64 Bf)), (8, .ref 2 0 0)], [.box (.d (aO (aW.mk ([] : List UInt8) false ([] : List UInt8) (0 : UInt64) false ([] : List UInt8)))), .box (.d (aH QY)), .box (.d (aO y))]⟩) ?_ ?_
  ·intro aaY h1
   refine sr (s1 (far (k := 0) rfl Ce jV rfl) (s1 (aS rfl (aj jV zD rfl rfl)) (sn (cB h1 rfl (fun h1 => ?_) (fun h1 => ?_)))))
   ·have q := si h1; subst q
    exact SC.region (s1 (far (k := 1) rfl uq eT rfl) (s1 (aS rfl (aj eT jy rfl rfl)) (s1 (far (k := 2) rfl O9 eT rfl) (s0 (fJ rfl rfl (sB (d' := .d (aO (aW.mk p0.Key JL.has JL.s Bf false ([] : List UInt8)))) eT rfl rfl rfl rfl rfl rfl rfl)) (SO.nil ((wc [1, 3, 4] [1, 3, 4] (by kernel_rfl) rfl (by kernel_rfl))))))))
   ·have q := si h1; subst q
    exact SC.skip ((wc [1, 3, 4] [1, 3, 4] (by kernel_rfl) rfl (by kernel_rfl)))
  ·rintro qW h0
   refine SC.bJ h0 (fun y => ⟨mk 98 [(4, .ref 0 0 0), (8, .ref 1 0 0)], [.box (.d (aO (aW.mk ([] : List UInt8) false ([] : List UInt8) (0 : UInt64) false ([] : List UInt8)))), .box (.d (aO y))]⟩) ?_ ?_
   ·intro alq h1
    refine SC.bJ h1 (fun y => ⟨mk 98 [(4, .ref 0 0 0), (6, .ref 1 0 0), (8, .ref 2 0 0), (92, .d (eB y))], [.box (.d (aO (aW.mk ([] : List UInt8) false ([] : List UInt8) (0 : UInt64) false ([] : List UInt8)))), .box (.d (aH QY)), .box (.d (aO qW))]⟩) ?_ ?_
    ·intro akG h2
     refine SC.region (sm rfl (s1 (bi rfl rfl (Jp (b := (0 : UInt64)))) (sm rfl (sp h2 (fun h2 => ?_) (fun h2 => ?_)))))
     ·have q := si h2; subst q
      exact gw rfl (far (k := 0) rfl Ce jV rfl) (gw rfl (aS rfl (aj jV zD rfl rfl)) (s1 (pkt rfl rfl) (SO.nil ((wq rfl)))))
     ·have q := si h2; subst q
      exact kw rfl (kw rfl (s1 (dB rfl rfl) (SO.nil ((wq rfl)))))
    ·rintro FN h1
     refine cB h1 rfl (fun h1 => ?_) (fun h1 => ?_)
     ·have q := si h1; subst q
      refine sr (s1 (far (k := 4) rfl VB jV rfl) (s0 (fJ (b := .d (eB true)) rfl rfl (sB (d' := .d (aO (aW.mk qW.Key qW.Has qW.Val qW.A9 true qW.jg))) jV rfl rfl rfl rfl rfl rfl rfl)) (sn (SC.region (s1 (far (k := 1) rfl uq eT rfl) (s1 (aS rfl (aj eT jy rfl rfl)) (s1 (far (k := 5) rfl VA eT rfl) (s0 (fJ rfl rfl (sB (d' := .d (aO (aW.mk qW.Key qW.Has qW.Val qW.A9 true QY.s))) eT rfl rfl rfl rfl rfl rfl rfl)) (SO.nil ?_)))))))))
      exact (wc [0, 2] [0, 2] (by kernel_rfl) rfl (by kernel_rfl))
     ·have q := si h1; subst q
      exact SC.skip ((wc [0, 2] [0, 2] (by kernel_rfl) rfl (by kernel_rfl)))
   ·rintro y160 h0
    have q := si h0; subst q
    exact sr (s1 (aS (v := .d (aO y160)) rfl (aj p8 CQ rfl rfl)) (s0 (fJ rfl rfl (sB (d' := .d (aO y160)) p8 rfl rfl rfl rfl rfl rfl rfl)) (sn (SC.ret (aV (wc (e' := [(4, .ref 0 0 0)]) [0] [0] (by kernel_rfl) rfl (by kernel_rfl)) (gD rfl (aj p8 CQ rfl rfl) aG) rfl)))))
noncomputable def oM (p0 : aW) : Option Bool :=
 Option.bind (α := Bool)
 (bif (!p0.Has) then
 some (p0.A9 == (0 : UInt64))
 else
 some false)
 fun y6 =>
 some y6
theorem uK (p0 : aW) (r : Bool) (h0 : oM p0 = some r) : aL Tryz.prog 56 [.d (aO p0)] [] (.d (eB r)) [] := by
 unfold oM at h0
 refine fn0 [0] Tryz.func56 rfl rfl rfl rfl rfl ?_
 refine sr (s1 (nH (k := 0) rfl rfl rfl) (sa rfl (sn (SC.bJ h0 (fun y => ⟨mk 11 [(2, .d (eB y))], []⟩) ?_ ?_))))
 ·intro aaV h1
  refine SC.region (s1 (far (k := 1) rfl VE jV rfl) (s1 (aS rfl (aj jV zD rfl rfl)) (s1 (nt rfl) (sm rfl (sp h1 (fun h1 => ?_) (fun h1 => ?_))))))
  ·have q := si h1; subst q
   exact gw rfl (far (k := 3) rfl VD fU rfl) (gw rfl (aS rfl (aj fU lY rfl rfl)) (gw rfl (bi rfl rfl (jo (b := (0 : UInt64)))) (s1 (pkt rfl rfl) (sa rfl (SO.nil ((wc [] [] (by kernel_rfl) rfl (by kernel_rfl))))))))
  ·have q := si h1; subst q
   exact kw rfl (kw rfl (kw rfl (s1 (dB rfl rfl) (sa rfl (SO.nil ((wc [] [] (by kernel_rfl) rfl (by kernel_rfl))))))))
 ·rintro y6 h0
  have q := si h0; subst q
  exact SC.ret (aV (Wk.refl _) (aI rfl aG) rfl)
noncomputable def iT (p0 : bL) : Option ((List aW)) :=
 Option.bind (α := (List aW))
 (Option.bind (α := (List aW))
 (loop (Y := Unit) (W := (List aW)) (fun _ =>
 Option.bind (α := (List aW) × Bool)
 (Option.bind (α := Bool)
 (bif (!(p0.Kind == (4 : Int))) then
 some true
 else
 some false)
 fun adB =>
 bif adB then
 Option.bind (α := Unit)
 (some ())
 fun _ =>
 Option.bind (jC (aW.mk p0.Key false ([] : List UInt8) (0 : UInt64) false ([] : List UInt8)) p0) fun xR =>
 Option.bind (oM xR) fun aeX =>
 bif (!aeX) then
 bif decide ([xR].length * 72 ≤ room) then
 some ([xR], true)
 else none
 else
 some (([] : List aW), true)
 else
 some (([] : List aW), (p0.Kind == (4 : Int))))
 fun (adC, ajc) =>
 some (Sum.inr adC)) ())
 (fun e => some e))
 fun aaw =>
 some aaw
theorem yx (p0 : bL) (r : (List aW)) (h0 : iT p0 = some r) : aL Tryz.prog 17 [.ref 0 0 0, .d (bX p0)] [.box (.d (.agg [.aA]))] (.tuple []) [.box (.agg [.slc 1 6 0 r.length none]), .row 6 (List.map aO r) true] := by
 unfold iT at h0
 refine fn0 [0, 1] Tryz.func17 rfl rfl rfl rfl rfl ?_
 refine sr (s1 (nH (k := 1) rfl rfl rfl) (sn (sr (s1 (ig (v := .d .aA) rfl) (sn (sr (s1 (far (k := 1) rfl Ay bO rfl) (s1 (aS rfl (aj bO dW rfl rfl)) (s1 (bi rfl rfl aP) ?_)))))))))
 refine sa rfl (sn (SC.bJ h0 (fun y => ⟨mk 115 [(0, .ref 0 0 0), (4, .slc 1 6 0 y.length none)], [.box (.d (.agg [.aA])), .row 6 (List.map aO y) true]⟩) ?_ ?_))
 ·intro ak8 h1
  obtain ⟨akr, h2, h1⟩ := ob h1
  refine sr (sa rfl (sn (SC.blk (SC.dH h2 (fun y => ⟨mk 115 [(0, .ref 0 0 0), (3, .ref 1 0 0), (4, .d .aA), (5, .d (eB (p0.Kind == (4 : Int)))), (6, .d (eI (0 : Int)))], [.box (.d (.agg [.aA])), .box (.d (bX p0))]⟩) (wq rfl) ?_))))
  intro aom
  intro _ ajm h3 hv3
  refine sq (sr (sm rfl (sm rfl (s1 (gJ rfl) (s1 (far (k := 0) rfl l7 mg rfl) (s1 (aS rfl (aj mg Bt rfl rfl)) (s1 (len rfl rfl rfl (len_nil vg)) (s1 (bi (v := .d (eB true)) rfl rfl (fun _ _ => rfl)) (sn ?_)))))))))
  refine cT rfl (sk (sq (SC.blk (SC.bJ h3 (fun y => ⟨mk 115 [(0, .ref 0 0 0), (3, .ref 1 0 0), (4, .slc 2 6 0 y.1.length none), (5, .d (eB y.2)), (6, .d (eI (0 : Int)))], [.box (.d (.agg [.aA])), .box (.d (bX p0)), .row 6 (List.map aO y.1) true]⟩) ?_ ?_))))
  ·intro aj6 h4
   refine SC.bJ h4 (fun y => ⟨mk 115 [(0, .ref 0 0 0), (3, .ref 1 0 0), (4, .d .aA), (5, .d (eB (p0.Kind == (4 : Int)))), (6, .d (eI (0 : Int))), (44, .d (eB y))], [.box (.d (.agg [.aA])), .box (.d (bX p0))]⟩) ?_ ?_
   ·intro ajZ h5
    refine SC.draws (by kernel_rfl) (t1 ([], false) (mv rfl) rfl (t1 ([], false) (nt rfl) rfl (t1 ([], false) (mv rfl) rfl (tp h5 (fun h5 => ?_) (fun h5 => ?_)))))
    ·have q := si h5; subst q
     refine u1 ([], false) (ww rfl) (mv rfl) rfl (u1 ([], false) (ww rfl) (mv rfl) rfl (u1 ([], false) (ww rfl) (gJ rfl) rfl (u1 ([], false) (ww rfl) (far (k := 0) rfl l7 mg rfl) rfl (u1 ([0], false) (ww rfl) (aS rfl (aj mg Bt rfl rfl)) rfl (u1 ([], false) (ww rfl) (len rfl rfl rfl (len_nil vg)) rfl (u1 ([], false) (ww rfl) (bi (v := .d (eB true)) rfl rfl (fun _ _ => rfl)) rfl (u1 ([], false) (ww rfl) (mv rfl) rfl (jw rfl (jw rfl ?_)))))))))
     refine jw rfl (jw rfl (jw rfl (jw rfl (jw rfl (jw rfl (jw rfl (jw rfl (jw rfl (u1 ([], false) (ww rfl) (pkt rfl rfl) rfl ?_)))))))))
     refine t1 ([], false) (pkt rfl rfl) rfl (ST.nil (And.intro (by decide +kernel) ?_))
     exact (wq rfl)
    ·have q := si h5; subst q
     refine jw rfl (jw rfl (jw rfl (jw rfl (jw rfl (jw rfl (jw rfl (jw rfl (jw rfl (jw rfl ?_)))))))))
     refine jw rfl (jw rfl (jw rfl (jw rfl (jw rfl (jw rfl (jw rfl (jw rfl (jw rfl (jw rfl ?_)))))))))
     refine t1 ([], false) (dB rfl rfl) rfl (ST.nil (And.intro (by decide +kernel) ?_))
     exact (wq rfl)
   ·rintro adB h4
    refine cB h4 rfl (fun h4 => ?_) (fun h4 => ?_)
    ·refine sr (sa rfl (sn (SC.bJ h4 (fun y => ⟨mk 115 [(0, .ref 0 0 0), (3, .ref 1 0 0), (4, .d .aA), (5, .d (eB true)), (6, .d (eI (0 : Int))), (64, .d (eB true))], [.box (.d (.agg [.aA])), .box (.d (bX p0))]⟩) ?_ ?_)))
     ·intro ajY h5
      have q := si h5; subst q
      refine SC.draws (by kernel_rfl) (t1 ([], false) (mv rfl) rfl (t1 ([], false) (mv rfl) rfl (t1 ([], false) (gJ rfl) rfl (t1 ([], false) (far (k := 0) rfl l7 mg rfl) rfl (t1 ([0], false) (aS rfl (aj mg Bt rfl rfl)) rfl (t1 ([], false) (len rfl rfl rfl (len_nil vg)) rfl (t1 ([], false) (bi (v := .d (eB true)) rfl rfl (fun _ _ => rfl)) rfl (t1 ([], false) (mv rfl) rfl (jw rfl ?_)))))))))
      refine jw rfl (jw rfl (jw rfl (jw rfl (jw rfl (jw rfl (jw rfl (jw rfl (jw rfl (jw rfl ?_)))))))))
      refine t1 ([], false) (pkt rfl rfl) rfl (ST.nil (And.intro (by decide +kernel) ?_))
      exact (wq rfl)
     ·intro _ h4
      obtain ⟨xR, afR, h4⟩ := ob h4; obtain ⟨aeX, Vj, h4⟩ := ob h4
      refine cT rfl (sr (s1 (far (k := 2) rfl yQ eT rfl) (s1 (aS rfl (aj eT jy rfl rfl)) (s1 (l8 rfl (PG p0.Key)) (s1 (aS (v := .d (bX p0)) rfl (aj xQ CS rfl rfl)) (cq [] [2] (rR (aW.mk p0.Key false ([] : List UInt8) (0 : UInt64) false ([] : List UInt8)) p0 _ afR) wf rfl rfl rfl acR rfl rfl rfl rfl rfl rfl rfl rfl (s1 (qV (k := 3) QI rfl) (s0 (fJ rfl rfl (sB (d' := .d (aO xR)) p8 rfl rfl rfl rfl rfl rfl rfl)) (sn ?_)))))))))
      refine sr (s1 (aS (v := .d (aO xR)) rfl (aj p8 CQ rfl rfl)) (c0 (uK xR _ Vj) wf rfl rfl rfl acQ rfl (fun _ => rfl) (fun _ => rfl) (s1 (nt rfl) (sn (cB h4 rfl (fun h4 => ?_) (fun h4 => ?_))))))
      ·obtain ⟨ag4, h4⟩ := gd h4; have q := si h4; subst q
       exact SC.region (sm rfl (s1 (aS (v := .d (aO xR)) rfl (aj p8 CQ rfl rfl)) (s1 (tH (k := 4) (ds := List.map aO [xR]) (off := 0) (l' := [xR].length) rfl vg RF rfl rfl (by rfl) rfl rfl rfl) (s1 (app rfl rfl rfl rfl ac0 (aN (f := aO) (k := 5) vg RF (dx (xs := [xR]) rfl) ag4 rfl)) (sa rfl (SO.nil ((wc [0, 1, 5] [0, 0, 1, 5] (by kernel_rfl) rfl (by kernel_rfl)))))))))
      ·have q := si h4; subst q
       exact SC.skip ((Wk.trans (Wk.dD (σ' := [.box (.d (.agg [.aA])), .box (.d (bX p0)), .box (.d (aO xR)), .box (.d (aO xR)), .row 6 (List.map aO ([] : List aW)) true]) (.row 6 [] true) (fun _ hh => by cases hh) rfl) (Wk.trans (Wk.env (e' := [(0, .ref 0 0 0), (3, .ref 1 0 0), (4, .slc 4 6 0 (([] : List aW).length) none), (5, .d (eB true)), (6, .d (eI (0 : Int)))]) (EW.cons (AW.refl _) (EW.cons (AW.refl _) (EW.cons (AW.dX _ _ _) (EW.cons (AW.refl _) (EW.cons (AW.refl _) EW.nil)))))) (wc [0, 1, 4] [0, 0, 1, 4] (by kernel_rfl) rfl (by kernel_rfl)))))
    ·have q := si h4; subst q
     exact SC.skip ((Wk.trans (Wk.dD (σ' := [.box (.d (.agg [.aA])), .box (.d (bX p0)), .row 6 (List.map aO ([] : List aW)) true]) (.row 6 [] true) (fun _ hh => by cases hh) rfl) (Wk.trans (Wk.env (e' := [(0, .ref 0 0 0), (3, .ref 1 0 0), (4, .slc 2 6 0 (([] : List aW).length) none), (5, .d (eB (p0.Kind == (4 : Int)))), (6, .d (eI (0 : Int)))]) (EW.cons (AW.refl _) (EW.cons (AW.refl _) (EW.cons (AW.dX _ _ _) (EW.cons (AW.refl _) (EW.cons (AW.refl _) EW.nil)))))) (wq rfl))))
  ·rintro ⟨adC, ajc⟩ h3
   have q := si h3; subst q; have q : _ = _ := hv3; subst q; have q := si h1; subst q
   refine sq (sr (sm rfl (sm rfl (s1 (gJ rfl) (s1 (far (k := 0) rfl l7 mg rfl) (s1 (aS rfl (aj mg Bt rfl rfl)) (s1 (len rfl rfl rfl (len_nil vg)) (s1 (bi (v := .d (eB true)) rfl rfl (fun _ _ => rfl)) (sn ?_)))))))))
   exact cT rfl (SC.exit ((wc [0, 2] [0, 0, 2] (by kernel_rfl) rfl (by kernel_rfl))))
 ·rintro aaw h0
  have q := si h0; subst q
  exact SC.region (sm rfl (sm rfl (s1 (gJ rfl) (s1 (far (k := 0) rfl l7 mg rfl) (s0 (fJ rfl rfl (sB (d' := .agg [.slc 1 6 0 aaw.length none]) mg rfl rfl rfl rfl rfl rfl rfl)) (SO.nil (kG (Wk.refl _) aG rfl)))))))
noncomputable def gZ (p0 : bL) (p1 : List aW) : Option ((List aW)) :=
 Option.bind (α := (List aW))
 (Option.bind (α := (List aW))
 (loop (Y := (List aW) × Bool × Int) (W := (List aW)) (fun (wY, P7, rH) =>
 bif (decide (rH ≤ (p1.length : Int))) then
 eH (Y := (List aW) × Bool) (E := (List aW))
 (Option.bind (α := (List aW) × Bool)
 (Option.bind (α := Bool)
 (bif (!P7) then
 bif (rH == (p1.length : Int)) then
 some true
 else
 Option.bind (bF p1 rH) fun YJ =>
 some (!(Qo YJ.Key p0.Key))
 else
 some false)
 fun YB =>
 bif YB then
 Option.bind (α := Bool)
 (bif (rH == (p1.length : Int)) then
 some true
 else
 Option.bind (bF p1 rH) fun TS =>
 some (!(Qo TS.Key p0.Key || TS.Key == p0.Key)))
 fun YA =>
 bif YA then
 Option.bind (jC (aW.mk p0.Key false ([] : List UInt8) (0 : UInt64) false ([] : List UInt8)) p0) fun yC =>
 Option.bind (oM yC) fun Y0 =>
 bif (!Y0) then
 bif decide ((wY.length + [yC].length) * 72 ≤ room) then
 some ((wY ++ [yC]), true)
 else none
 else
 some (wY, true)
 else
 some (wY, true)
 else
 some (wY, P7))
 fun (zM, LG) =>
 bif (rH == (p1.length : Int)) then
 some (Sum.inr zM)
 else
 Option.bind (bF p1 rH) fun Bh =>
 Option.bind (α := aW)
 (Option.bind (α := Bool)
 (bif (p0.Kind == (4 : Int)) then
 some true
 else
 some (Bh.Key == p0.Key))
 fun Yz =>
 bif Yz then
 Option.bind (jC Bh p0) fun UC =>
 some UC
 else
 some Bh)
 fun zL =>
 Option.bind (oM zL) fun YZ =>
 bif (!YZ) then
 bif decide ((zM.length + [zL].length) * 72 ≤ room) then
 some (Sum.inl ((zM ++ [zL]), LG))
 else none
 else
 some (Sum.inl (zM, LG)))
 (fun (YD, YC) =>
 some (Sum.inl (YD, YC, (bD (rH + (1 : Int))))))
 (fun e => some (Sum.inr e))
 else
 some (Sum.inr wY)) (([] : List aW), (p0.Kind == (4 : Int)), (0 : Int)))
 (fun e => some e))
 fun TD =>
 some TD
theorem wC (p0 : bL) (p1 : List aW) (r : (List aW)) (h0 : gZ p0 p1 = some r) : aL Tryz.prog 17 [.ref 0 0 0, .d (bX p0)] [.box (.agg [.slc 1 6 0 p1.length none]), .row 6 (List.map aO p1) true] (.tuple []) [.box (.agg [.slc 2 6 0 r.length none]), .row 6 (List.map aO p1) true, .row 6 (List.map aO r) true] := by
 unfold gZ at h0
 refine fn0 [0, 1] Tryz.func17 rfl rfl rfl rfl rfl ?_
 refine sr (s1 (nH (k := 2) rfl rfl rfl) (sn (sr (s1 (ig (v := .d .aA) rfl) (sn (sr (s1 (far (k := 1) rfl Ay bO rfl) (s1 (aS rfl (aj bO dW rfl rfl)) (s1 (bi rfl rfl aP) ?_)))))))))
 refine sa rfl (sn (SC.bJ h0 (fun y => ⟨mk 115 [(0, .ref 0 0 0), (4, .slc 2 6 0 y.length none)], [.box (.agg [.slc 1 6 0 p1.length none]), .row 6 (List.map aO p1) true, .row 6 (List.map aO y) true]⟩) ?_ ?_))
 ·intro ai2 h1
  obtain ⟨aiX, h2, h1⟩ := ob h1
  refine sr (sa rfl (sn (SC.blk (SC.dH h2 (fun y => ⟨mk 115 [(0, .ref 0 0 0), (3, .ref 2 0 0), (4, .slc 3 6 0 y.1.length none), (5, .d (eB y.2.1)), (6, .d (eI y.2.2))], [.box (.agg [.slc 1 6 0 p1.length none]), .row 6 (List.map aO p1) true, .box (.d (bX p0)), .row 6 (List.map aO y.1) true]⟩) (Wk.trans (Wk.dD (σ' := [.box (.agg [.slc 1 6 0 p1.length none]), .row 6 (List.map aO p1) true, .box (.d (bX p0)), .row 6 (List.map aO ([] : List aW)) true]) (.row 6 [] true) (fun _ hh => by cases hh) rfl) (Wk.trans (Wk.env (e' := [(0, .ref 0 0 0), (3, .ref 2 0 0), (4, .slc 3 6 0 (([] : List aW).length) none), (5, .d (eB (p0.Kind == (4 : Int)))), (6, .d (eI (0 : Int)))]) (EW.cons (AW.refl _) (EW.cons (AW.refl _) (EW.cons (AW.dX _ _ _) (EW.cons (AW.refl _) (EW.cons (AW.refl _) EW.nil)))))) (wq rfl))) ?_))))
  intro an6
  rintro ⟨wY, P7, rH⟩ aiG h3 hv3
  refine sq (sr (sm rfl (sm rfl (s1 (gJ rfl) (s1 (far (k := 0) rfl l7 mg rfl) (s1 (aS rfl (aj mg Bt rfl rfl)) (s1 (len rfl rfl rfl (dS vg)) (s1 (bi rfl rfl rE) (sn ?_)))))))))
  refine cB h3 rfl (fun h3 => ?_) (fun h3 => ?_)
  ·refine sk (SC.seqB h3 (fun y => ⟨mk 115 [(0, .ref 0 0 0), (3, .ref 2 0 0), (4, .slc 3 6 0 y.1.length none), (5, .d (eB y.2)), (6, .d (eI rH))], [.box (.agg [.slc 1 6 0 p1.length none]), .row 6 (List.map aO p1) true, .box (.d (bX p0)), .row 6 (List.map aO y.1) true]⟩) ?_ ?_)
   ·intro aiU h4 h3
    refine SC.blk (SC.bJ h4 (fun y => ⟨mk 115 [(0, .ref 0 0 0), (3, .ref 2 0 0), (4, .slc 3 6 0 y.1.length none), (5, .d (eB y.2)), (6, .d (eI rH))], [.box (.agg [.slc 1 6 0 p1.length none]), .row 6 (List.map aO p1) true, .box (.d (bX p0)), .row 6 (List.map aO y.1) true]⟩) ?_ ?_)
    ·intro aiQ h5
     refine SC.bJ h5 (fun y => ⟨mk 115 [(0, .ref 0 0 0), (3, .ref 2 0 0), (4, .slc 3 6 0 wY.length none), (5, .d (eB P7)), (6, .d (eI rH)), (44, .d (eB y))], [.box (.agg [.slc 1 6 0 p1.length none]), .row 6 (List.map aO p1) true, .box (.d (bX p0)), .row 6 (List.map aO wY) true]⟩) ?_ ?_
     ·intro aiN h6
      refine SC.draws (by kernel_rfl) (t1 ([], false) (mv rfl) rfl (t1 ([], false) (nt rfl) rfl (t1 ([], false) (mv rfl) rfl (tp h6 (fun h6 => ?_) (fun h6 => ?_)))))
      ·refine u1 ([], false) (ww rfl) (mv rfl) rfl (u1 ([], false) (ww rfl) (mv rfl) rfl (u1 ([], false) (ww rfl) (gJ rfl) rfl (u1 ([], false) (ww rfl) (far (k := 0) rfl l7 mg rfl) rfl (u1 ([0], false) (ww rfl) (aS rfl (aj mg Bt rfl rfl)) rfl (u1 ([], false) (ww rfl) (len rfl rfl rfl (dS vg)) rfl (u1 ([], false) (ww rfl) (bi rfl rfl aP) rfl (u1 ([], false) (ww rfl) (mv rfl) rfl (tp h6 (fun h6 => ?_) (fun h6 => ?_)))))))))
       ·have q := si h6; subst q
        refine jw rfl (jw rfl (jw rfl (jw rfl (jw rfl (jw rfl (jw rfl (jw rfl (jw rfl (jw rfl ?_)))))))))
        refine jw rfl (u1 ([], false) (ww rfl) (pkt rfl rfl) rfl (t1 ([], false) (pkt rfl rfl) rfl (ST.nil (And.intro (by decide +kernel) ?_))))
        exact (wq rfl)
       ·obtain ⟨YJ, U7, h6⟩ := ob h6; have q := si h6; subst q
        refine u1 ([], false) (ww rfl) (mv rfl) rfl (u1 ([], false) (ww rfl) (gJ rfl) rfl (u1 ([], false) (ww rfl) (far (k := 0) rfl l7 mg rfl) rfl (u1 ([0], false) (ww rfl) (aS rfl (aj mg Bt rfl rfl)) rfl (u1 ([], false) (ww rfl) (mv rfl) rfl (u1 ([], false) (ww rfl) (CB rfl rfl vg p8 (fT U7)) rfl (u1 ([], false) (ww rfl) (far (k := 0) rfl Hg eT rfl) rfl (u1 ([1], false) (ww rfl) (aS rfl (gH eT jy rfl (aT (ak U7).2) rfl)) rfl (u1 ([], false) (ww rfl) (far (k := 2) rfl yQ eT rfl) rfl (u1 ([2], false) (ww rfl) (aS rfl (aj eT jy rfl rfl)) rfl ?_)))))))))
        refine u1 ([], false) (ww rfl) (bi rfl rfl Rt) rfl (u1 ([], false) (ww rfl) (dB rfl rfl) rfl (t1 ([], false) (pkt rfl rfl) rfl (ST.nil (And.intro (by decide +kernel) ?_))))
        exact (wq rfl)
      ·have q := si h6; subst q
       refine jw rfl (jw rfl (jw rfl (jw rfl (jw rfl (jw rfl (jw rfl (jw rfl (jw rfl (jw rfl ?_)))))))))
       refine jw rfl (jw rfl (jw rfl (jw rfl (jw rfl (jw rfl (jw rfl (jw rfl (jw rfl (jw rfl ?_)))))))))
       refine t1 ([], false) (dB rfl rfl) rfl (ST.nil (And.intro (by decide +kernel) ?_))
       exact (wq rfl)
     ·rintro YB h5
      refine cB h5 rfl (fun h5 => ?_) (fun h5 => ?_)
      ·refine sr (sa rfl (sn (SC.bJ h5 (fun y => ⟨mk 115 [(0, .ref 0 0 0), (3, .ref 2 0 0), (4, .slc 3 6 0 wY.length none), (5, .d (eB true)), (6, .d (eI rH)), (64, .d (eB y))], [.box (.agg [.slc 1 6 0 p1.length none]), .row 6 (List.map aO p1) true, .box (.d (bX p0)), .row 6 (List.map aO wY) true]⟩) ?_ ?_)))
       ·intro aiM h6
        refine SC.draws (by kernel_rfl) (t1 ([], false) (mv rfl) rfl (t1 ([], false) (mv rfl) rfl (t1 ([], false) (gJ rfl) rfl (t1 ([], false) (far (k := 0) rfl l7 mg rfl) rfl (t1 ([0], false) (aS rfl (aj mg Bt rfl rfl)) rfl (t1 ([], false) (len rfl rfl rfl (dS vg)) rfl (t1 ([], false) (bi rfl rfl aP) rfl (t1 ([], false) (mv rfl) rfl (tp h6 (fun h6 => ?_) (fun h6 => ?_))))))))))
        ·have q := si h6; subst q
         refine jw rfl (jw rfl (jw rfl (jw rfl (jw rfl (jw rfl (jw rfl (jw rfl (jw rfl (jw rfl ?_)))))))))
         refine jw rfl (t1 ([], false) (pkt rfl rfl) rfl (ST.nil (And.intro (by decide +kernel) ?_)))
         exact (wq rfl)
        ·obtain ⟨TS, U6, h6⟩ := ob h6; have q := si h6; subst q
         refine u1 ([], false) (ww rfl) (mv rfl) rfl (u1 ([], false) (ww rfl) (gJ rfl) rfl (u1 ([], false) (ww rfl) (far (k := 0) rfl l7 mg rfl) rfl (u1 ([0], false) (ww rfl) (aS rfl (aj mg Bt rfl rfl)) rfl (u1 ([], false) (ww rfl) (mv rfl) rfl (u1 ([], false) (ww rfl) (CB rfl rfl vg p8 (fT U6)) rfl (u1 ([], false) (ww rfl) (far (k := 0) rfl Hg eT rfl) rfl (u1 ([1], false) (ww rfl) (aS rfl (gH eT jy rfl (aT (ak U6).2) rfl)) rfl (u1 ([], false) (ww rfl) (far (k := 2) rfl yQ eT rfl) rfl (u1 ([2], false) (ww rfl) (aS rfl (aj eT jy rfl rfl)) rfl ?_)))))))))
         refine u1 ([], false) (ww rfl) (bi rfl rfl Rs) rfl (t1 ([], false) (dB rfl rfl) rfl (ST.nil (And.intro (by decide +kernel) ?_)))
         exact (wq rfl)
       ·rintro YA h5
        refine cB h5 rfl (fun h5 => ?_) (fun h5 => ?_)
        ·obtain ⟨yC, abX, h5⟩ := ob h5; obtain ⟨Y0, abW, h5⟩ := ob h5
         refine sr (s1 (far (k := 2) rfl yQ eT rfl) (s1 (aS rfl (aj eT jy rfl rfl)) (s1 (l8 rfl (PG p0.Key)) (s1 (aS (v := .d (bX p0)) rfl (aj xQ CS rfl rfl)) (cq [] [4] (rR (aW.mk p0.Key false ([] : List UInt8) (0 : UInt64) false ([] : List UInt8)) p0 _ abX) wf rfl rfl rfl acR rfl rfl rfl rfl rfl rfl rfl rfl (s1 (qV (k := 5) QI rfl) (s0 (fJ rfl rfl (sB (d' := .d (aO yC)) p8 rfl rfl rfl rfl rfl rfl rfl)) (sn (sr ?_)))))))))
         refine s1 (aS (v := .d (aO yC)) rfl (aj p8 CQ rfl rfl)) (c0 (uK yC _ abW) wf rfl rfl rfl acQ rfl (fun _ => rfl) (fun _ => rfl) (s1 (nt rfl) (sn (cB h5 rfl (fun h5 => ?_) (fun h5 => ?_)))))
         ·obtain ⟨acn, h5⟩ := gd h5; have q := si h5; subst q
          exact SC.region (sm rfl (s1 (aS (v := .d (aO yC)) rfl (aj p8 CQ rfl rfl)) (s1 (tH (k := 6) (ds := List.map aO [yC]) (off := 0) (l' := [yC].length) rfl vg RF rfl rfl (by rfl) rfl rfl rfl) (s1 (app rfl rfl rfl rfl ac0 (aF (f := aO) (xs := wY) (k := 7) rfl vg RF rfl (dx (xs := [yC]) rfl) acn rfl)) (sa rfl (SO.nil ((wc [0, 1, 2, 7] [0, 1, 0, 2, 7] (by kernel_rfl) rfl (by kernel_rfl)))))))))
         ·have q := si h5; subst q
          exact SC.skip ((wc [0, 1, 2, 3] [0, 1, 0, 2, 3] (by kernel_rfl) rfl (by kernel_rfl)))
        ·have q := si h5; subst q
         exact SC.skip ((wq rfl))
      ·have q := si h5; subst q
       exact SC.skip ((wq rfl))
    ·rintro ⟨zM, LG⟩ h4
     refine sq (sr (sm rfl (sm rfl (s1 (gJ rfl) (s1 (far (k := 0) rfl l7 mg rfl) (s1 (aS rfl (aj mg Bt rfl rfl)) (s1 (len rfl rfl rfl (dS vg)) (s1 (bi rfl rfl aP) (sn ?_)))))))))
     refine cB h4 rfl (fun h4 => ?_) (fun h4 => ?_)
     ·have q := si h4; subst q; have q := si h3; subst q; have q : _ = _ := hv3; subst q; have q := si h1; subst q
      exact SC.exit ((wc [0, 1, 3] [0, 1, 0, 3] (by kernel_rfl) rfl (by kernel_rfl)))
     ·obtain ⟨Bh, U5, h4⟩ := ob h4
      refine sk (sr (sm rfl (s1 (gJ rfl) (s1 (far (k := 0) rfl l7 mg rfl) (s1 (aS rfl (aj mg Bt rfl rfl)) (sm rfl (s1 (CB rfl rfl vg p8 (fT U5)) (s1 (aS (v := .d (aO Bh)) rfl (gH p8 CQ rfl (aT (ak U5).2) rfl)) (s1 (qV (k := 4) QI rfl) ?_)))))))))
      refine s0 (fJ rfl rfl (sB (d' := .d (aO Bh)) p8 rfl rfl rfl rfl rfl rfl rfl)) (sn (SC.bJ h4 (fun y => ⟨mk 115 [(0, .ref 0 0 0), (3, .ref 2 0 0), (4, .slc 3 6 0 zM.length none), (5, .d (eB LG)), (6, .d (eI rH)), (8, .ref 4 0 0)], [.box (.agg [.slc 1 6 0 p1.length none]), .row 6 (List.map aO p1) true, .box (.d (bX p0)), .row 6 (List.map aO zM) true, .box (.d (aO y))]⟩) ?_ ?_))
      ·intro aiP h5
       refine SC.bJ h5 (fun y => ⟨mk 115 [(0, .ref 0 0 0), (3, .ref 2 0 0), (4, .slc 3 6 0 zM.length none), (5, .d (eB LG)), (6, .d (eI rH)), (8, .ref 4 0 0), (100, .d (eB y))], [.box (.agg [.slc 1 6 0 p1.length none]), .row 6 (List.map aO p1) true, .box (.d (bX p0)), .row 6 (List.map aO zM) true, .box (.d (aO Bh))]⟩) ?_ ?_
       ·intro aiL h6
        refine SC.region (s1 (far (k := 1) rfl Ay bO rfl) (s1 (aS rfl (aj bO dW rfl rfl)) (s1 (bi rfl rfl aP) (sm rfl (sp h6 (fun h6 => ?_) (fun h6 => ?_))))))
        ·have q := si h6; subst q
         exact kw rfl (kw rfl (kw rfl (kw rfl (kw rfl (s1 (pkt rfl rfl) (SO.nil ((wq rfl))))))))
        ·have q := si h6; subst q
         exact gw rfl (far (k := 0) rfl Hg eT rfl) (gw rfl (aS rfl (aj eT jy rfl rfl)) (gw rfl (far (k := 2) rfl yQ eT rfl) (gw rfl (aS rfl (aj eT jy rfl rfl)) (gw rfl (bi rfl rfl iC) (s1 (dB rfl rfl) (SO.nil ((wq rfl))))))))
       ·rintro Yz h5
        refine cB h5 rfl (fun h5 => ?_) (fun h5 => ?_)
        ·obtain ⟨UC, abV, h5⟩ := ob h5; have q := si h5; subst q
         exact SC.region (s1 (aS (v := .d (aO Bh)) rfl (aj p8 CQ rfl rfl)) (s1 (aS (v := .d (bX p0)) rfl (aj xQ CS rfl rfl)) (cq [] [5] (rR Bh p0 _ abV) wf rfl rfl rfl acR rfl rfl rfl rfl rfl rfl rfl rfl (s0 (fJ rfl rfl (sB (d' := .d (aO UC)) p8 rfl rfl rfl rfl rfl rfl rfl)) (SO.nil ((wc [0, 1, 2, 3, 4] [0, 1, 0, 2, 3, 4] (by kernel_rfl) rfl (by kernel_rfl))))))))
        ·have q := si h5; subst q
         exact SC.skip ((wq rfl))
      ·rintro zL h4
       obtain ⟨YZ, abU, h4⟩ := ob h4
       refine sr (s1 (aS (v := .d (aO zL)) rfl (aj p8 CQ rfl rfl)) (c0 (uK zL _ abU) wf rfl rfl rfl acQ rfl (fun _ => rfl) (fun _ => rfl) (s1 (nt rfl) (sn (cB h4 rfl (fun h4 => ?_) (fun h4 => ?_))))))
       ·obtain ⟨acj, h4⟩ := gd h4; have q := si h4; subst q
        exact SC.region (sm rfl (s1 (aS (v := .d (aO zL)) rfl (aj p8 CQ rfl rfl)) (s1 (tH (k := 5) (ds := List.map aO [zL]) (off := 0) (l' := [zL].length) rfl vg RF rfl rfl (by rfl) rfl rfl rfl) (s1 (app rfl rfl rfl rfl ac0 (aF (f := aO) (xs := zM) (k := 6) rfl vg RF rfl (dx (xs := [zL]) rfl) acj rfl)) (sa rfl (SO.nil (lf (wc [0, 1, 2, 6] [0, 1, 0, 2, 6] (by kernel_rfl) rfl (by kernel_rfl)))))))))
       ·have q := si h4; subst q
        exact SC.skip (lf (wc [0, 1, 2, 3] [0, 1, 0, 2, 3] (by kernel_rfl) rfl (by kernel_rfl)))
   ·rintro ⟨YD, YC⟩ h3
    have q := si h3; subst q
    exact SC.region (sm rfl (s1 (bi rfl rfl aR) (sa rfl (SO.nil (lf (wq rfl))))))
  ·have q := si h3; subst q; have q : _ = _ := hv3; subst q; have q := si h1; subst q
   exact SC.exit ((wc [0, 1, 3] [0, 1, 0, 3] (by kernel_rfl) rfl (by kernel_rfl)))
 ·rintro TD h0
  have q := si h0; subst q
  exact SC.region (sm rfl (sm rfl (s1 (gJ rfl) (s1 (far (k := 0) rfl l7 mg rfl) (s0 (fJ rfl rfl (sB (d' := .agg [.slc 2 6 0 TD.length none]) mg rfl rfl rfl rfl rfl rfl rfl)) (SO.nil (kG (Wk.refl _) aG rfl)))))))
noncomputable def kM (p0 : List UInt8) (p1 : List aW) : Option aW :=
 eH (Y := Unit) (E := aW)
 (Option.bind (α := Unit ⊕ aW)
 (loop (Y := Int) (W := Unit ⊕ aW) (fun Bc =>
 bif (decide (Bc < (p1.length : Int))) then
 Option.bind (bF p1 Bc) fun v68 =>
 bif (v68.Key == p0) then
 Option.bind (bF p1 Bc) fun v69 =>
 some (Sum.inr (Sum.inr v69))
 else
 some (Sum.inl (bD (Bc + (1 : Int))))
 else
 some (Sum.inr (Sum.inl ()))) (0 : Int))
 (Sum.elim (fun e => some (Sum.inl e)) (fun e => some (Sum.inr e))))
 (fun _ =>
 some (aW.mk p0 false ([] : List UInt8) (0 : UInt64) false ([] : List UInt8)))
 (fun e => some e)
theorem BG (p0 : List UInt8) (p1 : List aW) (r : aW) (h0 : kM p0 p1 = some r) : aL Tryz.prog 20 [.ref 0 0 0, .d (eS p0)] [.box (.agg [.slc 1 6 0 p1.length none]), .row 6 (List.map aO p1) true] (.d (aO r)) [.box (.agg [.slc 1 6 0 p1.length none]), .row 6 (List.map aO p1) true, .box (.d (aO r))] := by
 unfold kM at h0
 refine fn0 [0, 1] Tryz.func20 rfl rfl rfl rfl rfl ?_
 refine sr (s1 (qV (k := 2) QI rfl) (sn (SC.seqB h0 (fun y => ⟨mk 34 [(1, .d (eS p0)), (4, .ref 2 0 0)], [.box (.agg [.slc 1 6 0 p1.length none]), .row 6 (List.map aO p1) true, .box (.d (aO (aW.mk ([] : List UInt8) false ([] : List UInt8) (0 : UInt64) false ([] : List UInt8))))]⟩) ?_ ?_)))
 ·intro L6 h1 h0
  obtain ⟨Qh, h2, h1⟩ := ob h1
  refine sr (sa rfl (sn (SC.blk (SC.dH h2 (fun y => ⟨mk 34 [(0, .ref 0 0 0), (1, .d (eS p0)), (4, .ref 2 0 0), (5, .d (eI y))], [.box (.agg [.slc 1 6 0 p1.length none]), .row 6 (List.map aO p1) true, .box (.d (aO (aW.mk ([] : List UInt8) false ([] : List UInt8) (0 : UInt64) false ([] : List UInt8))))]⟩) (wq rfl) ?_))))
  intro n70
  rintro Bc Qb h3 hv3
  refine sq (sr (sm rfl (sm rfl (s1 (gJ rfl) (s1 (far (k := 0) rfl l7 mg rfl) (s1 (aS rfl (aj mg Bt rfl rfl)) (s1 (len rfl rfl rfl (dS vg)) (s1 (bi rfl rfl aQ) (sn ?_)))))))))
  refine cB h3 rfl (fun h3 => ?_) (fun h3 => ?_)
  ·obtain ⟨v68, Ca, h3⟩ := ob h3
   refine sk (sq (SC.blk (sr (sm rfl (s1 (gJ rfl) (s1 (far (k := 0) rfl l7 mg rfl) (s1 (aS rfl (aj mg Bt rfl rfl)) (sm rfl (s1 (CB rfl rfl vg p8 (fT Ca)) ?_)))))))))
   refine s1 (far (k := 0) rfl Hg eT rfl) (s1 (aS rfl (gH eT jy rfl (aT (ak Ca).2) rfl)) (sm rfl (s1 (bi rfl rfl iC) (sn (cB h3 rfl (fun h3 => ?_) (fun h3 => ?_))))))
   ·obtain ⟨v69, G6, h3⟩ := ob h3; have q := si h3; subst q; have q : _ = _ := hv3; subst q; have q := si h1; subst q; have q := si h0; subst q
    refine sr (sm rfl (s1 (gJ rfl) (s1 (far (k := 0) rfl l7 mg rfl) (s1 (aS rfl (aj mg Bt rfl rfl)) (sm rfl (s1 (CB rfl rfl vg p8 (fT G6)) (s1 (aS (v := .d (aO v69)) rfl (gH p8 CQ rfl (aT (ak G6).2) rfl)) (s0 (fJ rfl rfl (sB (d' := .d (aO v69)) p8 rfl rfl rfl rfl rfl rfl rfl)) (sn ?_)))))))))
    exact SC.ret (aV (Wk.refl _) (gD rfl (aj p8 CQ rfl rfl) aG) rfl)
   ·refine SC.skip ?_
    change SC _ _ _ _ _
    have q := si h3; subst q
    exact SC.region (sm rfl (s1 (bi rfl rfl aR) (sa rfl (SO.nil (lf (wq rfl))))))
  ·have q := si h3; subst q; have q : _ = _ := hv3; subst q; have q := si h1; subst q
   exact SC.exit (lf (wq rfl))
 ·intro _ h0
  have q := si h0; subst q
  exact sr (sm rfl (s1 (l8 rfl (PG p0)) (s0 (fJ rfl rfl (sB (d' := .d (aO (aW.mk p0 false ([] : List UInt8) (0 : UInt64) false ([] : List UInt8)))) p8 rfl rfl rfl rfl rfl rfl rfl)) (sn (SC.ret (aV (Wk.refl _) (gD rfl (aj p8 CQ rfl rfl) aG) rfl))))))
noncomputable def rW (p0 : List ApiValue) (p1 : List ApiValue) : Option Bool :=
 bif ((p0.length : Int) != (p1.length : Int)) then
 some false
 else
 eH (Y := Unit) (E := Bool)
 (Option.bind (α := Unit ⊕ Bool)
 (loop (Y := Int) (W := Unit ⊕ Bool) (fun Bc =>
 bif (decide (Bc < (p0.length : Int))) then
 Option.bind (bF p0 Bc) fun v68 =>
 Option.bind (bF p1 Bc) fun v69 =>
 bif (!(eG v68 v69)) then
 some (Sum.inr (Sum.inr false))
 else
 some (Sum.inl (bD (Bc + (1 : Int))))
 else
 some (Sum.inr (Sum.inl ()))) (0 : Int))
 (Sum.elim (fun e => some (Sum.inl e)) (fun e => some (Sum.inr e))))
 (fun _ =>
 some true)
 (fun e => some e)
theorem IJ (p0 : List ApiValue) (p1 : List ApiValue) (r : Bool) (h0 : rW p0 p1 = some r) : aL Tryz.prog 21 [.d ((eL 3 eApiValue) p0), .d ((eL 3 eApiValue) p1)] [] (.d (eB r)) [] := by
 unfold rW at h0
 refine fn0 [0, 1] Tryz.func21 rfl rfl rfl rfl rfl ?_
 refine sr (sa rfl (sn (sq (sr (sm rfl (s1 (len rfl rfl rfl (aZ fu)) (sm rfl (s1 (len rfl rfl rfl (aZ fu)) (s1 (bi rfl rfl bA) ?_)))))))))
 refine sn (cB h0 rfl (fun h0 => ?_) (fun h0 => ?_))
 ·have q := si h0; subst q
  exact sr (sa rfl (sn (SC.ret (aV (Wk.refl _) (aI rfl aG) rfl))))
 ·refine sk (SC.seqB h0 (fun y => ⟨mk 26 [], []⟩) ?_ ?_)
  ·intro L6 h1 h0
   obtain ⟨Qh, h2, h1⟩ := ob h1
   refine sr (sa rfl (sn (SC.blk (SC.dH h2 (fun y => ⟨mk 26 [(0, .d ((eL 3 eApiValue) p0)), (1, .d ((eL 3 eApiValue) p1)), (5, .d (eI y))], []⟩) (wq rfl) ?_))))
   intro n70
   rintro Bc Qb h3 hv3
   refine sq (sr (sm rfl (sm rfl (s1 (len rfl rfl rfl (aZ fu)) (s1 (bi rfl rfl aQ) (sn (cB h3 rfl (fun h3 => ?_) (fun h3 => ?_))))))))
   ·obtain ⟨v68, Ca, h3⟩ := ob h3; obtain ⟨v69, G6, h3⟩ := ob h3
    refine sk (sq (SC.blk (sd (by kernel_rfl) (t1 ([], false) (mv rfl) rfl (t1 ([], false) (mv rfl) rfl (t1 ([], false) (j4 rfl rfl fu d9 (ak Ca).1 (aT (ak Ca).2) rfl) rfl (t1 ([], false) (aS (v := .d (eApiValue v68)) rfl (bK d9 kD rfl)) rfl (t1 ([], false) (mv rfl) rfl (t1 ([], false) (mv rfl) rfl ?_)))))))))
    refine t1 ([], false) (j4 rfl rfl fu d9 (ak G6).1 (aT (ak G6).2) rfl) rfl (t1 ([], false) (aS (v := .d (eApiValue v69)) rfl (bK d9 kD rfl)) rfl (t1 ([], false) (bi (v := .d (eB (!(eG v68 v69)))) rfl rfl (fun X Y => uy X Y v68 v69)) rfl (tn (by decide +kernel) (cB h3 rfl (fun h3 => ?_) (fun h3 => ?_)))))
    ·have q := si h3; subst q; have q : _ = _ := hv3; subst q; have q := si h1; subst q; have q := si h0; subst q
     exact sr (sa rfl (sn (SC.ret (aV (Wk.refl _) (aI rfl aG) rfl))))
    ·refine SC.skip ?_
     change SC _ _ _ _ _
     have q := si h3; subst q
     exact SC.region (sm rfl (s1 (bi rfl rfl aR) (sa rfl (SO.nil (lf (wq rfl))))))
   ·have q := si h3; subst q; have q : _ = _ := hv3; subst q; have q := si h1; subst q
    exact SC.exit (lf (wq rfl))
  ·intro _ h0
   have q := si h0; subst q
   exact sr (sa rfl (sn (SC.ret (aV (Wk.refl _) (aI rfl aG) rfl))))
noncomputable def pQ (p0 : ApiTable) (p1 : List ApiValue) (p2 : Int) (p3 : UInt64) : Option Bool :=
 Option.bind qp fun Ut =>
 bif (!Ut) then
 some false
 else
 Option.bind (qg p0) fun YW =>
 bif (YW != (0 : Int)) then
 some true
 else
 bif decide ((([] : List ApiValue).length + p1.length) * 32 ≤ room) then
 Option.bind (Ch p0 (([] : List ApiValue) ++ p1) p2 p3) fun (r92, NY, NW) =>
 Option.bind (rA p0 p1 p2 p3) fun (Ll, Io, SX) =>
 Option.bind (α := Bool)
 (bif (r92 != Ll) then
 some true
 else
 Option.bind (su (zx.mk NY NW ([] : List aX)) (iE.mk Io SX ([] : List gW))) fun Rm =>
 some (!Rm))
 fun y101 =>
 bif y101 then
 some false
 else
 bif (r92 != (0 : Int)) then
 some true
 else
 Option.bind (bF NY (0 : Int)) fun v105 =>
 Option.bind (nC p1) fun XB =>
 Option.bind (iT (bL.mk (0 : UInt64) (1 : Int) v105.zw.Key (0 : UInt64) XB (0 : Int) (0 : UInt64))) fun abr =>
 Option.bind (bF NY (0 : Int)) fun Q6 =>
 Option.bind (gZ Q6.zw abr) fun Rl =>
 bif decide ((([] : List ApiValue).length + p1.length) * 32 ≤ room) then
 Option.bind (bF (([] : List ApiValue) ++ p1) p2) fun FY =>
 Option.bind (bF (([] : List ApiValue) ++ p1) p2) fun JV =>
 Option.bind (bF NY (0 : Int)) fun aaN =>
 Option.bind (kM aaN.zw.Key Rl) fun abq =>
 Option.bind (mQ p0.bq abq.Val) fun (OL, afh) =>
 Option.bind (α := Bool)
 (bif (afh == (0 : Int)) then
 Option.bind (rW OL (List.set (([] : List ApiValue) ++ p1) p2.toNat (ApiValue.mk JV.Kind (FY.N + p3) JV.S))) fun OJ =>
 some OJ
 else
 some false)
 fun LJ =>
 some LJ
 else none
 else none
theorem Dv (p0 : ApiTable) (p1 : List ApiValue) (p2 : Int) (p3 : UInt64) (r : Bool) (h0 : pQ p0 p1 p2 p3 = some r) : aL Tryz.prog 4 [.d (eApiTable p0), .d ((eL 3 eApiValue) p1), .d (eI p2), .d (eU64 p3)] [] (.d (eB r)) [] := by
 unfold pQ at h0
 refine fn0 [0, 1, 2, 3] Tryz.func4 rfl rfl rfl rfl rfl ?_
 obtain ⟨Ut, OW, h0⟩ := ob h0
 refine sr (s1 (nH (k := 0) rfl rfl rfl) (sa rfl (sn (sq (sr (c0 (GY _ OW) wf rfl rfl rfl cb5 rfl (fun _ => rfl) (fun _ => rfl) (s1 (nt rfl) (sn (cB h0 rfl (fun h0 => ?_) (fun h0 => ?_))))))))))
 ·have q := si h0; subst q
  exact sr (sa rfl (sn (SC.ret (aV (wc (e' := [(8, .d (eB false))]) [] [] (by kernel_rfl) rfl (by kernel_rfl)) (aI rfl aG) rfl))))
 ·obtain ⟨YW, Vi, h0⟩ := ob h0
  refine sk (sq (sr (s1 (aS (v := .d (eApiTable p0)) rfl (aj uE vk rfl rfl)) (c0 (Gl p0 _ Vi) wf rfl rfl rfl cb8 rfl (fun _ => rfl) (fun _ => rfl) (s1 (bi rfl rfl bA) (sn (cB h0 rfl (fun h0 => ?_) (fun h0 => ?_))))))))
  ·have q := si h0; subst q
   exact sr (sa rfl (sn (SC.ret (aV (wc (e' := [(8, .d (eB true))]) [] [] (by kernel_rfl) rfl (by kernel_rfl)) (aI rfl aG) rfl))))
  ·obtain ⟨amF, h0⟩ := gd h0; obtain ⟨⟨r92, NY, NW⟩, al5, h0⟩ := ob h0; obtain ⟨⟨Ll, Io, SX⟩, abH, h0⟩ := ob h0
   refine sk (sd (by kernel_rfl) (t1 ([0], false) (aS (v := .d (eApiTable p0)) rfl (aj uE vk rfl rfl)) rfl (t1 ([1], true) (tH (k := 1) (ds := List.map eApiValue ([] : List ApiValue)) (off := 0) (l' := ([] : List ApiValue).length) rfl fu wT rfl rfl rfl rfl rfl rfl) rfl (t1 ([], false) (mv rfl) rfl (t1 ([1, 2], true) (app rfl rfl rfl rfl bc28 (aF (f := eApiValue) (xs := ([] : List ApiValue)) (k := 2) rfl fu wT rfl AO amF rfl)) rfl (t1 ([], false) (mv rfl) rfl (t1 ([], false) (mv rfl) rfl (tq (args' := [.d (eApiTable p0), .slc 0 3 0 ((([] : List ApiValue) ++ p1).length) none, .d (eI p2), .d (eU64 p3)]) (lT := [.row 3 (List.map eApiValue (([] : List ApiValue) ++ p1)) true]) [2] [3, 4, 5] ([2, 3, 4, 5], true) (aL.lX (fM.keep (fM.lX (fF rfl rfl rfl) (fM.keep (fM.keep (fM.nil _))))) (fq [] [1, 2, 3] (Ph p0 (([] : List ApiValue) ++ p1) p2 p3 _ al5) rfl rfl rfl rfl rfl rfl rfl rfl)) wf rfl rfl rfl anB rfl rfl rfl rfl rfl rfl rfl rfl rfl (t1 ([], false) (mv rfl) rfl ?_)))))))))
   refine t1 ([], false) (ext rfl rfl) rfl (t1 ([], false) (ext rfl rfl) rfl (t1 ([6], true) (qV (k := 6) QJ rfl) rfl (t0 ([6, 4, 5], true) (fJ rfl rfl (sB (d' := .agg [.slc 4 9 0 NY.length none, .slc 5 5 0 NW.length none, .d .aA]) mh rfl rfl rfl rfl rfl rfl rfl)) rfl (t1 ([], false) (ig rfl) rfl (tn (by decide +kernel) (sr (s1 (aS (v := .d (eApiTable p0)) rfl (aj uE vk rfl rfl)) (sm rfl (sm rfl ?_)))))))))
   refine sm rfl (cq [] [7, 8, 9] (Ke p0 p1 p2 p3 _ abH) wf rfl rfl rfl anA rfl rfl rfl rfl rfl rfl rfl rfl (sm rfl (s1 (ext rfl rfl) (s1 (ext rfl rfl) (s1 (qV (k := 10) aan rfl) (s0 (fJ rfl rfl (sB (d' := .agg [.slc 8 9 0 Io.length none, .slc 9 5 0 SX.length none, .d .aA]) Bq rfl rfl rfl rfl rfl rfl rfl)) (sa rfl (sn (sq ?_)))))))))
   refine SC.bJ h0 (fun y => ⟨mk 105 [(1, .d ((eL 3 eApiValue) p1)), (2, .d (eI p2)), (3, .d (eU64 p3)), (4, .ref 0 0 0), (9, .ref 1 0 0), (10, .d (eI r92)), (48, .d (eB y))], [.box (.d (eApiTable p0)), .box (.agg [.slc 2 9 0 NY.length none, .slc 3 5 0 NW.length none, .d .aA]), .row 9 (List.map aJ NY) false, .row 5 (List.map aK NW) false]⟩) ?_ ?_
   ·intro aa0 h1
    refine SC.region (sm rfl (sm rfl (s1 (bi rfl rfl bA) (sm rfl (sp h1 (fun h1 => ?_) (fun h1 => ?_))))))
    ·have q := si h1; subst q
     exact kw rfl (kw rfl (kw rfl (kw rfl (s1 (pkt rfl rfl) (SO.nil ((Wk.trans (wq (e' := [(1, .d ((eL 3 eApiValue) p1)), (2, .d (eI p2)), (3, .d (eU64 p3)), (4, .ref 0 0 0), (9, .ref 6 0 0), (10, .d (eI r92)), (48, .d (eB true))]) rfl) (Wk.trans (fro 4 rfl rfl) (Wk.trans (fro 5 rfl rfl) (wc [0, 6, 4, 5] [0, 6] (by kernel_rfl) rfl (by kernel_rfl)))))))))))
    ·obtain ⟨Rm, agX, h1⟩ := ob h1; have q := si h1; subst q
     refine gw rfl (aS (v := .agg [.slc 4 9 0 NY.length none, .slc 5 5 0 NW.length none, .d .aA]) rfl (aj mh yh rfl rfl)) (gw rfl (aS (v := .agg [.slc 8 9 0 Io.length none, .slc 9 5 0 SX.length none, .d .aA]) rfl (aj Bq Ow rfl rfl)) (cq (args' := [.agg [.slc 0 9 0 NY.length none, .slc 1 5 0 NW.length none, .d .aA], .agg [.slc 2 9 0 Io.length none, .slc 3 5 0 SX.length none, .d .aA]]) (lT := [.row 9 (List.map aJ NY) true, .row 5 (List.map aK NW) true, .row 9 (List.map bI Io) true, .row 5 (List.map aK SX) true]) [4, 5, 8, 9] [] (aL.lX (fM.XW (y := .d (qy (zx.mk NY NW ([] : List aX)))) rfl (qw (fF rfl rfl rfl) (qw (fF rfl rfl rfl) (wM rfl Cb))) (AW.Yi rfl (dh.cons (AW.refl _) (dh.cons (AW.refl _) (dh.cons (AW.nl _) dh.nil)))) (fM.XW (y := .d (fC (iE.mk Io SX ([] : List gW)))) rfl (qw (fF rfl rfl rfl) (qw (fF rfl rfl rfl) (wM rfl Cb))) (AW.Yi rfl (dh.cons (AW.refl _) (dh.cons (AW.refl _) (dh.cons (AW.nl _) dh.nil)))) (fM.nil _))) (fq [] [] (IX (zx.mk NY NW ([] : List aX)) (iE.mk Io SX ([] : List gW)) _ agX) rfl rfl rfl rfl rfl rfl rfl rfl)) (ww rfl) rfl rfl rfl anC rfl rfl rfl rfl rfl rfl rfl rfl (gw rfl (nt rfl) (s1 (dB rfl rfl) (SO.nil ?_)))))
     exact (wc [0, 6, 4, 5] [0, 6] (by kernel_rfl) rfl (by kernel_rfl))
   ·rintro y101 h0
    refine cB h0 rfl (fun h0 => ?_) (fun h0 => ?_)
    ·have q := si h0; subst q
     exact sr (sa rfl (sn (SC.ret (aV (wc (e' := [(8, .d (eB false))]) [] [] (by kernel_rfl) rfl (by kernel_rfl)) (aI rfl aG) rfl))))
    ·refine sk (sq (sr (sm rfl (s1 (bi rfl rfl bA) (sn (cB h0 rfl (fun h0 => ?_) (fun h0 => ?_)))))))
     ·have q := si h0; subst q
      exact sr (sa rfl (sn (SC.ret (aV (wc (e' := [(8, .d (eB true))]) [] [] (by kernel_rfl) rfl (by kernel_rfl)) (aI rfl aG) rfl))))
     ·obtain ⟨v105, Z7, h0⟩ := ob h0
      obtain ⟨XB, agW, h0⟩ := ob h0
      obtain ⟨abr, agU, h0⟩ := ob h0
      obtain ⟨Q6, Z5, h0⟩ := ob h0
      obtain ⟨Rl, agT, h0⟩ := ob h0
      obtain ⟨ahq, h0⟩ := gd h0
      obtain ⟨FY, hv114, h0⟩ := ob h0
      obtain ⟨JV, hv115, h0⟩ := ob h0
      obtain ⟨aaN, hv116, h0⟩ := ob h0
      obtain ⟨abq, agQ, h0⟩ := ob h0
      obtain ⟨⟨OL, afh⟩, Vs, h0⟩ := ob h0
      refine sk (sr (s1 (l8 rfl (ait )) (s1 (nH (k := 4) rfl rfl rfl) (sa rfl (sn (sd (by kernel_rfl) (t1 ([], false) (mv rfl) rfl (t1 ([], false) (far (k := 0) rfl oh oz rfl) rfl (t1 ([1], false) (aS rfl (aj oz EX rfl rfl)) rfl ?_)))))))))
      refine t1 ([], false) (CB rfl rfl Bo Ou (fT Z7)) rfl (t1 ([], false) (far (k := 2) rfl KQ xQ rfl) rfl (t1 ([], false) (far (k := 4) rfl yQ eT rfl) rfl (t1 ([2], false) (aS rfl (gH eT jy rfl (aT (ak Z7).2) rfl)) rfl (t1 ([], false) (mv rfl) rfl (Lj (yA p1 _ agW) wf rfl rfl rfl ahY rfl (fun _ => rfl) (fun _ => rfl) (t1 ([], false) (l8 rfl (AQ (1 : Int) v105.zw.Key XB)) rfl (tq [4] [5] ([4, 5], true) (yx (bL.mk (0 : UInt64) (1 : Int) v105.zw.Key (0 : UInt64) XB (0 : Int) (0 : UInt64)) _ agU) wf rfl rfl rfl ahZ rfl rfl rfl rfl rfl rfl rfl rfl rfl (tn (by decide +kernel) (sr ?_)))))))))
      refine sm rfl (s1 (far (k := 0) rfl oh oz rfl) (s1 (aS rfl (aj oz EX rfl rfl)) (s1 (CB rfl rfl Bo Ou (fT Z5)) (s1 (far (k := 2) rfl KQ xQ rfl) (s1 (aS (v := .d (bX Q6.zw)) rfl (gH xQ CS rfl (aT (ak Z5).2) rfl)) (cq [4, 5] [6] (wC Q6.zw abr _ agT) wf rfl rfl rfl ahZ rfl rfl rfl rfl rfl rfl rfl rfl (sn (sr (s1 (tH (k := 7) (ds := List.map eApiValue ([] : List ApiValue)) (off := 0) (l' := ([] : List ApiValue).length) rfl fu wT rfl rfl rfl rfl rfl rfl) ?_)))))))))
      refine sm rfl (s1 (app rfl rfl rfl rfl bc28 (aF (f := eApiValue) (xs := ([] : List ApiValue)) (k := 8) rfl fu wT rfl AO ahq rfl)) (sa rfl (sn (sr (sm rfl (sm rfl (s1 (CB rfl rfl fu d9 (fT hv114)) (s1 (far (k := 1) rfl iK fU rfl) (s1 (aS rfl (gH fU lY rfl (aT (ak hv114).2) rfl)) ?_)))))))))
      refine sm rfl (s1 (bi rfl rfl Jq) (s1 (CB rfl rfl fu d9 (fT hv115)) (s1 (far (k := 1) rfl iK fU rfl) (s0 (fJ (b := .d (eU64 (FY.N + p3))) rfl rfl (sF (f := eApiValue) (v := (ApiValue.mk JV.Kind (FY.N + p3) JV.S)) (ds := [(eU64 (FY.N + p3))]) fU rfl rfl rfl rfl (ak hv115).2 rfl rfl rfl rfl)) (sn (sd (by kernel_rfl) (t1 ([], false) (far (k := 1) rfl jr jB rfl) rfl (t1 ([0], false) (aS rfl (aj jB vw rfl rfl)) rfl (t1 ([], false) (mv rfl) rfl ?_)))))))))
      refine t1 ([], false) (far (k := 0) rfl oh oz rfl) rfl (t1 ([1], false) (aS rfl (aj oz EX rfl rfl)) rfl (t1 ([], false) (CB rfl rfl Bo Ou (fT hv116)) rfl (t1 ([], false) (far (k := 2) rfl KQ xQ rfl) rfl (t1 ([], false) (far (k := 4) rfl yQ eT rfl) rfl (t1 ([2], false) (aS rfl (gH eT jy rfl (aT (ak hv116).2) rfl)) rfl (tq [4, 6] [9] ([4, 6, 9], true) (BG aaN.zw.Key Rl _ agQ) wf rfl rfl rfl anz rfl rfl rfl rfl rfl rfl rfl rfl rfl (t1 ([], false) (fld rfl O9 eT jy rfl rfl) rfl (Lj (zR p0.bq abq.Val _ Vs) wf rfl rfl rfl ahX rfl (fun _ => rfl) (fun _ => rfl) (t1 ([], false) (mv rfl) rfl ?_)))))))))
      refine t1 ([], false) (ext rfl rfl) rfl (t1 ([], false) (ext rfl rfl) rfl (t1 ([], false) (ig rfl) rfl (t1 ([], false) (ig rfl) rfl (tn (by decide +kernel) (SC.bJ h0 (fun y => ⟨mk 105 [(8, .d (eB y))], []⟩) ?_ ?_)))))
      ·intro alv h1
       refine SC.region (sm rfl (s1 (bi rfl rfl aP) (sm rfl (sp h1 (fun h1 => ?_) (fun h1 => ?_)))))
       ·obtain ⟨OJ, Vr, h1⟩ := ob h1; have q := si h1; subst q
        exact gw rfl (mv rfl) (gw rfl (mv rfl) (cq (args' := [.d ((eL 3 eApiValue) OL), .slc 0 3 0 ((([] : List ApiValue) ++ p1).length) none]) (lT := [.row 3 (List.map eApiValue (List.set (([] : List ApiValue) ++ p1) p2.toNat (ApiValue.mk JV.Kind (FY.N + p3) JV.S))) true]) [8] [] (aL.lX (fM.keep (fM.lX (fF (by simp) rfl rfl) (fM.nil _))) (fq [] [] (IJ OL (List.set (([] : List ApiValue) ++ p1) p2.toNat (ApiValue.mk JV.Kind (FY.N + p3) JV.S)) _ Vr) rfl rfl rfl rfl rfl rfl rfl rfl)) (ww rfl) rfl rfl rfl anx rfl rfl rfl rfl rfl rfl rfl rfl (s1 (pkt rfl rfl) (sa rfl (SO.nil ((wc [] [] (by kernel_rfl) rfl (by kernel_rfl))))))))
       ·have q := si h1; subst q
        exact kw rfl (kw rfl (kw rfl (s1 (dB rfl rfl) (sa rfl (SO.nil ((wc [] [] (by kernel_rfl) rfl (by kernel_rfl))))))))
      ·rintro LJ h0
       have q := si h0; subst q
       exact SC.ret (aV (Wk.refl _) (aI rfl aG) rfl)
end Lv
