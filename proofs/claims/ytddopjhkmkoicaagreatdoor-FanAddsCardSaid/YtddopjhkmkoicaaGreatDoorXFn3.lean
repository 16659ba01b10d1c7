/- Part of the proof of a law: functions and their walks. -/
import Derived.Test.YtddopjhkmkoicaaGreatDoorXFn2
namespace Lv
open Go Go.Proofs
set_option linter.unusedVariables false
set_option linter.unusedSimpArgs false
set_option linter.unusedSectionVars false
set_option maxRecDepth 100000
variable [BaseTab] [TabOk]
noncomputable def Ch (p0 : ApiTable) (p1 : List ApiValue) (p2 : Int) (p3 : UInt64) : Option (Int × (List au) × (List ay)) :=
 Option.bind (gM p0 p1) fun (Fb, r54) =>
 bif (r54 != (0 : Int)) then
 some (r54, ([] : List au), ([] : List ay))
 else
 Option.bind (α := Bool)
 (bif (decide (p2 < (0 : Int))) then
 some true
 else
 some (decide (p2 ≥ (p1.length : Int))))
 fun y55 =>
 bif y55 then
 some ((1 : Int), ([] : List au), ([] : List ay))
 else
 Option.bind (bF p1 p2) fun v57 =>
 Option.bind (α := Bool)
 (bif (v57.Kind != (1 : Int)) then
 some (v57.Kind != (2 : Int))
 else
 some false)
 fun Yy =>
 bif Yy then
 some ((8 : Int), ([] : List au), ([] : List ay))
 else
 Option.bind (cK p0.aY p2) fun r61 =>
 Option.bind (α := Bool)
 (bif r61 then
 some true
 else
 Option.bind (dY p0.bB p2) fun r67 =>
 some r67)
 fun WK =>
 bif WK then
 some ((11 : Int), ([] : List au), ([] : List ay))
 else
 Option.bind (mP p0.bq p1) fun (r69, r70) =>
 Option.bind (rz p0.bq r69 p2) fun (r72, r73) =>
 bif (r73 != (0 : Int)) then
 some (r73, ([] : List au), ([] : List ay))
 else
 Option.bind (lQ p0.Tree Fb) fun _ =>
 Option.bind (jE p0.Tree (bL.mk (0 : UInt64) (3 : Int) Fb (0 : UInt64) ([] : List UInt8) r72 p3) [(ay.mk p0.Tree (aU.mk Fb (Fb ++ ([0] : List UInt8)) false) true)]) fun _ =>
 some ((0 : Int), [(au.mk (1 : Int) p0.Tree (bL.mk (0 : UInt64) (3 : Int) Fb (0 : UInt64) ([] : List UInt8) r72 p3))], [(ay.mk p0.Tree (aU.mk Fb (Fb ++ ([0] : List UInt8)) false) true)])
theorem Ph (p0 : ApiTable) (p1 : List ApiValue) (p2 : Int) (p3 : UInt64) (r : Int × (List au) × (List ay)) (h0 : Ch p0 p1 p2 p3 = some r) : aL Tryz.prog 15 [.d (eApiTable p0), .d ((eL 3 eApiValue) p1), .d (eI p2), .d (eU64 p3)] [] (.tuple [.agg [.slc 1 9 0 r.2.1.length none, .slc 2 5 0 r.2.2.length none, .d .aA], .d (eI r.1)]) [.box (.agg [.slc 1 9 0 r.2.1.length none, .slc 2 5 0 r.2.2.length none, .d .aA]), .row 9 (List.map aJ r.2.1) true, .row 5 (List.map aK r.2.2) true] := by
 unfold Ch at h0
 refine fn0 [0, 1, 2, 3] Tryz.func15 rfl rfl rfl rfl rfl ?_
 obtain ⟨⟨Fb, r54⟩, amh, h0⟩ := ob h0
 refine sr (s1 (nH (k := 0) rfl rfl rfl) (s1 (nH (k := 1) rfl rfl rfl) (s1 (qV (k := 2) QJ rfl) (sa rfl (sn (sr (s1 (aS (v := .d (eApiTable p0)) rfl (aj uE vk rfl rfl)) (sm rfl (c0 (nN p0 p1 _ amh) wf rfl rfl rfl acT rfl (fun _ => rfl) (fun _ => rfl) ?_)))))))))
 refine sm rfl (s1 (ext rfl rfl) (s1 (ext rfl rfl) (sa rfl (sa rfl (sn (sq (sr (sm rfl (s1 (bi rfl rfl bA) ?_)))))))))
 refine sn (cB h0 rfl (fun h0 => ?_) (fun h0 => ?_))
 ·have q := si h0; subst q
  exact sr (s1 (l8 rfl (Aa )) (sm rfl (s0 (fJ rfl rfl (sB (d' := .d (.agg [.aA, .aA, .aA])) mh rfl rfl rfl rfl rfl rfl rfl)) (sa rfl (sn (SC.ret (aV (Wk.trans (Wk.dD (σ' := [.box (.d (eApiTable p0)), .box (.d (eI p2)), .box (.d (.agg [.aA, .aA, .aA])), .row 9 (List.map aJ ([] : List au)) true]) (.row 9 [] true) (fun _ hh => by cases hh) rfl) (Wk.trans (Wk.jh (id := 2) (y := .agg [.slc 3 9 0 (([] : List au).length) none, .d .aA, .d .aA]) (σ' := [.box (.d (eApiTable p0)), .box (.d (eI p2)), .box (.agg [.slc 3 9 0 (([] : List au).length) none, .d .aA, .d .aA]), .row 9 (List.map aJ ([] : List au)) true]) rfl (dh.cons (AW.dX _ _ _) (dh.cons (AW.refl _) (dh.cons (AW.refl _) dh.nil))) rfl) (Wk.trans (Wk.dD (σ' := [.box (.d (eApiTable p0)), .box (.d (eI p2)), .box (.agg [.slc 3 9 0 (([] : List au).length) none, .d .aA, .d .aA]), .row 9 (List.map aJ ([] : List au)) true, .row 5 (List.map aK ([] : List ay)) true]) (.row 5 [] true) (fun _ hh => by cases hh) rfl) (Wk.trans (Wk.jh (id := 2) (y := .agg [.slc 3 9 0 (([] : List au).length) none, .slc 4 5 0 (([] : List ay).length) none, .d .aA]) (σ' := [.box (.d (eApiTable p0)), .box (.d (eI p2)), .box (.agg [.slc 3 9 0 (([] : List au).length) none, .slc 4 5 0 (([] : List ay).length) none, .d .aA]), .row 9 (List.map aJ ([] : List au)) true, .row 5 (List.map aK ([] : List ay)) true]) rfl (dh.cons (AW.refl _) (dh.cons (AW.dX _ _ _) (dh.cons (AW.refl _) dh.nil))) rfl) (wc (e' := [(8, .ref 0 0 0), (9, .d (eI r54))]) [2, 3, 4] [2] (by kernel_rfl) rfl (by kernel_rfl)))))) (gD rfl (aj mh yh rfl rfl) (aI rfl aG)) rfl)))))))
 ·refine sk (sq (SC.bJ h0 (fun y => ⟨mk 92 [(1, .d ((eL 3 eApiValue) p1)), (3, .d (eU64 p3)), (4, .ref 0 0 0), (6, .ref 1 0 0), (8, .ref 2 0 0), (10, .d (eS Fb)), (35, .d (eB y))], [.box (.d (eApiTable p0)), .box (.d (eI p2)), .box (.d (.agg [.aA, .aA, .aA]))]⟩) ?_ ?_))
  ·intro anW h1
   refine SC.region (s1 (aS rfl (aj bO dW rfl rfl)) (s1 (bi rfl rfl aQ) (sm rfl (sp h1 (fun h1 => ?_) (fun h1 => ?_)))))
   ·have q := si h1; subst q
    exact kw rfl (kw rfl (kw rfl (kw rfl (s1 (pkt rfl rfl) (SO.nil ((wq rfl)))))))
   ·have q := si h1; subst q
    exact gw rfl (aS rfl (aj bO dW rfl rfl)) (gw rfl (mv rfl) (gw rfl (len rfl rfl rfl (aZ fu)) (gw rfl (bi rfl rfl dU) (s1 (dB rfl rfl) (SO.nil ((wq rfl)))))))
  ·rintro y55 h0
   refine cB h0 rfl (fun h0 => ?_) (fun h0 => ?_)
   ·have q := si h0; subst q
    exact sr (s1 (l8 rfl (Aa )) (s0 (fJ rfl rfl (sB (d' := .d (.agg [.aA, .aA, .aA])) mh rfl rfl rfl rfl rfl rfl rfl)) (sa rfl (sn (SC.ret (aV (Wk.trans (Wk.dD (σ' := [.box (.d (eApiTable p0)), .box (.d (eI p2)), .box (.d (.agg [.aA, .aA, .aA])), .row 9 (List.map aJ ([] : List au)) true]) (.row 9 [] true) (fun _ hh => by cases hh) rfl) (Wk.trans (Wk.jh (id := 2) (y := .agg [.slc 3 9 0 (([] : List au).length) none, .d .aA, .d .aA]) (σ' := [.box (.d (eApiTable p0)), .box (.d (eI p2)), .box (.agg [.slc 3 9 0 (([] : List au).length) none, .d .aA, .d .aA]), .row 9 (List.map aJ ([] : List au)) true]) rfl (dh.cons (AW.dX _ _ _) (dh.cons (AW.refl _) (dh.cons (AW.refl _) dh.nil))) rfl) (Wk.trans (Wk.dD (σ' := [.box (.d (eApiTable p0)), .box (.d (eI p2)), .box (.agg [.slc 3 9 0 (([] : List au).length) none, .d .aA, .d .aA]), .row 9 (List.map aJ ([] : List au)) true, .row 5 (List.map aK ([] : List ay)) true]) (.row 5 [] true) (fun _ hh => by cases hh) rfl) (Wk.trans (Wk.jh (id := 2) (y := .agg [.slc 3 9 0 (([] : List au).length) none, .slc 4 5 0 (([] : List ay).length) none, .d .aA]) (σ' := [.box (.d (eApiTable p0)), .box (.d (eI p2)), .box (.agg [.slc 3 9 0 (([] : List au).length) none, .slc 4 5 0 (([] : List ay).length) none, .d .aA]), .row 9 (List.map aJ ([] : List au)) true, .row 5 (List.map aK ([] : List ay)) true]) rfl (dh.cons (AW.refl _) (dh.cons (AW.dX _ _ _) (dh.cons (AW.refl _) dh.nil))) rfl) (wc (e' := [(8, .ref 0 0 0), (9, .d (eI (1 : Int)))]) [2, 3, 4] [2] (by kernel_rfl) rfl (by kernel_rfl)))))) (gD rfl (aj mh yh rfl rfl) (aI rfl aG)) rfl))))))
   ·obtain ⟨v57, afv, h0⟩ := ob h0
    refine sk (sq (sr (sm rfl (s1 (aS rfl (aj bO dW rfl rfl)) (s1 (j4 rfl rfl fu d9 (ak afv).1 (aT (ak afv).2) rfl) (s1 (fap rfl fH bO rfl) (s1 (aS rfl (bK bO dW rfl)) (sa rfl (sn ?_)))))))))
    refine SC.bJ h0 (fun y => ⟨mk 92 [(1, .d ((eL 3 eApiValue) p1)), (3, .d (eU64 p3)), (4, .ref 0 0 0), (6, .ref 1 0 0), (8, .ref 2 0 0), (10, .d (eS Fb)), (47, .d (eB y))], [.box (.d (eApiTable p0)), .box (.d (eI p2)), .box (.d (.agg [.aA, .aA, .aA]))]⟩) ?_ ?_
    ·intro L6 h1
     refine SC.region (sm rfl (s1 (bi rfl rfl bA) (sm rfl (sp h1 (fun h1 => ?_) (fun h1 => ?_)))))
     ·have q := si h1; subst q
      exact gw rfl (mv rfl) (gw rfl (bi rfl rfl bA) (s1 (pkt rfl rfl) (SO.nil ((wq rfl)))))
     ·have q := si h1; subst q
      exact kw rfl (kw rfl (s1 (dB rfl rfl) (SO.nil ((wq rfl)))))
    ·rintro Yy h0
     refine cB h0 rfl (fun h0 => ?_) (fun h0 => ?_)
     ·have q := si h0; subst q
      exact sr (s1 (l8 rfl (Aa )) (s0 (fJ rfl rfl (sB (d' := .d (.agg [.aA, .aA, .aA])) mh rfl rfl rfl rfl rfl rfl rfl)) (sa rfl (sn (SC.ret (aV (Wk.trans (Wk.dD (σ' := [.box (.d (eApiTable p0)), .box (.d (eI p2)), .box (.d (.agg [.aA, .aA, .aA])), .row 9 (List.map aJ ([] : List au)) true]) (.row 9 [] true) (fun _ hh => by cases hh) rfl) (Wk.trans (Wk.jh (id := 2) (y := .agg [.slc 3 9 0 (([] : List au).length) none, .d .aA, .d .aA]) (σ' := [.box (.d (eApiTable p0)), .box (.d (eI p2)), .box (.agg [.slc 3 9 0 (([] : List au).length) none, .d .aA, .d .aA]), .row 9 (List.map aJ ([] : List au)) true]) rfl (dh.cons (AW.dX _ _ _) (dh.cons (AW.refl _) (dh.cons (AW.refl _) dh.nil))) rfl) (Wk.trans (Wk.dD (σ' := [.box (.d (eApiTable p0)), .box (.d (eI p2)), .box (.agg [.slc 3 9 0 (([] : List au).length) none, .d .aA, .d .aA]), .row 9 (List.map aJ ([] : List au)) true, .row 5 (List.map aK ([] : List ay)) true]) (.row 5 [] true) (fun _ hh => by cases hh) rfl) (Wk.trans (Wk.jh (id := 2) (y := .agg [.slc 3 9 0 (([] : List au).length) none, .slc 4 5 0 (([] : List ay).length) none, .d .aA]) (σ' := [.box (.d (eApiTable p0)), .box (.d (eI p2)), .box (.agg [.slc 3 9 0 (([] : List au).length) none, .slc 4 5 0 (([] : List ay).length) none, .d .aA]), .row 9 (List.map aJ ([] : List au)) true, .row 5 (List.map aK ([] : List ay)) true]) rfl (dh.cons (AW.refl _) (dh.cons (AW.dX _ _ _) (dh.cons (AW.refl _) dh.nil))) rfl) (wc (e' := [(8, .ref 0 0 0), (9, .d (eI (8 : Int)))]) [2, 3, 4] [2] (by kernel_rfl) rfl (by kernel_rfl)))))) (gD rfl (aj mh yh rfl rfl) (aI rfl aG)) rfl))))))
     ·obtain ⟨r61, abO, h0⟩ := ob h0
      refine sk (sr (s1 (far (k := 3) rfl sH sZ rfl) (s1 (aS rfl (aj sZ Iw rfl rfl)) (s1 (mkf rfl rfl) (cq [1] [] (jG p0.aY p2 _ abO) wf rfl rfl rfl anm rfl rfl rfl rfl rfl rfl rfl rfl (sa rfl (sn (sq (SC.bJ h0 (fun y => ⟨mk 92 [(1, .d ((eL 3 eApiValue) p1)), (3, .d (eU64 p3)), (4, .ref 0 0 0), (6, .ref 1 0 0), (8, .ref 2 0 0), (10, .d (eS Fb)), (59, .d (eB y))], [.box (.d (eApiTable p0)), .box (.d (eI p2)), .box (.d (.agg [.aA, .aA, .aA]))]⟩) ?_ ?_)))))))))
      ·intro aex h1
       refine SC.region (sm rfl (sm rfl (sp h1 (fun h1 => ?_) (fun h1 => ?_))))
       ·have q := si h1; subst q
        exact kw rfl (kw rfl (kw rfl (kw rfl (s1 (pkt rfl rfl) (SO.nil ((wq rfl)))))))
       ·obtain ⟨r67, abN, h1⟩ := ob h1; have q := si h1; subst q
        exact gw rfl (far (k := 2) rfl sI jA rfl) (gw rfl (aS rfl (aj jA vo rfl rfl)) (gw rfl (aS rfl (aj bO dW rfl rfl)) (c0 (kL p0.bB p2 _ abN) (ww rfl) rfl rfl rfl ahS rfl (fun _ => rfl) (fun _ => rfl) (s1 (dB rfl rfl) (SO.nil ((wq rfl)))))))
      ·rintro WK h0
       refine cB h0 rfl (fun h0 => ?_) (fun h0 => ?_)
       ·have q := si h0; subst q
        exact sr (s1 (l8 rfl (Aa )) (s0 (fJ rfl rfl (sB (d' := .d (.agg [.aA, .aA, .aA])) mh rfl rfl rfl rfl rfl rfl rfl)) (sa rfl (sn (SC.ret (aV (Wk.trans (Wk.dD (σ' := [.box (.d (eApiTable p0)), .box (.d (eI p2)), .box (.d (.agg [.aA, .aA, .aA])), .row 9 (List.map aJ ([] : List au)) true]) (.row 9 [] true) (fun _ hh => by cases hh) rfl) (Wk.trans (Wk.jh (id := 2) (y := .agg [.slc 3 9 0 (([] : List au).length) none, .d .aA, .d .aA]) (σ' := [.box (.d (eApiTable p0)), .box (.d (eI p2)), .box (.agg [.slc 3 9 0 (([] : List au).length) none, .d .aA, .d .aA]), .row 9 (List.map aJ ([] : List au)) true]) rfl (dh.cons (AW.dX _ _ _) (dh.cons (AW.refl _) (dh.cons (AW.refl _) dh.nil))) rfl) (Wk.trans (Wk.dD (σ' := [.box (.d (eApiTable p0)), .box (.d (eI p2)), .box (.agg [.slc 3 9 0 (([] : List au).length) none, .d .aA, .d .aA]), .row 9 (List.map aJ ([] : List au)) true, .row 5 (List.map aK ([] : List ay)) true]) (.row 5 [] true) (fun _ hh => by cases hh) rfl) (Wk.trans (Wk.jh (id := 2) (y := .agg [.slc 3 9 0 (([] : List au).length) none, .slc 4 5 0 (([] : List ay).length) none, .d .aA]) (σ' := [.box (.d (eApiTable p0)), .box (.d (eI p2)), .box (.agg [.slc 3 9 0 (([] : List au).length) none, .slc 4 5 0 (([] : List ay).length) none, .d .aA]), .row 9 (List.map aJ ([] : List au)) true, .row 5 (List.map aK ([] : List ay)) true]) rfl (dh.cons (AW.refl _) (dh.cons (AW.dX _ _ _) (dh.cons (AW.refl _) dh.nil))) rfl) (wc (e' := [(8, .ref 0 0 0), (9, .d (eI (11 : Int)))]) [2, 3, 4] [2] (by kernel_rfl) rfl (by kernel_rfl)))))) (gD rfl (aj mh yh rfl rfl) (aI rfl aG)) rfl))))))
       ·obtain ⟨⟨r69, r70⟩, ama, h0⟩ := ob h0; obtain ⟨⟨r72, r73⟩, al8, h0⟩ := ob h0
        refine sk (sr (s1 (far (k := 1) rfl jr jB rfl) (s1 (aS rfl (aj jB vw rfl rfl)) (sm rfl (c0 (uG p0.bq p1 _ ama) wf rfl rfl rfl acU rfl (fun _ => rfl) (fun _ => rfl) (sm rfl (s1 (ext rfl rfl) (s1 (ext rfl rfl) (sa rfl ?_)))))))))
        refine sa rfl (sn (sr (s1 (far (k := 1) rfl jr jB rfl) (s1 (aS rfl (aj jB vw rfl rfl)) (sm rfl (s1 (aS rfl (aj bO dW rfl rfl)) (c0 (Ka p0.bq r69 p2 _ al8) wf rfl rfl rfl ani rfl (fun _ => rfl) (fun _ => rfl) (sm rfl (s1 (ext rfl rfl) ?_)))))))))
        refine s1 (ext rfl rfl) (sa rfl (sa rfl (sn (sq (sr (sm rfl (s1 (bi rfl rfl bA) (sn (cB h0 rfl (fun h0 => ?_) (fun h0 => ?_))))))))))
        ·have q := si h0; subst q
         exact sr (s1 (l8 rfl (Aa )) (sm rfl (s0 (fJ rfl rfl (sB (d' := .d (.agg [.aA, .aA, .aA])) mh rfl rfl rfl rfl rfl rfl rfl)) (sa rfl (sn (SC.ret (aV (Wk.trans (Wk.dD (σ' := [.box (.d (eApiTable p0)), .box (.d (eI p2)), .box (.d (.agg [.aA, .aA, .aA])), .row 9 (List.map aJ ([] : List au)) true]) (.row 9 [] true) (fun _ hh => by cases hh) rfl) (Wk.trans (Wk.jh (id := 2) (y := .agg [.slc 3 9 0 (([] : List au).length) none, .d .aA, .d .aA]) (σ' := [.box (.d (eApiTable p0)), .box (.d (eI p2)), .box (.agg [.slc 3 9 0 (([] : List au).length) none, .d .aA, .d .aA]), .row 9 (List.map aJ ([] : List au)) true]) rfl (dh.cons (AW.dX _ _ _) (dh.cons (AW.refl _) (dh.cons (AW.refl _) dh.nil))) rfl) (Wk.trans (Wk.dD (σ' := [.box (.d (eApiTable p0)), .box (.d (eI p2)), .box (.agg [.slc 3 9 0 (([] : List au).length) none, .d .aA, .d .aA]), .row 9 (List.map aJ ([] : List au)) true, .row 5 (List.map aK ([] : List ay)) true]) (.row 5 [] true) (fun _ hh => by cases hh) rfl) (Wk.trans (Wk.jh (id := 2) (y := .agg [.slc 3 9 0 (([] : List au).length) none, .slc 4 5 0 (([] : List ay).length) none, .d .aA]) (σ' := [.box (.d (eApiTable p0)), .box (.d (eI p2)), .box (.agg [.slc 3 9 0 (([] : List au).length) none, .slc 4 5 0 (([] : List ay).length) none, .d .aA]), .row 9 (List.map aJ ([] : List au)) true, .row 5 (List.map aK ([] : List ay)) true]) rfl (dh.cons (AW.refl _) (dh.cons (AW.dX _ _ _) (dh.cons (AW.refl _) dh.nil))) rfl) (wc (e' := [(8, .ref 0 0 0), (9, .d (eI r73))]) [2, 3, 4] [2] (by kernel_rfl) rfl (by kernel_rfl)))))) (gD rfl (aj mh yh rfl rfl) (aI rfl aG)) rfl)))))))
        ·obtain ⟨_, abM, h0⟩ := ob h0; obtain ⟨_, abL, h0⟩ := ob h0; have q := si h0; subst q
         refine sk (sr (s1 (qV (k := 3) QJ rfl) (sn (sr (s1 (far (k := 4) rfl AA bO rfl) (s1 (aS rfl (aj bO dW rfl rfl)) (sm rfl (cq [3] [4] (xJ p0.Tree Fb _ abM) wf rfl rfl rfl acV rfl rfl rfl rfl rfl rfl rfl rfl (sn ?_)))))))))
         refine sr (s1 (far (k := 4) rfl AA bO rfl) (s1 (aS rfl (aj bO dW rfl rfl)) (sm rfl (sm rfl (sm rfl (s1 (l8 rfl (Cr (3 : Int) Fb r72 p3)) (cq [3, 4] [5] (sK p0.Tree (bL.mk (0 : UInt64) (3 : Int) Fb (0 : UInt64) ([] : List UInt8) r72 p3) [(ay.mk p0.Tree (aU.mk Fb (Fb ++ ([0] : List UInt8)) false) true)] _ abL) wf rfl rfl rfl Yc rfl rfl rfl rfl rfl rfl rfl rfl (sn (sr ?_)))))))))
         exact s1 (aS (v := .agg [.slc 5 9 0 ([(au.mk (1 : Int) p0.Tree (bL.mk (0 : UInt64) (3 : Int) Fb (0 : UInt64) ([] : List UInt8) r72 p3))].length) none, .slc 4 5 0 ([(ay.mk p0.Tree (aU.mk Fb (Fb ++ ([0] : List UInt8)) false) true)].length) none, .d .aA]) rfl (aj mh yh rfl rfl)) (s0 (fJ rfl rfl (sB (d' := .agg [.slc 5 9 0 ([(au.mk (1 : Int) p0.Tree (bL.mk (0 : UInt64) (3 : Int) Fb (0 : UInt64) ([] : List UInt8) r72 p3))].length) none, .slc 4 5 0 ([(ay.mk p0.Tree (aU.mk Fb (Fb ++ ([0] : List UInt8)) false) true)].length) none, .d .aA]) mh rfl rfl rfl rfl rfl rfl rfl)) (sa rfl (sn (SC.ret (aV (wc (e' := [(8, .ref 0 0 0), (9, .d (eI (0 : Int)))]) [2, 5, 4] [2] (by kernel_rfl) rfl (by kernel_rfl)) (gD rfl (aj mh yh rfl rfl) (aI rfl aG)) rfl)))))
noncomputable def jY (p0 : List ApiColumn) : Option Bool :=
 Option.bind (α := Bool)
 (bif (decide ((p0.length : Int) < (1 : Int))) then
 some true
 else
 some (decide ((p0.length : Int) > (24 : Int))))
 fun WK =>
 bif WK then
 some false
 else
 eH (Y := Unit) (E := Bool)
 (Option.bind (α := Unit ⊕ Bool)
 (loop (Y := Int) (W := Unit ⊕ Bool) (fun y84 =>
 bif (decide (y84 < (p0.length : Int))) then
 Option.bind (bF p0 y84) fun v91 =>
 Option.bind (lD v91) fun NY =>
 bif (NY != (0 : Int)) then
 some (Sum.inr (Sum.inr false))
 else
 some (Sum.inl (bD (y84 + (1 : Int))))
 else
 some (Sum.inr (Sum.inl ()))) (0 : Int))
 (Sum.elim (fun e => some (Sum.inl e)) (fun e => some (Sum.inr e))))
 (fun _ =>
 some true)
 (fun e => some e)
theorem vK (p0 : List ApiColumn) (r : Bool) (h0 : jY p0 = some r) : aL Tryz.prog 72 [.d ((eL 7 eApiColumn) p0)] [] (.d (eB r)) [] := by
 unfold jY at h0
 refine fn0 [0] Tryz.func72 rfl rfl rfl rfl rfl ?_
 refine sr (sa rfl (sn (sq (SC.bJ h0 (fun y => ⟨mk 24 [(0, .d ((eL 7 eApiColumn) p0)), (11, .d (eB y))], []⟩) ?_ ?_))))
 ·intro aex h1
  refine SC.region (sm rfl (s1 (len rfl rfl rfl (aZ iF)) (s1 (bi rfl rfl aQ) (sm rfl (sp h1 (fun h1 => ?_) (fun h1 => ?_))))))
  ·have q := si h1; subst q
   exact kw rfl (kw rfl (kw rfl (s1 (pkt rfl rfl) (SO.nil ((wq rfl))))))
  ·have q := si h1; subst q
   exact gw rfl (mv rfl) (gw rfl (len rfl rfl rfl (aZ iF)) (gw rfl (bi rfl rfl bP) (s1 (dB rfl rfl) (SO.nil ((wq rfl))))))
 ·rintro WK h0
  refine cB h0 rfl (fun h0 => ?_) (fun h0 => ?_)
  ·have q := si h0; subst q
   exact sr (sa rfl (sn (SC.ret (aV (Wk.refl _) (aI rfl aG) rfl))))
  ·refine sk (SC.seqB h0 (fun y => ⟨mk 24 [], []⟩) ?_ ?_)
   ·intro anS h1 h0
    obtain ⟨anI, h2, h1⟩ := ob h1
    refine sr (sa rfl (sn (SC.blk (SC.dH h2 (fun y => ⟨mk 24 [(0, .d ((eL 7 eApiColumn) p0)), (3, .d (eI y))], []⟩) (wq rfl) ?_))))
    intro n94
    rintro y84 anG h3 hv3
    refine sq (sr (sm rfl (sm rfl (s1 (len rfl rfl rfl (aZ iF)) (s1 (bi rfl rfl aQ) (sn (cB h3 rfl (fun h3 => ?_) (fun h3 => ?_))))))))
    ·obtain ⟨v91, hv91, h3⟩ := ob h3; obtain ⟨NY, al4, h3⟩ := ob h3
     refine sk (sq (SC.blk (sr (sm rfl (sm rfl (s1 (j4 rfl rfl iF jl (ak hv91).1 (aT (ak hv91).2) rfl) (s1 (aS (v := .d (eApiColumn v91)) rfl (bK jl yg rfl)) (c0 (xA v91 _ al4) wf rfl rfl rfl ahW rfl (fun _ => rfl) (fun _ => rfl) (s1 (bi rfl rfl bA) ?_)))))))))
     refine sn (cB h3 rfl (fun h3 => ?_) (fun h3 => ?_))
     ·have q := si h3; subst q; have q : _ = _ := hv3; subst q; have q := si h1; subst q; have q := si h0; subst q
      exact sr (sa rfl (sn (SC.ret (aV (Wk.refl _) (aI rfl aG) rfl))))
     ·refine SC.skip ?_
      change SC _ _ _ _ _
      have q := si h3; subst q
      exact SC.region (sm rfl (s1 (bi rfl rfl aR) (sa rfl (SO.nil (lf (wq rfl))))))
    ·have q := si h3; subst q; have q : _ = _ := hv3; subst q; have q := si h1; subst q
     exact SC.exit (lf (wq rfl))
   ·intro _ h0
    have q := si h0; subst q
    exact sr (sa rfl (sn (SC.ret (aV (Wk.refl _) (aI rfl aG) rfl))))
noncomputable def rT (p0 : List ApiColumn) (p1 : List ApiValue) : Option Int :=
 Option.bind (α := Bool)
 (Option.bind (jY p0) fun YW =>
 bif (!YW) then
 some true
 else
 some ((p1.length : Int) != (p0.length : Int)))
 fun QK =>
 bif QK then
 some (1 : Int)
 else
 eH (Y := Unit) (E := Int)
 (Option.bind (α := Unit ⊕ Int)
 (loop (Y := Int) (W := Unit ⊕ Int) (fun y112 =>
 bif (decide (y112 < (p1.length : Int))) then
 Option.bind (bF p0 y112) fun FX =>
 Option.bind (bF p1 y112) fun JU =>
 Option.bind (mW FX JU) fun Fh =>
 bif (Fh != (0 : Int)) then
 some (Sum.inr (Sum.inr Fh))
 else
 some (Sum.inl (bD (y112 + (1 : Int))))
 else
 some (Sum.inr (Sum.inl ()))) (0 : Int))
 (Sum.elim (fun e => some (Sum.inl e)) (fun e => some (Sum.inr e))))
 (fun _ =>
 some (0 : Int))
 (fun e => some e)
theorem Iz (p0 : List ApiColumn) (p1 : List ApiValue) (r : Int) (h0 : rT p0 p1 = some r) : aL Tryz.prog 36 [.d ((eL 7 eApiColumn) p0), .d ((eL 3 eApiValue) p1)] [] (.d (eI r)) [] := by
 unfold rT at h0
 refine fn0 [0, 1] Tryz.func36 rfl rfl rfl rfl rfl ?_
 refine sr (sa rfl (sn (sq (SC.bJ h0 (fun y => ⟨mk 35 [(0, .d ((eL 7 eApiColumn) p0)), (1, .d ((eL 3 eApiValue) p1)), (16, .d (eB y))], []⟩) ?_ ?_))))
 ·intro Ua h1
  obtain ⟨YW, Vi, h1⟩ := ob h1
  refine SC.region (sm rfl (c0 (vK p0 _ Vi) wf rfl rfl rfl ahK rfl (fun _ => rfl) (fun _ => rfl) (s1 (nt rfl) (sm rfl (sp h1 (fun h1 => ?_) (fun h1 => ?_))))))
  ·have q := si h1; subst q
   exact kw rfl (kw rfl (kw rfl (kw rfl (kw rfl (s1 (pkt rfl rfl) (SO.nil ((wq rfl))))))))
  ·have q := si h1; subst q
   exact gw rfl (mv rfl) (gw rfl (len rfl rfl rfl (aZ fu)) (gw rfl (mv rfl) (gw rfl (len rfl rfl rfl (aZ iF)) (gw rfl (bi rfl rfl bA) (s1 (dB rfl rfl) (SO.nil ((wq rfl))))))))
 ·rintro QK h0
  refine cB h0 rfl (fun h0 => ?_) (fun h0 => ?_)
  ·have q := si h0; subst q
   exact sr (sa rfl (sn (SC.ret (aV (Wk.refl _) (aI rfl aG) rfl))))
  ·refine sk (SC.seqB h0 (fun y => ⟨mk 35 [], []⟩) ?_ ?_)
   ·intro aaZ h1 h0
    obtain ⟨aaT, h2, h1⟩ := ob h1
    refine sr (sa rfl (sn (SC.blk (SC.dH h2 (fun y => ⟨mk 35 [(0, .d ((eL 7 eApiColumn) p0)), (1, .d ((eL 3 eApiValue) p1)), (5, .d (eI y))], []⟩) (wq rfl) ?_))))
    intro n124
    rintro y112 aaG h3 hv3
    refine sq (sr (sm rfl (sm rfl (s1 (len rfl rfl rfl (aZ fu)) (s1 (bi rfl rfl aQ) (sn (cB h3 rfl (fun h3 => ?_) (fun h3 => ?_))))))))
    ·obtain ⟨FX, M4, h3⟩ := ob h3; obtain ⟨JU, M0, h3⟩ := ob h3; obtain ⟨Fh, M8, h3⟩ := ob h3
     refine sk (sq (SC.blk (sd (by kernel_rfl) (t1 ([], false) (mv rfl) rfl (t1 ([], false) (mv rfl) rfl (t1 ([], false) (j4 rfl rfl iF jl (ak M4).1 (aT (ak M4).2) rfl) rfl (t1 ([], false) (aS (v := .d (eApiColumn FX)) rfl (bK jl yg rfl)) rfl (t1 ([], false) (mv rfl) rfl (t1 ([], false) (mv rfl) rfl ?_)))))))))
     refine t1 ([], false) (j4 rfl rfl fu d9 (ak M0).1 (aT (ak M0).2) rfl) rfl (t1 ([], false) (aS (v := .d (eApiValue JU)) rfl (bK d9 kD rfl)) rfl (Lj (uN FX JU _ M8) wf rfl rfl rfl acP rfl (fun _ => rfl) (fun _ => rfl) (t1 ([], false) (ig rfl) rfl (tn (by decide +kernel) (sr (sm rfl (s1 (bi rfl rfl bA) (sn (cB h3 rfl (fun h3 => ?_) (fun h3 => ?_))))))))))
     ·have q := si h3; subst q; have q : _ = _ := hv3; subst q; have q := si h1; subst q; have q := si h0; subst q
      exact sr (sm rfl (sa rfl (sn (SC.ret (aV (Wk.refl _) (aI rfl aG) rfl)))))
     ·refine SC.skip ?_
      change SC _ _ _ _ _
      have q := si h3; subst q
      exact SC.region (sm rfl (s1 (bi rfl rfl aR) (sa rfl (SO.nil (lf (wq rfl))))))
    ·have q := si h3; subst q; have q : _ = _ := hv3; subst q; have q := si h1; subst q
     exact SC.exit (lf (wq rfl))
   ·intro _ h0
    have q := si h0; subst q
    exact sr (sa rfl (sn (SC.ret (aV (Wk.refl _) (aI rfl aG) rfl))))
noncomputable def iB (p0 : UInt64) (p1 : Int) : Option ((List UInt8)) :=
 Option.bind (α := (List UInt8))
 (loop (Y := Int × (List UInt8)) (W := (List UInt8)) (fun (wX, y31) =>
 bif (decide (wX ≥ (0 : Int))) then
 bif decide (0 ≤ (bD ((8 : Int) * wX))) then
 bif decide ((y31.length + [((bZ p0 ((bD ((8 : Int) * wX)).toNat)).toUInt8)].length) * 1 ≤ room) then
 some (Sum.inl ((bD (wX - (1 : Int))), (y31 ++ [((bZ p0 ((bD ((8 : Int) * wX)).toNat)).toUInt8)])))
 else none
 else none
 else
 some (Sum.inr y31)) ((bD (p1 - (1 : Int))), ([] : List UInt8)))
 (fun e => some e)
theorem oO (p0 : UInt64) (p1 : Int) (r : (List UInt8)) (h0 : iB p0 p1 = some r) : aL Tryz.prog 57 [.ref 0 0 0, .d (eU64 p0), .d (eI p1)] [.box (.d (.agg [.aA]))] (.tuple []) [.box (.agg [.slc 1 1 0 r.length none]), .row 1 (List.map bR r) true] := by
 unfold iB at h0
 refine fn0 [0, 1, 2] Tryz.func57 rfl rfl rfl rfl rfl ?_
 obtain ⟨Ud, h1, h0⟩ := ob h0
 refine sr (sm rfl (s1 (bi rfl rfl fD) (sa rfl (sn (SC.blk (SC.dH h1 (fun y => ⟨mk 27 [(0, .ref 0 0 0), (1, .d (eU64 p0)), (6, .d (eI y.1))], [.box (.agg [.slc 1 1 0 y.2.length none]), .row 1 (List.map bR y.2) true]⟩) (Wk.trans (Wk.dD (σ' := [.box (.d (.agg [.aA])), .row 1 (List.map bR ([] : List UInt8)) true]) (.row 1 [] true) (fun _ hh => by cases hh) rfl) (Wk.trans (Wk.jh (id := 0) (y := .agg [.slc 1 1 0 (([] : List UInt8).length) none]) (σ' := [.box (.agg [.slc 1 1 0 (([] : List UInt8).length) none]), .row 1 (List.map bR ([] : List UInt8)) true]) rfl (dh.cons (AW.dX _ _ _) dh.nil) rfl) (wq rfl))) ?_))))))
 intro n40
 rintro ⟨wX, y31⟩ ad7 h2 hv2
 refine sq (sr (sm rfl (s1 (bi rfl rfl dU) (sn (cB h2 rfl (fun h2 => ?_) (fun h2 => ?_))))))
 ·obtain ⟨ach, h2⟩ := gd h2; obtain ⟨acg, h2⟩ := gd h2
  refine sk (sq (SC.blk (SC.draws (by kernel_rfl) (t1 ([], false) (mv rfl) rfl (t1 ([], false) (mv rfl) rfl (t1 ([], false) (gJ rfl) rfl (t1 ([], false) (far (k := 0) rfl jP bS rfl) rfl (t1 ([0], false) (aS rfl (aj bS gL rfl rfl)) rfl (t1 ([], false) (mv rfl) rfl ?_)))))))))
  refine t1 ([], false) (mv rfl) rfl (t1 ([], false) (bi rfl rfl rD) rfl (t1 ([], false) (bi (v := .d (eU64 (bZ p0 ((bD ((8 : Int) * wX)).toNat)))) rfl rfl (fun X Y => zq _ X Y p0 _ ach)) rfl (t1 ([], false) (tF rfl (o9 uD uX (bZ p0 ((bD ((8 : Int) * wX)).toNat)))) rfl (t1 ([2], true) (tH (k := 2) (ds := List.map bR [((bZ p0 ((bD ((8 : Int) * wX)).toNat)).toUInt8)]) (off := 0) (l' := [((bZ p0 ((bD ((8 : Int) * wX)).toNat)).toUInt8)].length) rfl bW DT rfl rfl (by rfl) rfl rfl rfl) rfl (t1 ([1, 2, 3], true) (app rfl rfl rfl rfl yX (aF (f := bR) (xs := y31) (k := 3) rfl bW DT rfl (dx (xs := [((bZ p0 ((bD ((8 : Int) * wX)).toNat)).toUInt8)]) rfl) acg rfl)) rfl (t1 ([], false) (gJ rfl) rfl (t1 ([], false) (far (k := 0) rfl jP bS rfl) rfl (t0 ([0, 3], true) (fJ rfl rfl (sB (d' := .agg [.slc 3 1 0 ((y31 ++ [((bZ p0 ((bD ((8 : Int) * wX)).toNat)).toUInt8)]).length) none]) bS rfl rfl rfl rfl rfl rfl rfl)) rfl (ST.nil (And.intro (by decide +kernel) ?_))))))))))
  change SC _ _ _ _ _
  have q := si h2; subst q
  exact SC.region (sm rfl (s1 (bi rfl rfl fD) (sa rfl (SO.nil (lf (wc [0, 3] [0, 0] (by kernel_rfl) rfl (by kernel_rfl)))))))
 ·have q := si h2; subst q; have q : _ = _ := hv2; subst q; have q := si h0; subst q
  exact SC.exit (kG (Wk.refl _) aG rfl)
noncomputable def nV (p0 : Bool) (p1 : List UInt8) : Option ((List UInt8)) :=
 bif p0 then
 bif decide ((p1.length + [(1 : UInt8)].length) * 1 ≤ room) then
 some (p1 ++ [(1 : UInt8)])
 else none
 else
 bif decide ((p1.length + [(0 : UInt8)].length) * 1 ≤ room) then
 some (p1 ++ [(0 : UInt8)])
 else none
theorem BI (p0 : Bool) (p1 : List UInt8) (r : (List UInt8)) (h0 : nV p0 p1 = some r) : aL Tryz.prog 86 [.ref 0 0 0, .d (eB p0)] [.box (.agg [.slc 1 1 0 p1.length none]), .row 1 (List.map bR p1) true] (.tuple []) [.box (.agg [.slc 2 1 0 r.length none]), .dead, .row 1 (List.map bR r) true] := by
 unfold nV at h0
 refine fn0 [0, 1] Tryz.func86 rfl rfl rfl rfl rfl ?_
 refine sr (sm rfl (sn (cB h0 rfl (fun h0 => ?_) (fun h0 => ?_))))
 ·obtain ⟨hg6, h0⟩ := gd h0; have q := si h0; subst q
  refine SC.region (sm rfl (sm rfl (s1 (gJ rfl) (s1 (far (k := 0) rfl jP bS rfl) (s1 (aS rfl (aj bS gL rfl rfl)) (s1 (tH (k := 2) (ds := List.map bR [(1 : UInt8)]) (off := 0) (l' := [(1 : UInt8)].length) rfl bW DT rfl rfl (by rfl) rfl rfl rfl) (s1 (app rfl rfl rfl rfl yX (aF (f := bR) (xs := p1) (k := 3) rfl bW DT rfl (dx (xs := [(1 : UInt8)]) rfl) hg6 rfl)) (s1 (gJ rfl) (s1 (far (k := 0) rfl jP bS rfl) ?_)))))))))
  exact s0 (fJ rfl rfl (sB (d' := .agg [.slc 3 1 0 ((p1 ++ [(1 : UInt8)]).length) none]) bS rfl rfl rfl rfl rfl rfl rfl)) (SO.nil (kG (wc (e' := []) [0, 1, 3] [0, 1] (by kernel_rfl) rfl (by kernel_rfl)) aG rfl))
 ·obtain ⟨hg7, h0⟩ := gd h0; have q := si h0; subst q
  refine SC.region (sm rfl (sm rfl (s1 (gJ rfl) (s1 (far (k := 0) rfl jP bS rfl) (s1 (aS rfl (aj bS gL rfl rfl)) (s1 (tH (k := 2) (ds := List.map bR [(0 : UInt8)]) (off := 0) (l' := [(0 : UInt8)].length) rfl bW DT rfl rfl (by rfl) rfl rfl rfl) (s1 (app rfl rfl rfl rfl yX (aF (f := bR) (xs := p1) (k := 3) rfl bW DT rfl (dx (xs := [(0 : UInt8)]) rfl) hg7 rfl)) (s1 (gJ rfl) (s1 (far (k := 0) rfl jP bS rfl) ?_)))))))))
  exact s0 (fJ rfl rfl (sB (d' := .agg [.slc 3 1 0 ((p1 ++ [(0 : UInt8)]).length) none]) bS rfl rfl rfl rfl rfl rfl rfl)) (SO.nil (kG (wc (e' := []) [0, 1, 3] [0, 1] (by kernel_rfl) rfl (by kernel_rfl)) aG rfl))
noncomputable def bn (p0 : UInt64) (p1 : Int) (p2 : List UInt8) : Option ((List UInt8)) :=
 Option.bind (α := (List UInt8))
 (loop (Y := Int × (List UInt8)) (W := (List UInt8)) (fun (wX, y31) =>
 bif (decide (wX ≥ (0 : Int))) then
 bif decide (0 ≤ (bD ((8 : Int) * wX))) then
 bif decide ((y31.length + [((bZ p0 ((bD ((8 : Int) * wX)).toNat)).toUInt8)].length) * 1 ≤ room) then
 some (Sum.inl ((bD (wX - (1 : Int))), (y31 ++ [((bZ p0 ((bD ((8 : Int) * wX)).toNat)).toUInt8)])))
 else none
 else none
 else
 some (Sum.inr y31)) ((bD (p1 - (1 : Int))), p2))
 (fun e => some e)
theorem dQ (p0 : UInt64) (p1 : Int) (p2 : List UInt8) (r : (List UInt8)) (h0 : bn p0 p1 p2 = some r) : aL Tryz.prog 57 [.ref 0 0 0, .d (eU64 p0), .d (eI p1)] [.box (.agg [.slc 1 1 0 p2.length none]), .row 1 (List.map bR p2) true] (.tuple []) [.box (.agg [.slc 2 1 0 r.length none]), .dead, .row 1 (List.map bR r) true] := by
 unfold bn at h0
 refine fn0 [0, 1, 2] Tryz.func57 rfl rfl rfl rfl rfl ?_
 obtain ⟨Ud, h1, h0⟩ := ob h0
 refine sr (sm rfl (s1 (bi rfl rfl fD) (sa rfl (sn (SC.blk (SC.dH h1 (fun y => ⟨mk 27 [(0, .ref 0 0 0), (1, .d (eU64 p0)), (6, .d (eI y.1))], [.box (.agg [.slc 2 1 0 y.2.length none]), .dead, .row 1 (List.map bR y.2) true]⟩) (Wk.trans (wq (e' := [(0, .ref 0 0 0), (1, .d (eU64 p0)), (6, .d (eI (bD (p1 - (1 : Int)))))]) rfl) (Wk.trans (Wk.move (e' := [(0, .ref 0 0 0), (1, .d (eU64 p0)), (6, .d (eI (bD (p1 - (1 : Int)))))]) (os := [.box (.agg [.slc 2 1 0 p2.length none]), .row 1 (List.map bR p2) true]) (o := .row 1 (List.map bR p2) true) (σ' := [.box (.agg [.slc 2 1 0 p2.length none]), .dead, .row 1 (List.map bR p2) true]) 1 (Nat.le_of_ble_eq_true rfl) rfl rfl rfl rfl) (wq rfl))) ?_))))))
 intro n40
 rintro ⟨wX, y31⟩ ad7 h2 hv2
 refine sq (sr (sm rfl (s1 (bi rfl rfl dU) (sn (cB h2 rfl (fun h2 => ?_) (fun h2 => ?_))))))
 ·obtain ⟨ach, h2⟩ := gd h2; obtain ⟨acg, h2⟩ := gd h2
  refine sk (sq (SC.blk (SC.draws (by kernel_rfl) (t1 ([], false) (mv rfl) rfl (t1 ([], false) (mv rfl) rfl (t1 ([], false) (gJ rfl) rfl (t1 ([], false) (far (k := 0) rfl jP bS rfl) rfl (t1 ([0], false) (aS rfl (aj bS gL rfl rfl)) rfl (t1 ([], false) (mv rfl) rfl ?_)))))))))
  refine t1 ([], false) (mv rfl) rfl (t1 ([], false) (bi rfl rfl rD) rfl (t1 ([], false) (bi (v := .d (eU64 (bZ p0 ((bD ((8 : Int) * wX)).toNat)))) rfl rfl (fun X Y => zq _ X Y p0 _ ach)) rfl (t1 ([], false) (tF rfl (o9 uD uX (bZ p0 ((bD ((8 : Int) * wX)).toNat)))) rfl (t1 ([3], true) (tH (k := 3) (ds := List.map bR [((bZ p0 ((bD ((8 : Int) * wX)).toNat)).toUInt8)]) (off := 0) (l' := [((bZ p0 ((bD ((8 : Int) * wX)).toNat)).toUInt8)].length) rfl bW DT rfl rfl (by rfl) rfl rfl rfl) rfl (t1 ([2, 3, 4], true) (app rfl rfl rfl rfl yX (aF (f := bR) (xs := y31) (k := 4) rfl bW DT rfl (dx (xs := [((bZ p0 ((bD ((8 : Int) * wX)).toNat)).toUInt8)]) rfl) acg rfl)) rfl (t1 ([], false) (gJ rfl) rfl (t1 ([], false) (far (k := 0) rfl jP bS rfl) rfl (t0 ([0, 4], true) (fJ rfl rfl (sB (d' := .agg [.slc 4 1 0 ((y31 ++ [((bZ p0 ((bD ((8 : Int) * wX)).toNat)).toUInt8)]).length) none]) bS rfl rfl rfl rfl rfl rfl rfl)) rfl (ST.nil (And.intro (by decide +kernel) ?_))))))))))
  change SC _ _ _ _ _
  have q := si h2; subst q
  exact SC.region (sm rfl (s1 (bi rfl rfl fD) (sa rfl (SO.nil (lf (Wk.trans (wq (e' := [(0, .ref 0 0 0), (1, .d (eU64 p0)), (6, .d (eI (bD (wX - (1 : Int)))))]) rfl) (wc [0, 1, 4] [0, 1, 0] (by kernel_rfl) rfl (by kernel_rfl))))))))
 ·have q := si h2; subst q; have q : _ = _ := hv2; subst q; have q := si h0; subst q
  exact SC.exit (kG (Wk.refl _) aG rfl)
noncomputable def kN (p0 : List UInt8) (p1 : List UInt8) : Option (Bool × (List UInt8)) :=
 bif (decide ((p0.length : Int) > (65535 : Int))) then
 some (false, p1)
 else
 Option.bind (bn (jS (p0.length : Int)) (2 : Int) p1) fun OM =>
 bif decide ((OM.length + p0.length) * 1 ≤ room) then
 some (true, (OM ++ p0))
 else none
theorem BH (p0 : List UInt8) (p1 : List UInt8) (r : Bool × (List UInt8)) (h0 : kN p0 p1 = some r) : aL Tryz.prog 87 [.ref 0 0 0, .d (eS p0)] [.box (.agg [.slc 1 1 0 p1.length none]), .row 1 (List.map bR p1) true] (.d (eB r.1)) [.box (.agg [.slc 2 1 0 r.2.length none]), .dead, .row 1 (List.map bR r.2) true] := by
 unfold kN at h0
 refine fn0 [0, 1] Tryz.func87 rfl rfl rfl rfl rfl ?_
 refine sr (sa rfl (sn (sq (sr (sm rfl (s1 (len rfl rfl rfl (fK l9)) (s1 (bi rfl rfl bP) (sn (cB h0 rfl (fun h0 => ?_) (fun h0 => ?_))))))))))
 ·have q := si h0; subst q
  exact sr (sa rfl (sn (SC.ret (aV (Wk.trans (wq (e' := [(4, .d (eB false))]) rfl) (Wk.trans (Wk.move (e' := [(4, .d (eB false))]) (os := [.box (.agg [.slc 2 1 0 p1.length none]), .row 1 (List.map bR p1) true]) (o := .row 1 (List.map bR p1) true) (σ' := [.box (.agg [.slc 2 1 0 p1.length none]), .dead, .row 1 (List.map bR p1) true]) 1 (Nat.le_of_ble_eq_true rfl) rfl rfl rfl rfl) (wq (e' := [(4, .d (eB false))]) rfl))) (aI rfl aG) rfl))))
 ·obtain ⟨OM, hq9, h0⟩ := ob h0; obtain ⟨aco, h0⟩ := gd h0; have q := si h0; subst q
  refine sk (sr (sm rfl (sm rfl (s1 (len rfl rfl rfl (fK l9)) (s1 (tF rfl (Hw Im uD (p0.length : Int))) (cq [0, 1] [2] (dQ (jS (p0.length : Int)) (2 : Int) p1 _ hq9) wf rfl rfl rfl Fv rfl rfl rfl rfl rfl rfl rfl rfl (sn (sr (sm rfl ?_)))))))))
  refine sm rfl (s1 (gJ rfl) (s1 (far (k := 0) rfl jP bS rfl) (s1 (aS rfl (aj bS gL rfl rfl)) (sm rfl (s1 (app rfl rfl rfl rfl bc9 (aF (f := bR) (xs := OM) (k := 3) rfl bW DT rfl Pn aco rfl)) (s1 (gJ rfl) (s1 (far (k := 0) rfl jP bS rfl) (s0 (fJ rfl rfl (sB (d' := .agg [.slc 3 1 0 ((OM ++ p0).length) none]) bS rfl rfl rfl rfl rfl rfl rfl)) (sn ?_)))))))))
  exact sr (sa rfl (sn (SC.ret (aV (Wk.trans (wq (e' := [(4, .d (eB true))]) rfl) (wc (e' := [(4, .d (eB true))]) [0, 1, 3] [0, 1] (by kernel_rfl) rfl (by kernel_rfl))) (aI rfl aG) rfl))))
noncomputable def vJ (p0 : ApiValue) (p1 : List UInt8) : Option ((List UInt8)) :=
 Option.bind (nV (p0.Kind == (0 : Int)) p1) fun Fe =>
 Option.bind (α := Bool)
 (bif (p0.Kind == (1 : Int)) then
 some (p0.Kind == (1 : Int))
 else
 some (p0.Kind == (2 : Int)))
 fun wX =>
 bif wX then
 Option.bind (bn p0.N (8 : Int) Fe) fun r33 =>
 some r33
 else
 bif (p0.Kind == (3 : Int)) then
 Option.bind (bn p0.N (1 : Int) Fe) fun r35 =>
 some r35
 else
 Option.bind (α := Bool)
 (bif (p0.Kind == (4 : Int)) then
 some (p0.Kind == (4 : Int))
 else
 some (p0.Kind == (5 : Int)))
 fun y36 =>
 bif y36 then
 Option.bind (kN p0.S Fe) fun (r39, r40) =>
 some r40
 else
 some Fe
theorem Kh (p0 : ApiValue) (p1 : List UInt8) (r : (List UInt8)) (h0 : vJ p0 p1 = some r) : aL Tryz.prog 58 [.ref 0 0 0, .d (eApiValue p0)] [.box (.agg [.slc 1 1 0 p1.length none]), .row 1 (List.map bR p1) true] (.tuple []) [.box (.agg [.slc 2 1 0 r.length none]), .dead, .row 1 (List.map bR r) true] := by
 unfold vJ at h0
 refine fn0 [0, 1] Tryz.func58 rfl rfl rfl rfl rfl ?_
 obtain ⟨Fe, OX, h0⟩ := ob h0
 refine sr (s1 (nH (k := 2) rfl rfl rfl) (sn (sr (sm rfl (s1 (far (k := 0) rfl fH bO rfl) (s1 (aS rfl (aj bO dW rfl rfl)) (s1 (bi rfl rfl aP) (cq [0, 1] [3] (BI (p0.Kind == (0 : Int)) p1 _ OX) wf rfl rfl rfl am4 rfl rfl rfl rfl rfl rfl rfl rfl (sn ?_)))))))))
 refine sr (s1 (far (k := 0) rfl fH bO rfl) (s1 (aS rfl (aj bO dW rfl rfl)) (sn (SC.blk (SC.bJ h0 (fun y => ⟨mk 31 [(0, .ref 0 0 0), (3, .ref 2 0 0), (10, .d (eI p0.Kind)), (11, .d (eB y))], [.box (.agg [.slc 3 1 0 Fe.length none]), .dead, .box (.d (eApiValue p0)), .row 1 (List.map bR Fe) true]⟩) ?_ ?_)))))
 ·intro Ue h1
  refine sr (s1 (bi rfl rfl aP) (sa rfl (sn (cB h1 rfl (fun h1 => ?_) (fun h1 => ?_)))))
  ·have q := si h1; subst q
   exact SC.skip ((wq rfl))
  ·have q := si h1; subst q
   exact SC.region (s1 (bi rfl rfl aP) (sa rfl (SO.nil ((wq rfl)))))
 ·rintro wX h0
  refine cB h0 rfl (fun h0 => ?_) (fun h0 => ?_)
  ·obtain ⟨r33, abR, h0⟩ := ob h0; have q := si h0; subst q
   exact SC.region (sm rfl (s1 (far (k := 1) rfl iK fU rfl) (s1 (aS rfl (aj fU lY rfl rfl)) (cq [0, 3] [4] (dQ p0.N (8 : Int) Fe _ abR) wf rfl rfl rfl Fv rfl rfl rfl rfl rfl rfl rfl rfl (SO.nil (kG (wc (e' := []) [0, 1, 4] [0, 1] (by kernel_rfl) rfl (by kernel_rfl)) aG rfl))))))
  ·refine sr (s1 (bi rfl rfl aP) (sa rfl (sn (cB h0 rfl (fun h0 => ?_) (fun h0 => ?_)))))
   ·obtain ⟨r35, amr, h0⟩ := ob h0; have q := si h0; subst q
    exact SC.region (sm rfl (s1 (far (k := 1) rfl iK fU rfl) (s1 (aS rfl (aj fU lY rfl rfl)) (cq [0, 3] [4] (dQ p0.N (1 : Int) Fe _ amr) wf rfl rfl rfl Fv rfl rfl rfl rfl rfl rfl rfl rfl (SO.nil (kG (wc (e' := []) [0, 1, 4] [0, 1] (by kernel_rfl) rfl (by kernel_rfl)) aG rfl))))))
   ·refine SC.bJ h0 (fun y => ⟨mk 31 [(0, .ref 0 0 0), (3, .ref 2 0 0), (24, .d (eB y))], [.box (.agg [.slc 3 1 0 Fe.length none]), .dead, .box (.d (eApiValue p0)), .row 1 (List.map bR Fe) true]⟩) ?_ ?_
    ·intro Ud h1
     refine sr (s1 (bi rfl rfl aP) (sa rfl (sn (cB h1 rfl (fun h1 => ?_) (fun h1 => ?_)))))
     ·have q := si h1; subst q
      exact SC.skip ((wq rfl))
     ·have q := si h1; subst q
      exact SC.region (s1 (bi rfl rfl aP) (sa rfl (SO.nil ((wq rfl)))))
    ·rintro y36 h0
     refine cB h0 rfl (fun h0 => ?_) (fun h0 => ?_)
     ·obtain ⟨⟨r39, r40⟩, amm, h0⟩ := ob h0; have q := si h0; subst q
      exact SC.region (sm rfl (s1 (far (k := 2) rfl iO eT rfl) (s1 (aS rfl (aj eT jy rfl rfl)) (cq [0, 3] [4] (BH p0.S Fe _ amm) wf rfl rfl rfl am3 rfl rfl rfl rfl rfl rfl rfl rfl (SO.nil (kG (wc (e' := []) [0, 1, 4] [0, 1] (by kernel_rfl) rfl (by kernel_rfl)) aG rfl))))))
     ·have q := si h0; subst q
      exact SC.skip (kG (wc (e' := []) [0, 1, 3] [0, 1] (by kernel_rfl) rfl (by kernel_rfl)) aG rfl)
noncomputable def nC (p0 : List ApiValue) : Option ((List UInt8)) :=
 Option.bind (iB (jS (p0.length : Int)) (1 : Int)) fun r75 =>
 Option.bind (α := (List UInt8))
 (Option.bind (α := (List UInt8))
 (loop (Y := Int × (List UInt8)) (W := (List UInt8)) (fun (Tg, y98) =>
 bif (decide (Tg < (p0.length : Int))) then
 Option.bind (bF p0 Tg) fun W9 =>
 Option.bind (vJ W9 y98) fun afj =>
 some (Sum.inl ((bD (Tg + (1 : Int))), afj))
 else
 some (Sum.inr y98)) ((0 : Int), r75))
 (fun e => some e))
 fun Li =>
 some Li
theorem yA (p0 : List ApiValue) (r : (List UInt8)) (h0 : nC p0 = some r) : aL Tryz.prog 18 [.d ((eL 3 eApiValue) p0)] [] (.d (eS r)) [] := by
 unfold nC at h0
 refine fn0 [0] Tryz.func18 rfl rfl rfl rfl rfl ?_
 obtain ⟨r75, abM, h0⟩ := ob h0
 refine sr (s1 (ig (v := .d (eS ([] : List UInt8))) rfl) (sn (sr (s1 (l8 rfl (VW )) (s1 (nH (k := 0) rfl rfl rfl) (sa rfl (sn (sr (sm rfl ?_)))))))))
 refine sm rfl (s1 (len rfl rfl rfl (aZ fu)) (s1 (tF rfl (Hw Im uD (p0.length : Int))) (cq [0] [1] (oO (jS (p0.length : Int)) (1 : Int) _ abM) wf rfl rfl rfl Fv rfl rfl rfl rfl rfl rfl rfl rfl (sn (SC.bJ h0 (fun y => ⟨mk 29 [(3, .ref 0 0 0)], [.box (.agg [.slc 1 1 0 y.length none]), .row 1 (List.map bR y) true]⟩) ?_ ?_)))))
 ·intro anO h1
  obtain ⟨akU, h2, h1⟩ := ob h1
  refine sr (sa rfl (sn (SC.blk (SC.dH h2 (fun y => ⟨mk 29 [(0, .d ((eL 3 eApiValue) p0)), (3, .ref 0 0 0), (4, .d (eI y.1))], [.box (.agg [.slc 1 1 0 y.2.length none]), .row 1 (List.map bR y.2) true]⟩) (wq rfl) ?_))))
  intro n109
  rintro ⟨Tg, y98⟩ ajE h3 hv3
  refine sq (sr (sm rfl (sm rfl (s1 (len rfl rfl rfl (aZ fu)) (s1 (bi rfl rfl aQ) (sn (cB h3 rfl (fun h3 => ?_) (fun h3 => ?_))))))))
  ·obtain ⟨W9, Z6, h3⟩ := ob h3; obtain ⟨afj, agV, h3⟩ := ob h3
   refine sk (sq (SC.blk (SC.region (sm rfl (sm rfl (sm rfl (s1 (j4 rfl rfl fu d9 (ak Z6).1 (aT (ak Z6).2) rfl) (s1 (aS (v := .d (eApiValue W9)) rfl (bK d9 kD rfl)) (cq [0, 1] [2] (Kh W9 y98 _ agV) wf rfl rfl rfl ang rfl rfl rfl rfl rfl rfl rfl rfl ?_)))))))))
   refine SO.nil ?_
   change SC _ _ _ _ _
   have q := si h3; subst q
   exact SC.region (sm rfl (s1 (bi rfl rfl aR) (sa rfl (SO.nil (lf (wc [0, 2] [0] (by kernel_rfl) rfl (by kernel_rfl)))))))
  ·have q := si h3; subst q; have q : _ = _ := hv3; subst q; have q := si h1; subst q
   exact SC.exit ((wq rfl))
 ·rintro Li h0
  have q := si h0; subst q
  exact sr (sm rfl (s1 (gJ rfl) (s1 (far (k := 0) rfl jP bS rfl) (s1 (aS rfl (aj bS gL rfl rfl)) (s1 (tF (v := .d (eS Li)) rfl (iy bW l9 uX (dx (xs := Li) rfl) (fun _ hh => by cases hh))) (sa rfl (sn (SC.ret (aV (wc (e' := [(2, .d (eS Li))]) [] [] (by kernel_rfl) rfl (by kernel_rfl)) (aI rfl aG) rfl)))))))))
noncomputable def fV (p0 : List UInt8) (p1 : Int) (p2 : Bool) : Option Unit :=
 some ()
theorem lF (p0 : List UInt8) (p1 : Int) (p2 : Bool) (r : Unit) (h0 : fV p0 p1 p2 = some r) : aL Tryz.prog 127 [.ref 0 0 0] [.box (.agg [.slc 1 1 0 p0.length none, .d (eI p1), .d (eB p2)]), .row 1 (List.map bR p0) true] (.d (eI (bD ((p0.length : Int) - p1)))) [.box (.agg [.slc 1 1 0 p0.length none, .d (eI p1), .d (eB p2)]), .row 1 (List.map bR p0) true] := by
 unfold fV at h0
 refine fn0 [0] Tryz.func127 rfl rfl rfl rfl rfl ?_
 have q := si h0; subst q
 refine sr (sa rfl (sn (sd (by kernel_rfl) (t1 ([], false) (mv rfl) rfl (t1 ([], false) (gJ rfl) rfl (t1 ([], false) (far (k := 0) rfl um bS rfl) rfl (t1 ([0], false) (aS rfl (aj bS gL rfl rfl)) rfl (t1 ([], false) (len rfl rfl rfl (dS bW)) rfl (t1 ([], false) (mv rfl) rfl ?_)))))))))
 exact t1 ([], false) (gJ rfl) rfl (t1 ([], false) (far (k := 1) rfl ji bO rfl) rfl (t1 ([0], false) (aS rfl (aj bO dW rfl rfl)) rfl (t1 ([], false) (bi rfl rfl fD) rfl (t1 ([], false) (ig rfl) rfl (tn (by decide +kernel) (SC.ret (aV (Wk.refl _) (aI rfl aG) rfl)))))))
noncomputable def eU (p0 : Int) (p1 : List UInt8) (p2 : Int) (p3 : Bool) : Option (UInt64 × Int × Bool) :=
 Option.bind (α := Bool)
 (bif p3 then
 some true
 else
 Option.bind (fV p1 p2 p3) fun _ =>
 some (decide ((bD ((p1.length : Int) - p2)) < p0)))
 fun y57 =>
 bif y57 then
 some ((0 : UInt64), p2, true)
 else
 Option.bind (α := UInt64)
 (Option.bind (α := UInt64)
 (loop (Y := UInt64 × Int) (W := UInt64) (fun (SS, y74) =>
 bif (decide (y74 < p0)) then
 Option.bind (bF p1 (bD (p2 + y74))) fun v80 =>
 some (Sum.inl (((lV SS 8) + (v80.toUInt64)), (bD (y74 + (1 : Int)))))
 else
 some (Sum.inr SS)) ((0 : UInt64), (0 : Int)))
 (fun e => some e))
 fun y70 =>
 some (y70, (bD (p2 + p0)), p3)
theorem qI (p0 : Int) (p1 : List UInt8) (p2 : Int) (p3 : Bool) (r : UInt64 × Int × Bool) (h0 : eU p0 p1 p2 p3 = some r) : aL Tryz.prog 108 [.ref 0 0 0, .d (eI p0)] [.box (.agg [.slc 1 1 0 p1.length none, .d (eI p2), .d (eB p3)]), .row 1 (List.map bR p1) true] (.d (eU64 r.1)) [.box (.agg [.slc 1 1 0 p1.length none, .d (eI r.2.1), .d (eB r.2.2)]), .row 1 (List.map bR p1) true] := by
 unfold eU at h0
 refine fn0 [0, 1] Tryz.func108 rfl rfl rfl rfl rfl ?_
 refine sr (s1 (ig (v := .d (eU64 (0 : UInt64))) rfl) (sn (sq (SC.bJ h0 (fun y => ⟨mk 50 [(0, .ref 0 0 0), (1, .d (eI p0)), (16, .d (eB y))], [.box (.agg [.slc 1 1 0 p1.length none, .d (eI p2), .d (eB p3)]), .row 1 (List.map bR p1) true]⟩) ?_ ?_))))
 ·intro anV h1
  refine SC.region (sm rfl (s1 (gJ rfl) (s1 (far (k := 2) rfl qZ jV rfl) (s1 (aS rfl (aj jV zD rfl rfl)) (sm rfl (sp h1 (fun h1 => ?_) (fun h1 => ?_)))))))
  ·have q := si h1; subst q
   exact kw rfl (kw rfl (kw rfl (kw rfl (s1 (pkt rfl rfl) (SO.nil ((wq rfl)))))))
  ·obtain ⟨_, ame, h1⟩ := ob h1; have q := si h1; subst q
   exact gw rfl (mv rfl) (cq [0, 1] [] (lF p1 p2 p3 _ ame) (ww rfl) rfl rfl rfl QA rfl rfl rfl rfl rfl rfl rfl rfl (gw rfl (mv rfl) (gw rfl (bi rfl rfl aQ) (s1 (dB rfl rfl) (SO.nil ((wq rfl)))))))
 ·rintro y57 h0
  refine cB h0 rfl (fun h0 => ?_) (fun h0 => ?_)
  ·have q := si h0; subst q
   refine sr (sm rfl (s1 (gJ rfl) (s1 (far (k := 2) rfl qZ jV rfl) (s0 (fJ (b := .d (eB true)) rfl rfl (sB (d' := .agg [.slc 1 1 0 p1.length none, .d (eI p2), .d (eB true)]) jV rfl rfl rfl rfl rfl rfl rfl)) (sn (sr (s1 (ig (v := .d (eU64 (0 : UInt64))) rfl) (sn (SC.ret ?_)))))))))
   exact aV (Wk.refl _) (aI rfl aG) rfl
  ·refine sk (sr (s1 (ig (v := .d (eU64 (0 : UInt64))) rfl) (sn (SC.bJ h0 (fun y => ⟨mk 50 [(0, .ref 0 0 0), (1, .d (eI p0)), (5, .d (eU64 y))], [.box (.agg [.slc 1 1 0 p1.length none, .d (eI p2), .d (eB p3)]), .row 1 (List.map bR p1) true]⟩) ?_ ?_))))
   ·intro anT h1
    obtain ⟨anJ, h2, h1⟩ := ob h1
    refine sr (sa rfl (sn (SC.blk (SC.dH h2 (fun y => ⟨mk 50 [(0, .ref 0 0 0), (1, .d (eI p0)), (5, .d (eU64 y.1)), (6, .d (eI y.2))], [.box (.agg [.slc 1 1 0 p1.length none, .d (eI p2), .d (eB p3)]), .row 1 (List.map bR p1) true]⟩) (wq rfl) ?_))))
    intro n81
    rintro ⟨SS, y74⟩ anH h3 hv3
    refine sq (sr (sm rfl (sm rfl (s1 (bi rfl rfl aQ) (sn (cB h3 rfl (fun h3 => ?_) (fun h3 => ?_)))))))
    ·obtain ⟨v80, afu, h3⟩ := ob h3
     refine sk (sq (SC.blk (SC.draws (by kernel_rfl) (t1 ([], false) (mv rfl) rfl (t1 ([], false) (bi (v := .d (eU64 (lV SS 8))) rfl rfl (fun X Y => DY _ X Y SS _ (by decide))) rfl (t1 ([], false) (mv rfl) rfl (t1 ([], false) (gJ rfl) rfl (t1 ([], false) (far (k := 0) rfl um bS rfl) rfl (t1 ([0], false) (aS rfl (aj bS gL rfl rfl)) rfl ?_)))))))))
     refine t1 ([], false) (mv rfl) rfl (t1 ([], false) (gJ rfl) rfl (t1 ([], false) (far (k := 1) rfl ji bO rfl) rfl (t1 ([0], false) (aS rfl (aj bO dW rfl rfl)) rfl (t1 ([], false) (mv rfl) rfl (t1 ([], false) (bi rfl rfl aR) rfl (t1 ([], false) (CB rfl rfl bW qQ (fT afu)) rfl (t1 ([1], false) (aS rfl (gH qQ Ov rfl (aT (ak afu).2) rfl)) rfl (t1 ([], false) (tF rfl (vW uX uD v80)) rfl (t1 ([], false) (bi rfl rfl Jq) rfl ?_)))))))))
     refine t1 ([], false) (ig rfl) rfl (ST.nil (And.intro (by decide +kernel) ?_))
     change SC _ _ _ _ _
     have q := si h3; subst q
     exact SC.region (sm rfl (s1 (bi rfl rfl aR) (sa rfl (SO.nil (lf (wq rfl))))))
    ·have q := si h3; subst q; have q : _ = _ := hv3; subst q; have q := si h1; subst q
     exact SC.exit ((wq rfl))
   ·rintro y70 h0
    have q := si h0; subst q
    refine sr (sm rfl (s1 (gJ rfl) (s1 (far (k := 1) rfl ji bO rfl) (s1 (aS rfl (aj bO dW rfl rfl)) (sm rfl (s1 (bi rfl rfl aR) (s1 (gJ rfl) (s1 (far (k := 1) rfl ji bO rfl) (s0 (fJ rfl rfl (sB (d' := .agg [.slc 1 1 0 p1.length none, .d (eI (bD (p2 + p0))), .d (eB p3)]) bO rfl rfl rfl rfl rfl rfl rfl)) ?_)))))))))
    exact sn (sr (sm rfl (sa rfl (sn (SC.ret (aV (Wk.refl _) (aI rfl aG) rfl))))))
noncomputable def j3 (p0 : List UInt8) (p1 : Int) (p2 : Bool) : Option (Bool × Int × Bool) :=
 Option.bind (α := Bool)
 (bif p2 then
 some true
 else
 Option.bind (fV p0 p1 p2) fun _ =>
 bif (decide ((bD ((p0.length : Int) - p1)) < (1 : Int))) then
 some true
 else
 Option.bind (bF p0 p1) fun v23 =>
 some (decide ((1 : UInt8) < v23)))
 fun y20 =>
 bif y20 then
 some (false, p1, true)
 else
 Option.bind (bF p0 (bD ((bD (p1 + (1 : Int))) - (1 : Int)))) fun v24 =>
 some ((v24 == (1 : UInt8)), (bD (p1 + (1 : Int))), p2)
theorem Df (p0 : List UInt8) (p1 : Int) (p2 : Bool) (r : Bool × Int × Bool) (h0 : j3 p0 p1 p2 = some r) : aL Tryz.prog 109 [.ref 0 0 0] [.box (.agg [.slc 1 1 0 p0.length none, .d (eI p1), .d (eB p2)]), .row 1 (List.map bR p0) true] (.d (eB r.1)) [.box (.agg [.slc 1 1 0 p0.length none, .d (eI r.2.1), .d (eB r.2.2)]), .row 1 (List.map bR p0) true] := by
 unfold j3 at h0
 refine fn0 [0] Tryz.func109 rfl rfl rfl rfl rfl ?_
 refine sr (sa rfl (sn (sq (SC.bJ h0 (fun y => ⟨mk 47 [(0, .ref 0 0 0), (24, .d (eB y))], [.box (.agg [.slc 1 1 0 p0.length none, .d (eI p1), .d (eB p2)]), .row 1 (List.map bR p0) true]⟩) ?_ ?_))))
 ·intro YR h1
  refine SC.draws (by kernel_rfl) (t1 ([], false) (mv rfl) rfl (t1 ([], false) (gJ rfl) rfl (t1 ([], false) (far (k := 2) rfl qZ jV rfl) rfl (t1 ([0], false) (aS rfl (aj jV zD rfl rfl)) rfl (t1 ([], false) (mv rfl) rfl (tp h1 (fun h1 => ?_) (fun h1 => ?_)))))))
  ·have q := si h1; subst q
   refine jw rfl (jw rfl (jw rfl (t1 ([], false) (pkt rfl rfl) rfl (t1 ([], false) (mv rfl) rfl (jw rfl (jw rfl (jw rfl (jw rfl (jw rfl ?_)))))))))
   refine jw rfl (jw rfl (jw rfl (jw rfl (jw rfl (jw rfl (t1 ([], false) (pkt rfl rfl) rfl (ST.nil (And.intro (by decide +kernel) ?_))))))))
   exact (wq rfl)
  ·obtain ⟨_, abT, h1⟩ := ob h1
   refine u1 ([], false) (ww rfl) (mv rfl) rfl (tqr [0, 1] [0, 1] (lF p0 p1 p2 _ abT) (ww rfl) rfl rfl rfl QA rfl rfl rfl rfl rfl rfl rfl rfl (u1 ([], false) (ww rfl) (bi rfl rfl aQ) rfl (t1 ([], false) (dB rfl rfl) rfl (t1 ([], false) (mv rfl) rfl (tp h1 (fun h1 => ?_) (fun h1 => ?_))))))
   ·have q := si h1; subst q
    refine jw rfl (jw rfl (jw rfl (jw rfl (jw rfl (jw rfl (jw rfl (jw rfl (jw rfl (jw rfl ?_)))))))))
    refine jw rfl (t1 ([], false) (pkt rfl rfl) rfl (ST.nil (And.intro (by decide +kernel) ?_)))
    exact (wq rfl)
   ·obtain ⟨v23, afB, h1⟩ := ob h1; have q := si h1; subst q
    refine u1 ([], false) (ww rfl) (mv rfl) rfl (u1 ([], false) (ww rfl) (gJ rfl) rfl (u1 ([], false) (ww rfl) (far (k := 0) rfl um bS rfl) rfl (u1 ([0], false) (ww rfl) (aS rfl (aj bS gL rfl rfl)) rfl (u1 ([], false) (ww rfl) (mv rfl) rfl (u1 ([], false) (ww rfl) (gJ rfl) rfl (u1 ([], false) (ww rfl) (far (k := 1) rfl ji bO rfl) rfl (u1 ([0], false) (ww rfl) (aS rfl (aj bO dW rfl rfl)) rfl (u1 ([], false) (ww rfl) (CB rfl rfl bW qQ (fT afB)) rfl (u1 ([1], false) (ww rfl) (aS rfl (gH qQ Ov rfl (aT (ak afB).2) rfl)) rfl ?_)))))))))
    refine u1 ([], false) (ww rfl) (bi rfl rfl (rX (b := (1 : UInt8)))) rfl (t1 ([], false) (dB rfl rfl) rfl (ST.nil (And.intro (by decide +kernel) ?_)))
    exact (wq rfl)
 ·rintro y20 h0
  refine cB h0 rfl (fun h0 => ?_) (fun h0 => ?_)
  ·have q := si h0; subst q
   refine sr (sm rfl (s1 (gJ rfl) (s1 (far (k := 2) rfl qZ jV rfl) (s0 (fJ (b := .d (eB true)) rfl rfl (sB (d' := .agg [.slc 1 1 0 p0.length none, .d (eI p1), .d (eB true)]) jV rfl rfl rfl rfl rfl rfl rfl)) (sn (sr (sa rfl (sn (SC.ret ?_)))))))))
   exact aV (Wk.refl _) (aI rfl aG) rfl
  ·obtain ⟨v24, hv24, h0⟩ := ob h0; have q := si h0; subst q
   refine sk (sr (sm rfl (s1 (gJ rfl) (s1 (far (k := 1) rfl ji bO rfl) (s1 (aS rfl (aj bO dW rfl rfl)) (s1 (bi rfl rfl aR) (s1 (gJ rfl) (s1 (far (k := 1) rfl ji bO rfl) (s0 (fJ rfl rfl (sB (d' := .agg [.slc 1 1 0 p0.length none, .d (eI (bD (p1 + (1 : Int)))), .d (eB p2)]) bO rfl rfl rfl rfl rfl rfl rfl)) ?_)))))))))
   refine sn (sd (by kernel_rfl) (t1 ([], false) (mv rfl) rfl (t1 ([], false) (gJ rfl) rfl (t1 ([], false) (far (k := 0) rfl um bS rfl) rfl (t1 ([0], false) (aS rfl (aj bS gL rfl rfl)) rfl (t1 ([], false) (mv rfl) rfl (t1 ([], false) (gJ rfl) rfl (t1 ([], false) (far (k := 1) rfl ji bO rfl) rfl (t1 ([0], false) (aS rfl (aj bO dW rfl rfl)) rfl ?_)))))))))
   exact t1 ([], false) (bi rfl rfl fD) rfl (t1 ([], false) (CB rfl rfl bW qQ (fT hv24)) rfl (t1 ([1], false) (aS rfl (gH qQ Ov rfl (aT (ak hv24).2) rfl)) rfl (t1 ([], false) (bi rfl rfl (Gw (b := (1 : UInt8)))) rfl (t1 ([], false) (ig rfl) rfl (tn (by decide +kernel) (SC.ret (aV (Wk.refl _) (aI rfl aG) rfl)))))))
noncomputable def jZ (p0 : List UInt8) (p1 : Int) (p2 : Bool) : Option ((List UInt8) × Int × Bool) :=
 Option.bind (α := Bool)
 (bif p2 then
 some true
 else
 Option.bind (fV p0 p1 p2) fun _ =>
 some (decide ((bD ((p0.length : Int) - p1)) < (2 : Int))))
 fun y23 =>
 bif y23 then
 some (([] : List UInt8), p1, true)
 else
 Option.bind (bF p0 p1) fun v26 =>
 Option.bind (bF p0 (bD (p1 + (1 : Int)))) fun v27 =>
 Option.bind (fV p0 p1 p2) fun _ =>
 bif (decide ((bD ((p0.length : Int) - p1)) < (bD ((2 : Int) + (bD ((bD ((v26.toNat : Int) * (256 : Int))) + (v27.toNat : Int))))))) then
 some (([] : List UInt8), p1, true)
 else
 bif decide (0 ≤ (bD ((bD (p1 + (bD ((2 : Int) + (bD ((bD ((v26.toNat : Int) * (256 : Int))) + (v27.toNat : Int))))))) - (bD ((bD ((v26.toNat : Int) * (256 : Int))) + (v27.toNat : Int))))) ∧ (bD ((bD (p1 + (bD ((2 : Int) + (bD ((bD ((v26.toNat : Int) * (256 : Int))) + (v27.toNat : Int))))))) - (bD ((bD ((v26.toNat : Int) * (256 : Int))) + (v27.toNat : Int))))) ≤ (bD (p1 + (bD ((2 : Int) + (bD ((bD ((v26.toNat : Int) * (256 : Int))) + (v27.toNat : Int))))))) ∧ (bD (p1 + (bD ((2 : Int) + (bD ((bD ((v26.toNat : Int) * (256 : Int))) + (v27.toNat : Int))))))) ≤ (p0.length : Int)) then
 bif decide ((0 + (bD ((bD (p1 + (bD ((2 : Int) + (bD ((bD ((v26.toNat : Int) * (256 : Int))) + (v27.toNat : Int))))))) - (bD ((bD ((v26.toNat : Int) * (256 : Int))) + (v27.toNat : Int))))).toNat) + ((bD (p1 + (bD ((2 : Int) + (bD ((bD ((v26.toNat : Int) * (256 : Int))) + (v27.toNat : Int))))))).toNat - (bD ((bD (p1 + (bD ((2 : Int) + (bD ((bD ((v26.toNat : Int) * (256 : Int))) + (v27.toNat : Int))))))) - (bD ((bD ((v26.toNat : Int) * (256 : Int))) + (v27.toNat : Int))))).toNat) ≤ p0.length) then
 some ((List.take ((bD (p1 + (bD ((2 : Int) + (bD ((bD ((v26.toNat : Int) * (256 : Int))) + (v27.toNat : Int))))))).toNat - (bD ((bD (p1 + (bD ((2 : Int) + (bD ((bD ((v26.toNat : Int) * (256 : Int))) + (v27.toNat : Int))))))) - (bD ((bD ((v26.toNat : Int) * (256 : Int))) + (v27.toNat : Int))))).toNat) (List.drop (0 + (bD ((bD (p1 + (bD ((2 : Int) + (bD ((bD ((v26.toNat : Int) * (256 : Int))) + (v27.toNat : Int))))))) - (bD ((bD ((v26.toNat : Int) * (256 : Int))) + (v27.toNat : Int))))).toNat) p0)), (bD (p1 + (bD ((2 : Int) + (bD ((bD ((v26.toNat : Int) * (256 : Int))) + (v27.toNat : Int))))))), p2)
 else none
 else none
theorem Dc (p0 : List UInt8) (p1 : Int) (p2 : Bool) (r : (List UInt8) × Int × Bool) (h0 : jZ p0 p1 p2 = some r) : aL Tryz.prog 110 [.ref 0 0 0] [.box (.agg [.slc 1 1 0 p0.length none, .d (eI p1), .d (eB p2)]), .row 1 (List.map bR p0) true] (.d (eS r.1)) [.box (.agg [.slc 1 1 0 p0.length none, .d (eI r.2.1), .d (eB r.2.2)]), .row 1 (List.map bR p0) true] := by
 unfold jZ at h0
 refine fn0 [0] Tryz.func110 rfl rfl rfl rfl rfl ?_
 refine sr (s1 (ig (v := .d (eS ([] : List UInt8))) rfl) (sn (sq (SC.bJ h0 (fun y => ⟨mk 74 [(0, .ref 0 0 0), (12, .d (eB y))], [.box (.agg [.slc 1 1 0 p0.length none, .d (eI p1), .d (eB p2)]), .row 1 (List.map bR p0) true]⟩) ?_ ?_))))
 ·intro an3 h1
  refine SC.region (sm rfl (s1 (gJ rfl) (s1 (far (k := 2) rfl qZ jV rfl) (s1 (aS rfl (aj jV zD rfl rfl)) (sm rfl (sp h1 (fun h1 => ?_) (fun h1 => ?_)))))))
  ·have q := si h1; subst q
   exact kw rfl (kw rfl (kw rfl (s1 (pkt rfl rfl) (SO.nil ((wq rfl))))))
  ·obtain ⟨_, amv, h1⟩ := ob h1; have q := si h1; subst q
   exact gw rfl (mv rfl) (cq [0, 1] [] (lF p0 p1 p2 _ amv) (ww rfl) rfl rfl rfl QA rfl rfl rfl rfl rfl rfl rfl rfl (gw rfl (bi rfl rfl aQ) (s1 (dB rfl rfl) (SO.nil ((wq rfl))))))
 ·rintro y23 h0
  refine cB h0 rfl (fun h0 => ?_) (fun h0 => ?_)
  ·have q := si h0; subst q
   refine sr (sm rfl (s1 (gJ rfl) (s1 (far (k := 2) rfl qZ jV rfl) (s0 (fJ (b := .d (eB true)) rfl rfl (sB (d' := .agg [.slc 1 1 0 p0.length none, .d (eI p1), .d (eB true)]) jV rfl rfl rfl rfl rfl rfl rfl)) (sn (sr (s1 (ig (v := .d (eS ([] : List UInt8))) rfl) (sn (SC.ret ?_)))))))))
   exact aV (Wk.refl _) (aI rfl aG) rfl
  ·obtain ⟨v26, afA, h0⟩ := ob h0; obtain ⟨v27, hv27, h0⟩ := ob h0; obtain ⟨_, OX, h0⟩ := ob h0
   refine sk (sd (by kernel_rfl) (t1 ([], false) (mv rfl) rfl (t1 ([], false) (gJ rfl) rfl (t1 ([], false) (far (k := 0) rfl um bS rfl) rfl (t1 ([0], false) (aS rfl (aj bS gL rfl rfl)) rfl (t1 ([], false) (mv rfl) rfl (t1 ([], false) (gJ rfl) rfl (t1 ([], false) (far (k := 1) rfl ji bO rfl) rfl (t1 ([0], false) (aS rfl (aj bO dW rfl rfl)) rfl ?_)))))))))
   refine t1 ([], false) (CB rfl rfl bW qQ (fT afA)) rfl (t1 ([1], false) (aS rfl (gH qQ Ov rfl (aT (ak afA).2) rfl)) rfl (t1 ([], false) (tF rfl (jv uX Im v26)) rfl (t1 ([], false) (bi rfl rfl rD) rfl (t1 ([], false) (mv rfl) rfl (t1 ([], false) (gJ rfl) rfl (t1 ([], false) (far (k := 0) rfl um bS rfl) rfl (t1 ([0], false) (aS rfl (aj bS gL rfl rfl)) rfl (t1 ([], false) (mv rfl) rfl (t1 ([], false) (gJ rfl) rfl ?_)))))))))
   refine t1 ([], false) (far (k := 1) rfl ji bO rfl) rfl (t1 ([0], false) (aS rfl (aj bO dW rfl rfl)) rfl (t1 ([], false) (bi rfl rfl aR) rfl (t1 ([], false) (CB rfl rfl bW qQ (fT hv27)) rfl (t1 ([1], false) (aS rfl (gH qQ Ov rfl (aT (ak hv27).2) rfl)) rfl (t1 ([], false) (tF rfl (jv uX Im v27)) rfl (t1 ([], false) (bi rfl rfl aR) rfl (t1 ([], false) (ig rfl) rfl (tn (by decide +kernel) (sq ?_)))))))))
   refine sr (sm rfl (cq [0, 1] [] (lF p0 p1 p2 _ OX) wf rfl rfl rfl QA rfl rfl rfl rfl rfl rfl rfl rfl (sm rfl (s1 (bi rfl rfl aR) (s1 (bi rfl rfl aQ) (sn (cB h0 rfl (fun h0 => ?_) (fun h0 => ?_))))))))
   ·have q := si h0; subst q
    refine sr (sm rfl (s1 (gJ rfl) (s1 (far (k := 2) rfl qZ jV rfl) (s0 (fJ (b := .d (eB true)) rfl rfl (sB (d' := .agg [.slc 1 1 0 p0.length none, .d (eI p1), .d (eB true)]) jV rfl rfl rfl rfl rfl rfl rfl)) (sn (sr (s1 (ig (v := .d (eS ([] : List UInt8))) rfl) (sn (SC.ret ?_)))))))))
    exact aV (Wk.refl _) (aI rfl aG) rfl
   ·obtain ⟨amL, h0⟩ := gd h0; obtain ⟨amK, h0⟩ := gd h0; have q := si h0; subst q
    refine sk (sr (sm rfl (s1 (gJ rfl) (s1 (far (k := 1) rfl ji bO rfl) (s1 (aS rfl (aj bO dW rfl rfl)) (sm rfl (s1 (bi rfl rfl aR) (s1 (bi rfl rfl aR) (s1 (gJ rfl) ?_)))))))))
    refine s1 (far (k := 1) rfl ji bO rfl) (s0 (fJ rfl rfl (sB (d' := .agg [.slc 1 1 0 p0.length none, .d (eI (bD (p1 + (bD ((2 : Int) + (bD ((bD ((v26.toNat : Int) * (256 : Int))) + (v27.toNat : Int)))))))), .d (eB p2)]) bO rfl rfl rfl rfl rfl rfl rfl)) (sn (sd (by kernel_rfl) (t1 ([], false) (mv rfl) rfl (t1 ([], false) (gJ rfl) rfl (t1 ([], false) (far (k := 0) rfl um bS rfl) rfl (t1 ([0], false) (aS rfl (aj bS gL rfl rfl)) rfl (t1 ([], false) (mv rfl) rfl (t1 ([], false) (gJ rfl) rfl ?_)))))))))
    refine t1 ([], false) (far (k := 1) rfl ji bO rfl) rfl (t1 ([0], false) (aS rfl (aj bO dW rfl rfl)) rfl (t1 ([], false) (mv rfl) rfl (t1 ([], false) (bi rfl rfl fD) rfl (t1 ([], false) (mv rfl) rfl (t1 ([], false) (gJ rfl) rfl (t1 ([], false) (far (k := 1) rfl ji bO rfl) rfl (t1 ([0], false) (aS rfl (aj bO dW rfl rfl)) rfl (t1 ([], false) (SV rfl rfl rfl rfl (aa3 bW qQ amL)) rfl (t1 ([1], false) (tF (v := .d (eS (List.take ((bD (p1 + (bD ((2 : Int) + (bD ((bD ((v26.toNat : Int) * (256 : Int))) + (v27.toNat : Int))))))).toNat - (bD ((bD (p1 + (bD ((2 : Int) + (bD ((bD ((v26.toNat : Int) * (256 : Int))) + (v27.toNat : Int))))))) - (bD ((bD ((v26.toNat : Int) * (256 : Int))) + (v27.toNat : Int))))).toNat) (List.drop (0 + (bD ((bD (p1 + (bD ((2 : Int) + (bD ((bD ((v26.toNat : Int) * (256 : Int))) + (v27.toNat : Int))))))) - (bD ((bD ((v26.toNat : Int) * (256 : Int))) + (v27.toNat : Int))))).toNat) p0)))) rfl (iy bW l9 uX (Po (xs := p0) rfl amK) (fun _ hh => by cases hh))) rfl ?_)))))))))
    exact t1 ([], false) (ig rfl) rfl (tn (by decide +kernel) (SC.ret (aV (Wk.refl _) (aI rfl aG) rfl)))
noncomputable def mE (p0 : List UInt8) (p1 : Int) (p2 : Bool) : Option Bool :=
 Option.bind (α := Bool)
 (bif (!p2) then
 some (p1 == (p0.length : Int))
 else
 some false)
 fun y6 =>
 some y6
theorem Dh (p0 : List UInt8) (p1 : Int) (p2 : Bool) (r : Bool) (h0 : mE p0 p1 p2 = some r) : aL Tryz.prog 111 [.ref 0 0 0] [.box (.agg [.slc 1 1 0 p0.length none, .d (eI p1), .d (eB p2)]), .row 1 (List.map bR p0) true] (.d (eB r)) [.box (.agg [.slc 1 1 0 p0.length none, .d (eI p1), .d (eB p2)]), .row 1 (List.map bR p0) true] := by
 unfold mE at h0
 refine fn0 [0] Tryz.func111 rfl rfl rfl rfl rfl ?_
 refine sr (sa rfl (sn (SC.bJ h0 (fun y => ⟨mk 20 [(2, .d (eB y))], [.box (.agg [.slc 1 1 0 p0.length none, .d (eI p1), .d (eB p2)]), .row 1 (List.map bR p0) true]⟩) ?_ ?_)))
 ·intro aaV h1
  refine SC.draws (by kernel_rfl) (t1 ([], false) (mv rfl) rfl (t1 ([], false) (gJ rfl) rfl (t1 ([], false) (far (k := 2) rfl qZ jV rfl) rfl (t1 ([0], false) (aS rfl (aj jV zD rfl rfl)) rfl (t1 ([], false) (nt rfl) rfl (t1 ([], false) (mv rfl) rfl (tp h1 (fun h1 => ?_) (fun h1 => ?_))))))))
  ·have q := si h1; subst q
   refine u1 ([], false) (ww rfl) (mv rfl) rfl (u1 ([], false) (ww rfl) (gJ rfl) rfl (u1 ([], false) (ww rfl) (far (k := 1) rfl ji bO rfl) rfl (u1 ([0], false) (ww rfl) (aS rfl (aj bO dW rfl rfl)) rfl (u1 ([], false) (ww rfl) (mv rfl) rfl (u1 ([], false) (ww rfl) (gJ rfl) rfl (u1 ([], false) (ww rfl) (far (k := 0) rfl um bS rfl) rfl (u1 ([0], false) (ww rfl) (aS rfl (aj bS gL rfl rfl)) rfl (u1 ([], false) (ww rfl) (len rfl rfl rfl (dS bW)) rfl (u1 ([], false) (ww rfl) (bi rfl rfl aP) rfl ?_)))))))))
   refine t1 ([], false) (pkt rfl rfl) rfl (t1 ([], false) (ig rfl) rfl (ST.nil (And.intro (by decide +kernel) ?_)))
   exact (wq rfl)
  ·have q := si h1; subst q
   refine jw rfl (jw rfl (jw rfl (jw rfl (jw rfl (jw rfl (jw rfl (jw rfl (jw rfl (jw rfl ?_)))))))))
   refine t1 ([], false) (dB rfl rfl) rfl (t1 ([], false) (ig rfl) rfl (ST.nil (And.intro (by decide +kernel) ?_)))
   exact (wq rfl)
 ·rintro y6 h0
  have q := si h0; subst q
  exact SC.ret (aV (Wk.refl _) (aI rfl aG) rfl)
noncomputable def oN (p0 : List ApiColumn) (p1 : List UInt8) : Option ((List ApiValue) × (List Int) × Bool) :=
 Option.bind (eU (1 : Int) p1 (0 : Int) false) fun (Fa, OG, OE) =>
 Option.bind (α := Bool)
 (bif (decide ((Dx Fa) < (1 : Int))) then
 some true
 else
 some (decide ((Dx Fa) > (p0.length : Int))))
 fun ads =>
 bif ads then
 some (([] : List ApiValue), ([] : List Int), false)
 else
 eH (Y := (List ApiValue) × (List Int) × Int × Bool) (E := (List ApiValue) × (List Int) × Bool)
 (Option.bind (α := ((List ApiValue) × (List Int) × Int × Bool) ⊕ ((List ApiValue) × (List Int) × Bool))
 (loop (Y := (List ApiValue) × (List Int) × Int × Int × Bool) (W := ((List ApiValue) × (List Int) × Int × Bool) ⊕ ((List ApiValue) × (List Int) × Bool)) (fun (CJ, CG, Ls, xU, CF) =>
 bif (decide (Ls < (Dx Fa))) then
 bif decide ((CG.length + [xU].length) * 8 ≤ room) then
 Option.bind (α := Int × Bool × ApiValue)
 (Option.bind (j3 p1 xU CF) fun (Zc, tT, BJ) =>
 bif (!Zc) then
 Option.bind (bF p0 Ls) fun tJ =>
 Option.bind (α := Bool)
 (bif (tJ.Kind == (1 : Int)) then
 some (tJ.Kind == (1 : Int))
 else
 some (tJ.Kind == (2 : Int)))
 fun FQ =>
 bif FQ then
 Option.bind (eU (8 : Int) p1 tT BJ) fun (UJ, Zb, Za) =>
 some (Zb, Za, (ApiValue.mk tJ.Kind UJ ([] : List UInt8)))
 else
 bif (tJ.Kind == (3 : Int)) then
 Option.bind (eU (1 : Int) p1 tT BJ) fun (UH, Y9, Y8) =>
 some (Y9, Y8, (ApiValue.mk tJ.Kind UH ([] : List UInt8)))
 else
 Option.bind (jZ p1 tT BJ) fun (UG, Y7, Y6) =>
 some (Y7, Y6, (ApiValue.mk tJ.Kind (0 : UInt64) UG))
 else
 some (tT, BJ, (ApiValue.mk (0 : Int) (0 : UInt64) ([] : List UInt8))))
 fun (LM, Je, uY) =>
 Option.bind (α := Bool)
 (bif Je then
 some true
 else
 Option.bind (bF p0 Ls) fun Qd =>
 Option.bind (mW Qd uY) fun Y4 =>
 some (Y4 != (0 : Int)))
 fun YG =>
 bif YG then
 some (Sum.inr (Sum.inr (([] : List ApiValue), ([] : List Int), false)))
 else
 bif decide ((CJ.length + [uY].length) * 32 ≤ room) then
 some (Sum.inl ((CJ ++ [uY]), (CG ++ [xU]), (bD (Ls + (1 : Int))), LM, Je))
 else none
 else none
 else
 some (Sum.inr (Sum.inl (CJ, CG, xU, CF)))) (([] : List ApiValue), ([] : List Int), (0 : Int), OG, OE))
 (Sum.elim (fun e => some (Sum.inl e)) (fun e => some (Sum.inr e))))
 (fun (aas, aar, aaq, aap) =>
 Option.bind (mE p1 aaq aap) fun UF =>
 some (aas, aar, UF))
 (fun e => some e)
theorem zV (p0 : List ApiColumn) (p1 : List UInt8) (r : (List ApiValue) × (List Int) × Bool) (h0 : oN p0 p1 = some r) : aL Tryz.prog 84 [.d ((eL 7 eApiColumn) p0), .d (eS p1)] [] (.tuple [.slc 0 3 0 r.1.length none, .slc 1 1 0 r.2.1.length none, .d (eB r.2.2)]) [.row 3 (List.map eApiValue r.1) true, .row 1 (List.map eI r.2.1) true] := by
 unfold oN at h0
 refine fn0 [0, 1] Tryz.func84 rfl rfl rfl rfl rfl ?_
 obtain ⟨⟨Fa, OG, OE⟩, afJ, h0⟩ := ob h0
 refine sr (s1 (ig (v := .d .aA) rfl) (s1 (ig (v := .d .aA) rfl) (sa rfl (sn (sr (sm rfl (s1 (cvs (s := p1) (k := 0) rfl l9 bW uX qQ rfl) (s1 (l8 (v := .agg [.slc 0 1 0 p1.length none, .d (eI (0 : Int)), .d (eB false)]) rfl (by rfl)) (s1 (nH (k := 1) rfl rfl rfl) ?_)))))))))
 refine sa rfl (sn (sr (sm rfl (cq [1, 0] [] (qI (1 : Int) p1 (0 : Int) false _ afJ) wf rfl rfl rfl VL rfl rfl rfl rfl rfl rfl rfl rfl (s1 (tF rfl (Pv uD Im Fa)) (sa rfl (sn (sq (SC.bJ h0 (fun y => ⟨mk 87 [(0, .d ((eL 7 eApiColumn) p0)), (7, .ref 0 0 0), (8, .d (eI (Dx Fa))), (27, .d (eB y))], [.box (.agg [.slc 1 1 0 p1.length none, .d (eI OG), .d (eB OE)]), .row 1 (List.map bR p1) true]⟩) ?_ ?_)))))))))
 ·intro ak0 h1
  refine SC.region (sm rfl (s1 (bi rfl rfl aQ) (sm rfl (sp h1 (fun h1 => ?_) (fun h1 => ?_)))))
  ·have q := si h1; subst q
   exact kw rfl (kw rfl (kw rfl (kw rfl (s1 (pkt rfl rfl) (SO.nil ((wc [1, 0] [1] (by kernel_rfl) rfl (by kernel_rfl))))))))
  ·have q := si h1; subst q
   exact gw rfl (mv rfl) (gw rfl (mv rfl) (gw rfl (len rfl rfl rfl (aZ iF)) (gw rfl (bi rfl rfl bP) (s1 (dB rfl rfl) (SO.nil ((wc [1, 0] [1] (by kernel_rfl) rfl (by kernel_rfl))))))))
 ·rintro ads h0
  refine cB h0 rfl (fun h0 => ?_) (fun h0 => ?_)
  ·have q := si h0; subst q
   exact sr (s1 (ig (v := .d .aA) rfl) (s1 (ig (v := .d .aA) rfl) (sa rfl (sn (SC.ret (aV (Wk.trans (Wk.dD (σ' := [.box (.agg [.slc 1 1 0 p1.length none, .d (eI OG), .d (eB OE)]), .row 1 (List.map bR p1) true, .row 3 (List.map eApiValue ([] : List ApiValue)) true]) (.row 3 [] true) (fun _ hh => by cases hh) rfl) (Wk.trans (Wk.env (e' := [(4, .slc 2 3 0 (([] : List ApiValue).length) none), (5, .d .aA), (6, .d (eB false))]) (EW.cons (AW.dX _ _ _) (EW.cons (AW.refl _) (EW.cons (AW.refl _) EW.nil)))) (Wk.trans (Wk.dD (σ' := [.box (.agg [.slc 1 1 0 p1.length none, .d (eI OG), .d (eB OE)]), .row 1 (List.map bR p1) true, .row 3 (List.map eApiValue ([] : List ApiValue)) true, .row 1 (List.map eI ([] : List Int)) true]) (.row 1 [] true) (fun _ hh => by cases hh) rfl) (Wk.trans (Wk.env (e' := [(4, .slc 2 3 0 (([] : List ApiValue).length) none), (5, .slc 3 1 0 (([] : List Int).length) none), (6, .d (eB false))]) (EW.cons (AW.refl _) (EW.cons (AW.dX _ _ _) (EW.cons (AW.refl _) EW.nil)))) (wc (e' := [(4, .slc 0 3 0 (([] : List ApiValue).length) none), (5, .slc 1 1 0 (([] : List Int).length) none), (6, .d (eB false))]) [2, 3] [2, 3] (by kernel_rfl) rfl (by kernel_rfl)))))) (aI rfl (aI rfl (aI rfl aG))) rfl))))))
  ·refine sk (sr (s1 (ig (v := .d .aA) rfl) (sn (sr (s1 (ig (v := .d .aA) rfl) (sn (SC.seqB h0 (fun y => ⟨mk 87 [(7, .ref 0 0 0), (9, .slc 1 3 0 y.1.length none), (10, .slc 2 1 0 y.2.1.length none)], [.box (.agg [.slc 3 1 0 p1.length none, .d (eI y.2.2.1), .d (eB y.2.2.2)]), .row 3 (List.map eApiValue y.1) true, .row 1 (List.map eI y.2.1) true, .row 1 (List.map bR p1) true]⟩) ?_ ?_)))))))
   ·intro akX h1 h0
    obtain ⟨ai1, h2, h1⟩ := ob h1
    refine sr (sa rfl (sn (SC.blk (SC.dH h2 (fun y => ⟨mk 87 [(0, .d ((eL 7 eApiColumn) p0)), (7, .ref 0 0 0), (8, .d (eI (Dx Fa))), (9, .slc 1 3 0 y.1.length none), (10, .slc 2 1 0 y.2.1.length none), (11, .d (eI y.2.2.1))], [.box (.agg [.slc 3 1 0 p1.length none, .d (eI y.2.2.2.1), .d (eB y.2.2.2.2)]), .row 3 (List.map eApiValue y.1) true, .row 1 (List.map eI y.2.1) true, .row 1 (List.map bR p1) true]⟩) (Wk.trans (Wk.dD (σ' := [.box (.agg [.slc 1 1 0 p1.length none, .d (eI OG), .d (eB OE)]), .row 1 (List.map bR p1) true, .row 3 (List.map eApiValue ([] : List ApiValue)) true]) (.row 3 [] true) (fun _ hh => by cases hh) rfl) (Wk.trans (Wk.env (e' := [(0, .d ((eL 7 eApiColumn) p0)), (7, .ref 0 0 0), (8, .d (eI (Dx Fa))), (9, .slc 2 3 0 (([] : List ApiValue).length) none), (10, .d .aA), (11, .d (eI (0 : Int)))]) (EW.cons (AW.refl _) (EW.cons (AW.refl _) (EW.cons (AW.refl _) (EW.cons (AW.dX _ _ _) (EW.cons (AW.refl _) (EW.cons (AW.refl _) EW.nil))))))) (Wk.trans (Wk.dD (σ' := [.box (.agg [.slc 1 1 0 p1.length none, .d (eI OG), .d (eB OE)]), .row 1 (List.map bR p1) true, .row 3 (List.map eApiValue ([] : List ApiValue)) true, .row 1 (List.map eI ([] : List Int)) true]) (.row 1 [] true) (fun _ hh => by cases hh) rfl) (Wk.trans (Wk.env (e' := [(0, .d ((eL 7 eApiColumn) p0)), (7, .ref 0 0 0), (8, .d (eI (Dx Fa))), (9, .slc 2 3 0 (([] : List ApiValue).length) none), (10, .slc 3 1 0 (([] : List Int).length) none), (11, .d (eI (0 : Int)))]) (EW.cons (AW.refl _) (EW.cons (AW.refl _) (EW.cons (AW.refl _) (EW.cons (AW.refl _) (EW.cons (AW.dX _ _ _) (EW.cons (AW.refl _) EW.nil))))))) (wc [0, 2, 3, 1] [0, 2, 3] (by kernel_rfl) rfl (by kernel_rfl)))))) ?_))))
    intro aoa
    rintro ⟨CJ, CG, Ls, xU, CF⟩ aiK h3 hv3
    refine sq (sr (sm rfl (sm rfl (s1 (bi rfl rfl aQ) (sn (cB h3 rfl (fun h3 => ?_) (fun h3 => ?_)))))))
    ·obtain ⟨acr, h3⟩ := gd h3
     refine sk (sq (SC.blk (sr (sm rfl (sm rfl (s1 (gJ rfl) (s1 (far (k := 1) rfl ji bO rfl) (s1 (aS rfl (aj bO dW rfl rfl)) (s1 (tH (k := 4) (ds := List.map eI [xU]) (off := 0) (l' := [xU].length) rfl mO ei3 rfl rfl (by rfl) rfl rfl rfl) ?_)))))))))
     refine s1 (app rfl rfl rfl rfl aiw (aF (f := eI) (xs := CG) (k := 5) rfl mO ei3 rfl (dx (xs := [xU]) rfl) acr rfl)) (sa rfl (sn (sr (s1 (l8 rfl (VU )) (s1 (qV (k := 6) JH rfl) (s0 (fJ rfl rfl (sB (d' := .d (eApiValue (ApiValue.mk (0 : Int) (0 : UInt64) ([] : List UInt8)))) d9 rfl rfl rfl rfl rfl rfl rfl)) (sn (SC.bJ h3 (fun y => ⟨mk 87 [(0, .d ((eL 7 eApiColumn) p0)), (7, .ref 0 0 0), (8, .d (eI (Dx Fa))), (9, .slc 1 3 0 CJ.length none), (10, .slc 2 1 0 ((CG ++ [xU]).length) none), (11, .d (eI Ls)), (12, .ref 3 0 0)], [.box (.agg [.slc 4 1 0 p1.length none, .d (eI y.1), .d (eB y.2.1)]), .row 3 (List.map eApiValue CJ) true, .row 1 (List.map eI (CG ++ [xU])) true, .box (.d (eApiValue y.2.2)), .row 1 (List.map bR p1) true]⟩) ?_ ?_))))))))
     ·intro Xf h4
      obtain ⟨⟨Zc, tT, BJ⟩, acd, h4⟩ := ob h4
      refine sr (sm rfl (cq [0, 3] [] (Df p1 xU CF _ acd) wf rfl rfl rfl aij rfl rfl rfl rfl rfl rfl rfl rfl (s1 (nt rfl) (sn (cB h4 rfl (fun h4 => ?_) (fun h4 => ?_))))))
      ·obtain ⟨tJ, Vg, h4⟩ := ob h4
       refine sr (sm rfl (sm rfl (s1 (j4 rfl rfl iF jl (ak Vg).1 (aT (ak Vg).2) rfl) (s1 (fap rfl ko bO rfl) (s1 (aS rfl (bK bO dW rfl)) (s1 (far (k := 0) rfl fH bO rfl) (s0 (fJ rfl rfl (sB (d' := .d (eApiValue (ApiValue.mk tJ.Kind (0 : UInt64) ([] : List UInt8)))) bO rfl rfl rfl rfl rfl rfl rfl)) (sn (sr ?_)))))))))
       refine s1 (far (k := 0) rfl fH bO rfl) (s1 (aS rfl (aj bO dW rfl rfl)) (sn (SC.blk (SC.bJ h4 (fun y => ⟨mk 87 [(0, .d ((eL 7 eApiColumn) p0)), (7, .ref 0 0 0), (8, .d (eI (Dx Fa))), (9, .slc 1 3 0 CJ.length none), (10, .slc 2 1 0 ((CG ++ [xU]).length) none), (11, .d (eI Ls)), (12, .ref 3 0 0), (51, .d (eI tJ.Kind)), (55, .d (eB y))], [.box (.agg [.slc 4 1 0 p1.length none, .d (eI tT), .d (eB BJ)]), .row 3 (List.map eApiValue CJ) true, .row 1 (List.map eI (CG ++ [xU])) true, .box (.d (eApiValue (ApiValue.mk tJ.Kind (0 : UInt64) ([] : List UInt8)))), .row 1 (List.map bR p1) true]⟩) ?_ ?_))))
       ·intro aiT h5
        refine sr (s1 (bi rfl rfl aP) (sa rfl (sn (cB h5 rfl (fun h5 => ?_) (fun h5 => ?_)))))
        ·have q := si h5; subst q
         exact SC.skip ((wc [0, 1, 5, 6, 3] [0, 1, 5, 6] (by kernel_rfl) rfl (by kernel_rfl)))
        ·have q := si h5; subst q
         exact SC.region (s1 (bi rfl rfl aP) (sa rfl (SO.nil ((wc [0, 1, 5, 6, 3] [0, 1, 5, 6] (by kernel_rfl) rfl (by kernel_rfl))))))
       ·rintro FQ h4
        refine cB h4 rfl (fun h4 => ?_) (fun h4 => ?_)
        ·obtain ⟨⟨UJ, Zb, Za⟩, ab8, h4⟩ := ob h4; have q := si h4; subst q
         exact SC.region (sm rfl (cq [0, 4] [] (qI (8 : Int) p1 tT BJ _ ab8) wf rfl rfl rfl VL rfl rfl rfl rfl rfl rfl rfl rfl (s1 (far (k := 1) rfl iK fU rfl) (s0 (fJ rfl rfl (sB (d' := .d (eApiValue (ApiValue.mk tJ.Kind UJ ([] : List UInt8)))) fU rfl rfl rfl rfl rfl rfl rfl)) (SO.nil ((wq rfl)))))))
        ·refine sr (s1 (bi rfl rfl aP) (sa rfl (sn (cB h4 rfl (fun h4 => ?_) (fun h4 => ?_)))))
         ·obtain ⟨⟨UH, Y9, Y8⟩, ab7, h4⟩ := ob h4; have q := si h4; subst q
          exact SC.region (sm rfl (cq [0, 4] [] (qI (1 : Int) p1 tT BJ _ ab7) wf rfl rfl rfl VL rfl rfl rfl rfl rfl rfl rfl rfl (s1 (far (k := 1) rfl iK fU rfl) (s0 (fJ rfl rfl (sB (d' := .d (eApiValue (ApiValue.mk tJ.Kind UH ([] : List UInt8)))) fU rfl rfl rfl rfl rfl rfl rfl)) (SO.nil ((wq rfl)))))))
         ·obtain ⟨⟨UG, Y7, Y6⟩, ab6, h4⟩ := ob h4; have q := si h4; subst q
          exact SC.region (sm rfl (cq [0, 4] [] (Dc p1 tT BJ _ ab6) wf rfl rfl rfl aii rfl rfl rfl rfl rfl rfl rfl rfl (s1 (far (k := 2) rfl iO eT rfl) (s0 (fJ rfl rfl (sB (d' := .d (eApiValue (ApiValue.mk tJ.Kind (0 : UInt64) UG))) eT rfl rfl rfl rfl rfl rfl rfl)) (SO.nil ((wq rfl)))))))
      ·have q := si h4; subst q
       exact SC.skip ((wc [0, 1, 5, 6, 3] [0, 1, 5, 6] (by kernel_rfl) rfl (by kernel_rfl)))
     ·rintro ⟨LM, Je, uY⟩ h3
      refine sq (SC.bJ h3 (fun y => ⟨mk 87 [(0, .d ((eL 7 eApiColumn) p0)), (7, .ref 0 0 0), (8, .d (eI (Dx Fa))), (9, .slc 1 3 0 CJ.length none), (10, .slc 2 1 0 ((CG ++ [xU]).length) none), (11, .d (eI Ls)), (12, .ref 3 0 0), (78, .d (eB y))], [.box (.agg [.slc 4 1 0 p1.length none, .d (eI LM), .d (eB Je)]), .row 3 (List.map eApiValue CJ) true, .row 1 (List.map eI (CG ++ [xU])) true, .box (.d (eApiValue uY)), .row 1 (List.map bR p1) true]⟩) ?_ ?_)
      ·intro aiW h4
       refine SC.draws (by kernel_rfl) (t1 ([], false) (mv rfl) rfl (t1 ([], false) (gJ rfl) rfl (t1 ([], false) (far (k := 2) rfl qZ jV rfl) rfl (t1 ([0], false) (aS rfl (aj jV zD rfl rfl)) rfl (t1 ([], false) (mv rfl) rfl (tp h4 (fun h4 => ?_) (fun h4 => ?_)))))))
       ·have q := si h4; subst q
        refine jw rfl (jw rfl (jw rfl (jw rfl (jw rfl (jw rfl (jw rfl (t1 ([], false) (pkt rfl rfl) rfl (ST.nil (And.intro (by decide +kernel) ?_)))))))))
        exact (wq rfl)
       ·obtain ⟨Qd, Vd, h4⟩ := ob h4; obtain ⟨Y4, ab4, h4⟩ := ob h4; have q := si h4; subst q
        refine u1 ([], false) (ww rfl) (mv rfl) rfl (u1 ([], false) (ww rfl) (mv rfl) rfl (u1 ([], false) (ww rfl) (j4 rfl rfl iF jl (ak Vd).1 (aT (ak Vd).2) rfl) rfl (u1 ([], false) (ww rfl) (aS (v := .d (eApiColumn Qd)) rfl (bK jl yg rfl)) rfl (u1 ([3], false) (ww rfl) (aS (v := .d (eApiValue uY)) rfl (aj d9 kD rfl rfl)) rfl (Lj (uN Qd uY _ ab4) (ww rfl) rfl rfl rfl acP rfl (fun _ => rfl) (fun _ => rfl) (u1 ([], false) (ww rfl) (bi rfl rfl bA) rfl (t1 ([], false) (dB rfl rfl) rfl (ST.nil (And.intro (by decide +kernel) ?_)))))))))
        exact (wq rfl)
      ·rintro YG h3
       refine cB h3 rfl (fun h3 => ?_) (fun h3 => ?_)
       ·have q := si h3; subst q; have q : _ = _ := hv3; subst q; have q := si h1; subst q; have q := si h0; subst q
        exact sr (s1 (ig (v := .d .aA) rfl) (s1 (ig (v := .d .aA) rfl) (sa rfl (sn (SC.ret (aV (Wk.trans (Wk.dD (σ' := [.box (.agg [.slc 4 1 0 p1.length none, .d (eI LM), .d (eB Je)]), .row 3 (List.map eApiValue CJ) true, .row 1 (List.map eI (CG ++ [xU])) true, .box (.d (eApiValue uY)), .row 1 (List.map bR p1) true, .row 3 (List.map eApiValue ([] : List ApiValue)) true]) (.row 3 [] true) (fun _ hh => by cases hh) rfl) (Wk.trans (Wk.env (e' := [(4, .slc 5 3 0 (([] : List ApiValue).length) none), (5, .d .aA), (6, .d (eB false))]) (EW.cons (AW.dX _ _ _) (EW.cons (AW.refl _) (EW.cons (AW.refl _) EW.nil)))) (Wk.trans (Wk.dD (σ' := [.box (.agg [.slc 4 1 0 p1.length none, .d (eI LM), .d (eB Je)]), .row 3 (List.map eApiValue CJ) true, .row 1 (List.map eI (CG ++ [xU])) true, .box (.d (eApiValue uY)), .row 1 (List.map bR p1) true, .row 3 (List.map eApiValue ([] : List ApiValue)) true, .row 1 (List.map eI ([] : List Int)) true]) (.row 1 [] true) (fun _ hh => by cases hh) rfl) (Wk.trans (Wk.env (e' := [(4, .slc 5 3 0 (([] : List ApiValue).length) none), (5, .slc 6 1 0 (([] : List Int).length) none), (6, .d (eB false))]) (EW.cons (AW.refl _) (EW.cons (AW.dX _ _ _) (EW.cons (AW.refl _) EW.nil)))) (wc (e' := [(4, .slc 0 3 0 (([] : List ApiValue).length) none), (5, .slc 1 1 0 (([] : List Int).length) none), (6, .d (eB false))]) [5, 6] [5, 6] (by kernel_rfl) rfl (by kernel_rfl)))))) (aI rfl (aI rfl (aI rfl aG))) rfl))))))
       ·obtain ⟨acp, h3⟩ := gd h3
        refine sk (SC.region (sm rfl (s1 (aS (v := .d (eApiValue uY)) rfl (aj d9 kD rfl rfl)) (s1 (tH (k := 5) (ds := List.map eApiValue [uY]) (off := 0) (l' := [uY].length) rfl fu wT rfl rfl (by rfl) rfl rfl rfl) (s1 (app rfl rfl rfl rfl bc28 (aF (f := eApiValue) (xs := CJ) (k := 6) rfl fu wT rfl (dx (xs := [uY]) rfl) acp rfl)) (sa rfl (SO.nil ?_)))))))
        change SC _ _ _ _ _
        have q := si h3; subst q
        exact SC.region (sm rfl (s1 (bi rfl rfl aR) (sa rfl (SO.nil (lf (wc [0, 6, 2, 4] [0, 6, 2] (by kernel_rfl) rfl (by kernel_rfl)))))))
    ·have q := si h3; subst q; have q : _ = _ := hv3; subst q; have q := si h1; subst q
     exact SC.exit (lf (wq rfl))
   ·rintro ⟨aas, aar, aaq, aap⟩ h0
    obtain ⟨UF, ab3, h0⟩ := ob h0; have q := si h0; subst q
    refine sr (sm rfl (sm rfl (sm rfl (cq [0, 3] [] (Dh p1 aaq aap _ ab3) wf rfl rfl rfl aif rfl rfl rfl rfl rfl rfl rfl rfl (sa rfl (sa rfl (sa rfl (sn (SC.ret ?_)))))))))
    exact aV (wc (e' := [(4, .slc 0 3 0 aas.length none), (5, .slc 1 1 0 aar.length none), (6, .d (eB UF))]) [1, 2] [1, 2] (by kernel_rfl) rfl (by kernel_rfl)) (aI rfl (aI rfl (aI rfl aG))) rfl
noncomputable def nT (p0 : List ApiColumn) (p1 : List UInt8) : Option ((List ApiValue) × Int) :=
 Option.bind (jY p0) fun r76 =>
 bif (!r76) then
 some (([] : List ApiValue), (1 : Int))
 else
 Option.bind (oN p0 p1) fun (Uu, r79, S9) =>
 Option.bind (α := Bool)
 (bif (!S9) then
 some true
 else
 some (decide ((p1.length : Int) > (512 : Int))))
 fun Wz =>
 bif Wz then
 some (([] : List ApiValue), (2 : Int))
 else
 Option.bind (α := (List ApiValue))
 (Option.bind (α := (List ApiValue))
 (loop (Y := (List ApiValue) × Int) (W := (List ApiValue)) (fun (TH, y101) =>
 bif (decide (y101 < (p0.length : Int))) then
 Option.bind (bF p0 y101) fun FZ =>
 bif decide ((TH.length + [FZ.Default].length) * 32 ≤ room) then
 some (Sum.inl ((TH ++ [FZ.Default]), (bD (y101 + (1 : Int)))))
 else none
 else
 some (Sum.inr TH)) (Uu, (Uu.length : Int)))
 (fun e => some e))
 fun y96 =>
 some (y96, (0 : Int))
theorem E8 (p0 : List ApiColumn) (p1 : List UInt8) (r : (List ApiValue) × Int) (h0 : nT p0 p1 = some r) : aL Tryz.prog 83 [.d ((eL 7 eApiColumn) p0), .d (eS p1)] [] (.tuple [.d ((eL 3 eApiValue) r.1), .d (eI r.2)]) [] := by
 unfold nT at h0
 refine fn0 [0, 1] Tryz.func83 rfl rfl rfl rfl rfl ?_
 obtain ⟨r76, abL, h0⟩ := ob h0
 refine sr (s1 (ig (v := .d .aA) rfl) (sa rfl (sn (sq (sr (sm rfl (c0 (vK p0 _ abL) wf rfl rfl rfl ahK rfl (fun _ => rfl) (fun _ => rfl) (s1 (nt rfl) (sn ?_)))))))))
 refine cB h0 rfl (fun h0 => ?_) (fun h0 => ?_)
 ·have q := si h0; subst q
  exact sr (s1 (ig (v := .d .aA) rfl) (sa rfl (sn (SC.ret (aV (Wk.env (e' := [(4, .d ((eL 3 eApiValue) ([] : List ApiValue))), (5, .d (eI (1 : Int)))]) (EW.cons (AW.nl _) (EW.cons (AW.refl _) EW.nil))) (aI rfl (aI rfl aG)) rfl)))))
 ·obtain ⟨⟨Uu, r79, S9⟩, abK, h0⟩ := ob h0
  refine sk (sr (sm rfl (sm rfl (cq [] [0, 1] (zV p0 p1 _ abK) wf rfl rfl rfl ahI rfl rfl rfl rfl rfl rfl rfl rfl (sm rfl (s1 (ext rfl rfl) (s1 (ext rfl rfl) (s1 (ext rfl rfl) (sa rfl ?_)))))))))
  refine sa rfl (sa rfl (sn (sq (SC.bJ h0 (fun y => ⟨mk 44 [(0, .d ((eL 7 eApiColumn) p0)), (6, .slc 0 3 0 Uu.length none), (26, .d (eB y))], [.row 3 (List.map eApiValue Uu) true]⟩) ?_ ?_))))
  ·intro anR h1
   refine SC.region (sm rfl (s1 (nt rfl) (sm rfl (sp h1 (fun h1 => ?_) (fun h1 => ?_)))))
   ·have q := si h1; subst q
    exact kw rfl (kw rfl (kw rfl (s1 (pkt rfl rfl) (SO.nil ((wc [0] [0] (by kernel_rfl) rfl (by kernel_rfl)))))))
   ·have q := si h1; subst q
    exact gw rfl (mv rfl) (gw rfl (len rfl rfl rfl (fK l9)) (gw rfl (bi rfl rfl bP) (s1 (dB rfl rfl) (SO.nil ((wc [0] [0] (by kernel_rfl) rfl (by kernel_rfl)))))))
  ·rintro Wz h0
   refine cB h0 rfl (fun h0 => ?_) (fun h0 => ?_)
   ·have q := si h0; subst q
    exact sr (s1 (ig (v := .d .aA) rfl) (sa rfl (sn (SC.ret (aV (Wk.trans (Wk.env (e' := [(4, .d ((eL 3 eApiValue) ([] : List ApiValue))), (5, .d (eI (2 : Int)))]) (EW.cons (AW.nl _) (EW.cons (AW.refl _) EW.nil))) (wc (e' := [(4, .d ((eL 3 eApiValue) ([] : List ApiValue))), (5, .d (eI (2 : Int)))]) [] [] (by kernel_rfl) rfl (by kernel_rfl))) (aI rfl (aI rfl aG)) rfl)))))
   ·refine sk (SC.bJ h0 (fun y => ⟨mk 44 [(6, .slc 0 3 0 y.length none)], [.row 3 (List.map eApiValue y) true]⟩) ?_ ?_)
    ·intro anM h1
     obtain ⟨aaU, h2, h1⟩ := ob h1
     refine sr (sm rfl (s1 (len rfl rfl rfl (dS fu)) (sa rfl (sn (SC.blk (SC.dH h2 (fun y => ⟨mk 44 [(0, .d ((eL 7 eApiColumn) p0)), (6, .slc 0 3 0 y.1.length none), (9, .d (eI y.2))], [.row 3 (List.map eApiValue y.1) true]⟩) (wq rfl) ?_))))))
     intro n110
     rintro ⟨TH, y101⟩ aaH h3 hv3
     refine sq (sr (sm rfl (sm rfl (s1 (len rfl rfl rfl (aZ iF)) (s1 (bi rfl rfl aQ) (sn (cB h3 rfl (fun h3 => ?_) (fun h3 => ?_))))))))
     ·obtain ⟨FZ, M5, h3⟩ := ob h3; obtain ⟨ahs, h3⟩ := gd h3
      refine sk (sq (SC.blk (SC.region (sm rfl (sm rfl (sm rfl (s1 (j4 rfl rfl iF jl (ak M5).1 (aT (ak M5).2) rfl) (s1 (fap rfl KO d9 rfl) (s1 (aS (v := .d (eApiValue FZ.Default)) rfl (bK d9 kD rfl)) ?_)))))))))
      refine s1 (tH (k := 1) (ds := List.map eApiValue [FZ.Default]) (off := 0) (l' := [FZ.Default].length) rfl fu wT rfl rfl (by rfl) rfl rfl rfl) (s1 (app rfl rfl rfl rfl bc28 (aF (f := eApiValue) (xs := TH) (k := 2) rfl fu wT rfl (dx (xs := [FZ.Default]) rfl) ahs rfl)) (sa rfl (SO.nil ?_)))
      change SC _ _ _ _ _
      have q := si h3; subst q
      exact SC.region (sm rfl (s1 (bi rfl rfl aR) (sa rfl (SO.nil (lf (wc [2] [2] (by kernel_rfl) rfl (by kernel_rfl)))))))
     ·have q := si h3; subst q; have q : _ = _ := hv3; subst q; have q := si h1; subst q
      exact SC.exit ((wq rfl))
    ·rintro y96 h0
     have q := si h0; subst q
     exact sr (sm rfl (sa rfl (sa rfl (sn (SC.ret (aV (Wk.trans (Wk.lX (i := 4) (x := .slc 0 3 0 y96.length none) rfl rfl (fF rfl rfl rfl)) (wc (e' := [(4, .d ((eL 3 eApiValue) y96)), (5, .d (eI (0 : Int)))]) [] [] (by kernel_rfl) rfl (by kernel_rfl))) (aI rfl (aI rfl aG)) rfl))))))
noncomputable def qh (p0 : List ApiColumn) (p1 : List UInt8) (p2 : Int) : Option (Int × Int) :=
 Option.bind (nT p0 p1) fun (r36, r37) =>
 bif (r37 != (0 : Int)) then
 some ((0 : Int), r37)
 else
 Option.bind (α := Bool)
 (bif (decide (p2 < (0 : Int))) then
 some true
 else
 some (decide (p2 ≥ (p0.length : Int))))
 fun y38 =>
 bif y38 then
 some ((0 : Int), (1 : Int))
 else
 Option.bind (oN p0 p1) fun (r41, r42, r43) =>
 Option.bind (α := Bool)
 (Option.bind (bF p0 p2) fun v48 =>
 bif (decide (v48.Kind > (2 : Int))) then
 some true
 else
 bif (decide (p2 ≥ (r41.length : Int))) then
 some true
 else
 Option.bind (bF r41 p2) fun v49 =>
 some (v49.Kind == (0 : Int)))
 fun QM =>
 bif QM then
 some ((0 : Int), (8 : Int))
 else
 Option.bind (bF r42 p2) fun v50 =>
 some ((bD (v50 + (1 : Int))), (0 : Int))
theorem Gp (p0 : List ApiColumn) (p1 : List UInt8) (p2 : Int) (r : Int × Int) (h0 : qh p0 p1 p2 = some r) : aL Tryz.prog 54 [.d ((eL 7 eApiColumn) p0), .d (eS p1), .d (eI p2)] [] (.tuple [.d (eI r.1), .d (eI r.2)]) [] := by
 unfold qh at h0
 refine fn0 [0, 1, 2] Tryz.func54 rfl rfl rfl rfl rfl ?_
 obtain ⟨⟨r36, r37⟩, amq, h0⟩ := ob h0
 refine sr (sa rfl (sa rfl (sn (sr (sm rfl (sm rfl (c0 (E8 p0 p1 _ amq) wf rfl rfl rfl am5 rfl (fun _ => rfl) (fun _ => rfl) (sm rfl (s1 (ext rfl rfl) ?_)))))))))
 refine s1 (ext rfl rfl) (sa rfl (sa rfl (sn (sq (sr (sm rfl (s1 (bi rfl rfl bA) (sn (cB h0 rfl (fun h0 => ?_) (fun h0 => ?_))))))))))
 ·have q := si h0; subst q
  exact sr (sm rfl (sa rfl (sa rfl (sn (SC.ret (aV (Wk.refl _) (aI rfl (aI rfl aG)) rfl))))))
 ·refine sk (sq (SC.bJ h0 (fun y => ⟨mk 62 [(0, .d ((eL 7 eApiColumn) p0)), (1, .d (eS p1)), (2, .d (eI p2)), (29, .d (eB y))], []⟩) ?_ ?_))
  ·intro an1 h1
   refine SC.region (sm rfl (s1 (bi rfl rfl aQ) (sm rfl (sp h1 (fun h1 => ?_) (fun h1 => ?_)))))
   ·have q := si h1; subst q
    exact kw rfl (kw rfl (kw rfl (kw rfl (s1 (pkt rfl rfl) (SO.nil ((wq rfl)))))))
   ·have q := si h1; subst q
    exact gw rfl (mv rfl) (gw rfl (mv rfl) (gw rfl (len rfl rfl rfl (aZ iF)) (gw rfl (bi rfl rfl dU) (s1 (dB rfl rfl) (SO.nil ((wq rfl)))))))
  ·rintro y38 h0
   refine cB h0 rfl (fun h0 => ?_) (fun h0 => ?_)
   ·have q := si h0; subst q
    exact sr (sa rfl (sa rfl (sn (SC.ret (aV (Wk.refl _) (aI rfl (aI rfl aG)) rfl)))))
   ·obtain ⟨⟨r41, r42, r43⟩, aml, h0⟩ := ob h0
    refine sk (sr (sm rfl (sm rfl (cq [] [0, 1] (zV p0 p1 _ aml) wf rfl rfl rfl ahI rfl rfl rfl rfl rfl rfl rfl rfl (sm rfl (s1 (ext rfl rfl) (s1 (ext rfl rfl) (s1 (ext rfl rfl) (sa rfl ?_)))))))))
    refine sa rfl (sa rfl (sn (sq (SC.bJ h0 (fun y => ⟨mk 62 [(2, .d (eI p2)), (11, .slc 0 1 0 r42.length none), (56, .d (eB y))], [.row 1 (List.map eI r42) true]⟩) ?_ ?_))))
    ·intro anY h1
     obtain ⟨v48, afy, h1⟩ := ob h1
     refine SC.region (sm rfl (sm rfl (s1 (j4 rfl rfl iF jl (ak afy).1 (aT (ak afy).2) rfl) (s1 (fap rfl ko bO rfl) (s1 (aS rfl (bK bO dW rfl)) (s1 (bi rfl rfl bP) (sm rfl (sp h1 (fun h1 => ?_) (fun h1 => ?_)))))))))
     ·have q := si h1; subst q
      refine kw rfl (kw rfl (kw rfl (kw rfl (s1 (pkt rfl rfl) (sm rfl (kw rfl (kw rfl (kw rfl (kw rfl ?_)))))))))
      exact kw rfl (kw rfl (s1 (pkt rfl rfl) (SO.nil ((wc [1] [1] (by kernel_rfl) rfl (by kernel_rfl))))))
     ·refine gw rfl (mv rfl) (gw rfl (mv rfl) (gw rfl (len rfl rfl rfl (dS fu)) (gw rfl (bi rfl rfl dU) (s1 (dB rfl rfl) (sm rfl (sp h1 (fun h1 => ?_) (fun h1 => ?_)))))))
      ·have q := si h1; subst q
       exact kw rfl (kw rfl (kw rfl (kw rfl (kw rfl (kw rfl (s1 (pkt rfl rfl) (SO.nil ((wc [1] [1] (by kernel_rfl) rfl (by kernel_rfl))))))))))
      ·obtain ⟨v49, afx, h1⟩ := ob h1; have q := si h1; subst q
       exact gw rfl (mv rfl) (gw rfl (mv rfl) (gw rfl (CB rfl rfl fu d9 (fT afx)) (gw rfl (far (k := 0) rfl fH bO rfl) (gw rfl (aS rfl (gH bO dW rfl (aT (ak afx).2) rfl)) (gw rfl (bi rfl rfl aP) (s1 (dB rfl rfl) (SO.nil ((wc [1] [1] (by kernel_rfl) rfl (by kernel_rfl))))))))))
    ·rintro QM h0
     refine cB h0 rfl (fun h0 => ?_) (fun h0 => ?_)
     ·have q := si h0; subst q
      exact sr (sa rfl (sa rfl (sn (SC.ret (aV (wc (e' := [(6, .d (eI (0 : Int))), (7, .d (eI (8 : Int)))]) [] [] (by kernel_rfl) rfl (by kernel_rfl)) (aI rfl (aI rfl aG)) rfl)))))
     ·obtain ⟨v50, afw, h0⟩ := ob h0; have q := si h0; subst q
      refine sk (sr (sm rfl (sm rfl (s1 (CB rfl rfl mO bO (fT afw)) (s1 (aS rfl (gH bO dW rfl (aT (ak afw).2) rfl)) (s1 (bi rfl rfl aR) (sa rfl (sa rfl (sn ?_)))))))))
      exact SC.ret (aV (wc (e' := [(6, .d (eI (bD (v50 + (1 : Int))))), (7, .d (eI (0 : Int)))]) [] [] (by kernel_rfl) rfl (by kernel_rfl)) (aI rfl (aI rfl aG)) rfl)
noncomputable def nU (p0 : ApiValue) (p1 : Bool) : Option ((List UInt8)) :=
 Option.bind (α := (List UInt8))
 (bif (p0.Kind == (0 : Int)) then
 Option.bind (iB (0 : UInt64) (1 : Int)) fun aeW =>
 some aeW
 else
 Option.bind (iB (1 : UInt64) (1 : Int)) fun aeV =>
 some aeV)
 fun FJ =>
 Option.bind (α := (List UInt8))
 (bif (p0.Kind == (1 : Int)) then
 Option.bind (bn (p0.N ^^^ (9223372036854775808 : UInt64)) (8 : Int) FJ) fun aeQ =>
 some aeQ
 else
 bif (p0.Kind == (2 : Int)) then
 Option.bind (bn p0.N (8 : Int) FJ) fun aeP =>
 some aeP
 else
 bif (p0.Kind == (3 : Int)) then
 Option.bind (bn p0.N (1 : Int) FJ) fun aeO =>
 some aeO
 else
 Option.bind (α := Bool)
 (bif (p0.Kind == (4 : Int)) then
 some (p0.Kind == (4 : Int))
 else
 some (p0.Kind == (5 : Int)))
 fun adt =>
 bif adt then
 Option.bind (α := (List UInt8))
 (Option.bind (α := (List UInt8))
 (loop (Y := Int × (List UInt8)) (W := (List UInt8)) (fun (QL, WJ) =>
 bif (decide (QL < (p0.S.length : Int))) then
 Option.bind (α := (List UInt8))
 (Option.bind (bF p0.S QL) fun WX =>
 Option.bind (bn (WX.toUInt64) (1 : Int) WJ) fun Xp =>
 Option.bind (bF p0.S QL) fun ad8 =>
 bif (ad8 == (0 : UInt8)) then
 Option.bind (bn (255 : UInt64) (1 : Int) Xp) fun aeN =>
 some aeN
 else
 some Xp)
 fun adq =>
 some (Sum.inl ((bD (QL + (1 : Int))), adq))
 else
 some (Sum.inr WJ)) ((0 : Int), FJ))
 (fun e => some e))
 fun aau =>
 Option.bind (bn (0 : UInt64) (2 : Int) aau) fun aeM =>
 some aeM
 else
 some FJ)
 fun adu =>
 Option.bind (α := (List UInt8))
 (Option.bind (α := (List UInt8))
 (loop (Y := Int × (List UInt8)) (W := (List UInt8)) (fun (FI, FH) =>
 Option.bind (α := Bool)
 (bif (decide (FI < (FH.length : Int))) then
 some p1
 else
 some false)
 fun adp =>
 bif adp then
 Option.bind (bF FH FI) fun Og =>
 Option.bind (bF FH FI) fun ajG =>
 some (Sum.inl ((bD (FI + (1 : Int))), (List.set FH FI.toNat ((255 : UInt8) - Og))))
 else
 some (Sum.inr FH)) ((0 : Int), adu))
 (fun e => some e))
 fun WI =>
 some WI
theorem E9 (p0 : ApiValue) (p1 : Bool) (r : (List UInt8)) (h0 : nU p0 p1 = some r) : aL Tryz.prog 123 [.d (eApiValue p0), .d (eB p1)] [] (.d ((eL 1 bR) r)) [] := by
 unfold nU at h0
 refine fn0 [0, 1] Tryz.func123 rfl rfl rfl rfl rfl ?_
 refine sr (s1 (nH (k := 0) rfl rfl rfl) (s1 (ig (v := .d .aA) rfl) (sn (sr (s1 (l8 rfl (VW )) (s1 (nH (k := 1) rfl rfl rfl) (sa rfl (sn (SC.bJ h0 (fun y => ⟨mk 94 [(1, .d (eB p1)), (2, .ref 0 0 0), (5, .ref 1 0 0)], [.box (.d (eApiValue p0)), .box (.agg [.slc 2 1 0 y.length none]), .row 1 (List.map bR y) true]⟩) ?_ ?_)))))))))
 ·intro ak3 h1
  refine sr (s1 (far (k := 0) rfl fH bO rfl) (s1 (aS rfl (aj bO dW rfl rfl)) (s1 (bi rfl rfl aP) (sn (cB h1 rfl (fun h1 => ?_) (fun h1 => ?_))))))
  ·obtain ⟨aeW, afP, h1⟩ := ob h1; have q := si h1; subst q
   exact SC.region (sm rfl (cq [1] [2] (oO (0 : UInt64) (1 : Int) _ afP) wf rfl rfl rfl Fv rfl rfl rfl rfl rfl rfl rfl rfl (SO.nil ((wq rfl)))))
  ·obtain ⟨aeV, afO, h1⟩ := ob h1; have q := si h1; subst q
   exact SC.region (sm rfl (cq [1] [2] (oO (1 : UInt64) (1 : Int) _ afO) wf rfl rfl rfl Fv rfl rfl rfl rfl rfl rfl rfl rfl (SO.nil ((wq rfl)))))
 ·rintro FJ h0
  refine SC.bJ h0 (fun y => ⟨mk 94 [(1, .d (eB p1)), (5, .ref 0 0 0)], [.box (.agg [.slc 1 1 0 y.length none]), .row 1 (List.map bR y) true]⟩) ?_ ?_
  ·intro ak1 h1
   refine sr (s1 (far (k := 0) rfl fH bO rfl) (s1 (aS rfl (aj bO dW rfl rfl)) (sn (SC.blk (sr (s1 (bi rfl rfl aP) (sa rfl (sn (cB h1 rfl (fun h1 => ?_) (fun h1 => ?_))))))))))
   ·obtain ⟨aeQ, afM, h1⟩ := ob h1; have q := si h1; subst q
    exact SC.region (sm rfl (s1 (far (k := 1) rfl iK fU rfl) (s1 (aS rfl (aj fU lY rfl rfl)) (s1 (bi rfl rfl (Jo (b := (9223372036854775808 : UInt64)))) (cq [1, 2] [3] (dQ (p0.N ^^^ (9223372036854775808 : UInt64)) (8 : Int) FJ _ afM) wf rfl rfl rfl Fv rfl rfl rfl rfl rfl rfl rfl rfl (SO.nil ((wc [1, 3] [1] (by kernel_rfl) rfl (by kernel_rfl)))))))))
   ·refine sr (s1 (bi rfl rfl aP) (sa rfl (sn (cB h1 rfl (fun h1 => ?_) (fun h1 => ?_)))))
    ·obtain ⟨aeP, afL, h1⟩ := ob h1; have q := si h1; subst q
     exact SC.region (sm rfl (s1 (far (k := 1) rfl iK fU rfl) (s1 (aS rfl (aj fU lY rfl rfl)) (cq [1, 2] [3] (dQ p0.N (8 : Int) FJ _ afL) wf rfl rfl rfl Fv rfl rfl rfl rfl rfl rfl rfl rfl (SO.nil ((wc [1, 3] [1] (by kernel_rfl) rfl (by kernel_rfl))))))))
    ·refine sr (s1 (bi rfl rfl aP) (sa rfl (sn (cB h1 rfl (fun h1 => ?_) (fun h1 => ?_)))))
     ·obtain ⟨aeO, afK, h1⟩ := ob h1; have q := si h1; subst q
      exact SC.region (sm rfl (s1 (far (k := 1) rfl iK fU rfl) (s1 (aS rfl (aj fU lY rfl rfl)) (cq [1, 2] [3] (dQ p0.N (1 : Int) FJ _ afK) wf rfl rfl rfl Fv rfl rfl rfl rfl rfl rfl rfl rfl (SO.nil ((wc [1, 3] [1] (by kernel_rfl) rfl (by kernel_rfl))))))))
     ·refine SC.bJ h1 (fun y => ⟨mk 94 [(1, .d (eB p1)), (2, .ref 0 0 0), (5, .ref 1 0 0), (38, .d (eB y))], [.box (.d (eApiValue p0)), .box (.agg [.slc 2 1 0 FJ.length none]), .row 1 (List.map bR FJ) true]⟩) ?_ ?_
      ·intro akn h2
       refine sr (s1 (bi rfl rfl aP) (sa rfl (sn (cB h2 rfl (fun h2 => ?_) (fun h2 => ?_)))))
       ·have q := si h2; subst q
        exact SC.skip ((wq rfl))
       ·have q := si h2; subst q
        exact SC.region (s1 (bi rfl rfl aP) (sa rfl (SO.nil ((wq rfl)))))
      ·rintro adt h1
       refine cB h1 rfl (fun h1 => ?_) (fun h1 => ?_)
       ·refine SC.bJ h1 (fun y => ⟨mk 94 [(1, .d (eB p1)), (5, .ref 0 0 0)], [.box (.agg [.slc 1 1 0 y.length none]), .row 1 (List.map bR y) true]⟩) ?_ ?_
        ·intro akm h2
         obtain ⟨akh, h3, h2⟩ := ob h2
         refine sr (sa rfl (sn (SC.blk (SC.dH h3 (fun y => ⟨mk 94 [(1, .d (eB p1)), (2, .ref 0 0 0), (5, .ref 1 0 0), (6, .d (eI y.1))], [.box (.d (eApiValue p0)), .box (.agg [.slc 2 1 0 y.2.length none]), .row 1 (List.map bR y.2) true]⟩) (wq rfl) ?_))))
         intro aoj
         rintro ⟨QL, WJ⟩ ajf h4 hv4
         refine sq (sr (sm rfl (s1 (far (k := 2) rfl iO eT rfl) (s1 (aS rfl (aj eT jy rfl rfl)) (s1 (len rfl rfl rfl (fK l9)) (s1 (bi rfl rfl aQ) (sn (cB h4 rfl (fun h4 => ?_) (fun h4 => ?_)))))))))
         ·refine sk (SC.bJ h4 (fun y => ⟨mk 94 [(1, .d (eB p1)), (2, .ref 0 0 0), (5, .ref 1 0 0), (6, .d (eI QL))], [.box (.d (eApiValue p0)), .box (.agg [.slc 2 1 0 y.length none]), .row 1 (List.map bR y) true]⟩) ?_ ?_)
          ·intro ajW h5
           obtain ⟨WX, Zl, h5⟩ := ob h5; obtain ⟨Xp, afI, h5⟩ := ob h5; obtain ⟨ad8, Zk, h5⟩ := ob h5
           refine SC.blk (sr (sm rfl (s1 (far (k := 2) rfl iO eT rfl) (s1 (aS rfl (aj eT jy rfl rfl)) (sm rfl (s1 (ixs rfl rfl rfl rfl (j6 l9 (ak Zl).1 (ak Zl).2)) (s1 (tF rfl (vW uX uD WX)) (cq [1, 2] [3] (dQ (WX.toUInt64) (1 : Int) WJ _ afI) wf rfl rfl rfl Fv rfl rfl rfl rfl rfl rfl rfl rfl (sn ?_)))))))))
           refine sr (s1 (far (k := 2) rfl iO eT rfl) (s1 (aS rfl (aj eT jy rfl rfl)) (sm rfl (s1 (ixs rfl rfl rfl rfl (j6 l9 (ak Zk).1 (ak Zk).2)) (s1 (bi rfl rfl (Gw (b := (0 : UInt8)))) (sn (cB h5 rfl (fun h5 => ?_) (fun h5 => ?_))))))))
           ·obtain ⟨aeN, afH, h5⟩ := ob h5; have q := si h5; subst q
            exact SC.region (sm rfl (cq [1, 3] [4] (dQ (255 : UInt64) (1 : Int) Xp _ afH) wf rfl rfl rfl Fv rfl rfl rfl rfl rfl rfl rfl rfl (SO.nil ((wc [0, 1, 4] [0, 1] (by kernel_rfl) rfl (by kernel_rfl))))))
           ·have q := si h5; subst q
            exact SC.skip ((wc [0, 1, 3] [0, 1] (by kernel_rfl) rfl (by kernel_rfl)))
          ·rintro adq h4
           have q := si h4; subst q
           exact SC.region (sm rfl (s1 (bi rfl rfl aR) (sa rfl (SO.nil (lf (wq rfl))))))
         ·have q := si h4; subst q; have q : _ = _ := hv4; subst q; have q := si h2; subst q
          exact SC.exit ((wc [1, 2] [1] (by kernel_rfl) rfl (by kernel_rfl)))
        ·rintro aau h1
         obtain ⟨aeM, afG, h1⟩ := ob h1; have q := si h1; subst q
         exact SC.region (sm rfl (cq [0, 1] [2] (dQ (0 : UInt64) (2 : Int) aau _ afG) wf rfl rfl rfl Fv rfl rfl rfl rfl rfl rfl rfl rfl (SO.nil ((wc [0, 2] [0] (by kernel_rfl) rfl (by kernel_rfl))))))
       ·have q := si h1; subst q
        exact SC.skip ((wc [1, 2] [1] (by kernel_rfl) rfl (by kernel_rfl)))
  ·rintro adu h0
   refine SC.bJ h0 (fun y => ⟨mk 94 [(5, .ref 0 0 0)], [.box (.agg [.slc 1 1 0 y.length none]), .row 1 (List.map bR y) true]⟩) ?_ ?_
   ·intro akZ h1
    obtain ⟨akl, h2, h1⟩ := ob h1
    refine sr (sa rfl (sn (SC.blk (SC.dH h2 (fun y => ⟨mk 94 [(1, .d (eB p1)), (5, .ref 0 0 0), (7, .d (eI y.1))], [.box (.agg [.slc 1 1 0 y.2.length none]), .row 1 (List.map bR y.2) true]⟩) (wq rfl) ?_))))
    intro aoi
    rintro ⟨FI, FH⟩ ajj h3 hv3
    refine sq (SC.bJ h3 (fun y => ⟨mk 94 [(1, .d (eB p1)), (5, .ref 0 0 0), (7, .d (eI FI)), (73, .d (eB y))], [.box (.agg [.slc 1 1 0 FH.length none]), .row 1 (List.map bR FH) true]⟩) ?_ ?_)
    ·intro aj3 h4
     refine SC.region (sm rfl (sm rfl (s1 (gJ rfl) (s1 (far (k := 0) rfl jP bS rfl) (s1 (aS rfl (aj bS gL rfl rfl)) (s1 (len rfl rfl rfl (dS bW)) (s1 (bi rfl rfl aQ) (sm rfl (sp h4 (fun h4 => ?_) (fun h4 => ?_))))))))))
     ·have q := si h4; subst q
      exact gw rfl (mv rfl) (s1 (pkt rfl rfl) (SO.nil ((wq rfl))))
     ·have q := si h4; subst q
      exact kw rfl (s1 (dB rfl rfl) (SO.nil ((wq rfl))))
    ·rintro adp h3
     refine cB h3 rfl (fun h3 => ?_) (fun h3 => ?_)
     ·obtain ⟨Og, Zj, h3⟩ := ob h3; obtain ⟨ajG, Zi, h3⟩ := ob h3
      refine sk (sq (SC.blk (SC.draws (by kernel_rfl) (t1 ([], false) (mv rfl) rfl (t1 ([], false) (gJ rfl) rfl (t1 ([], false) (far (k := 0) rfl jP bS rfl) rfl (t1 ([0], false) (aS rfl (aj bS gL rfl rfl)) rfl (t1 ([], false) (mv rfl) rfl (t1 ([], false) (mv rfl) rfl ?_)))))))))
      refine t1 ([], false) (gJ rfl) rfl (t1 ([], false) (far (k := 0) rfl jP bS rfl) rfl (t1 ([0], false) (aS rfl (aj bS gL rfl rfl)) rfl (t1 ([], false) (mv rfl) rfl (t1 ([], false) (CB rfl rfl bW qQ (fT Zj)) rfl (t1 ([1], false) (aS rfl (gH qQ Ov rfl (aT (ak Zj).2) rfl)) rfl (t1 ([], false) (bi rfl rfl (UK (a := (255 : UInt8)))) rfl (t1 ([], false) (CB rfl rfl bW qQ (fT Zi)) rfl (t0 ([1], true) (fJ (b := .d (bR ((255 : UInt8) - Og))) rfl rfl (sR (f := bR) (v := ((255 : UInt8) - Og)) qQ rfl rfl rfl rfl (ak Zi).2 rfl rfl)) rfl (ST.nil (And.intro (by decide +kernel) ?_))))))))))
      change SC _ _ _ _ _
      have q := si h3; subst q
      exact SC.region (sm rfl (s1 (bi rfl rfl aR) (sa rfl (SO.nil (lf (Wk.trans (wq (e' := [(1, .d (eB p1)), (5, .ref 0 0 0), (7, .d (eI (bD (FI + (1 : Int)))))]) rfl) (Wk.jh (id := 0) (y := .agg [.slc 1 1 0 ((List.set FH FI.toNat ((255 : UInt8) - Og)).length) none]) (σ' := [.box (.agg [.slc 1 1 0 ((List.set FH FI.toNat ((255 : UInt8) - Og)).length) none]), .row 1 (List.map bR (List.set FH FI.toNat ((255 : UInt8) - Og))) true]) rfl (dh.cons (AW.slc rfl (by simp)) dh.nil) rfl)))))))
     ·have q := si h3; subst q; have q : _ = _ := hv3; subst q; have q := si h1; subst q
      exact SC.exit ((wq rfl))
   ·rintro WI h0
    have q := si h0; subst q
    exact sr (sm rfl (s1 (gJ rfl) (s1 (far (k := 0) rfl jP bS rfl) (s1 (aS rfl (aj bS gL rfl rfl)) (sa rfl (sn (SC.ret (aV (Wk.trans (Wk.lX (i := 4) (x := .slc 1 1 0 WI.length none) rfl rfl (fF rfl rfl rfl)) (wc (e' := [(4, .d ((eL 1 bR) WI))]) [] [] (by kernel_rfl) rfl (by kernel_rfl))) (aI rfl aG) rfl))))))))
noncomputable def nD (p0 : List ApiValue) (p1 : List Bool) : Option ((List UInt8)) :=
 Option.bind (α := (List UInt8))
 (Option.bind (α := (List UInt8))
 (loop (Y := (List UInt8) × Int) (W := (List UInt8)) (fun (EN, LJ) =>
 bif (decide (LJ < (p0.length : Int))) then
 Option.bind (bF p0 LJ) fun WY =>
 Option.bind (bF p1 LJ) fun ES =>
 Option.bind (nU WY ES) fun abo =>
 bif decide ((EN.length + abo.length) * 1 ≤ room) then
 some (Sum.inl ((EN ++ abo), (bD (LJ + (1 : Int)))))
 else none
 else
 some (Sum.inr EN)) (([] : List UInt8), (0 : Int)))
 (fun e => some e))
 fun rJ =>
 some rJ
theorem Gr (p0 : List ApiValue) (p1 : List Bool) (r : (List UInt8)) (h0 : nD p0 p1 = some r) : aL Tryz.prog 105 [.d ((eL 3 eApiValue) p0), .d ((eL 1 eB) p1)] [] (.d (eS r)) [] := by
 unfold nD at h0
 refine fn0 [0, 1] Tryz.func105 rfl rfl rfl rfl rfl ?_
 refine sr (s1 (ig (v := .d (eS ([] : List UInt8))) rfl) (sn (sr (s1 (ig (v := .d .aA) rfl) (sn (SC.bJ h0 (fun y => ⟨mk 26 [(5, .slc 0 1 0 y.length none)], [.row 1 (List.map bR y) true]⟩) ?_ ?_))))))
 ·intro alz h1
  obtain ⟨akM, h2, h1⟩ := ob h1
  refine sr (sa rfl (sn (SC.blk (SC.dH h2 (fun y => ⟨mk 26 [(0, .d ((eL 3 eApiValue) p0)), (1, .d ((eL 1 eB) p1)), (5, .slc 0 1 0 y.1.length none), (6, .d (eI y.2))], [.row 1 (List.map bR y.1) true]⟩) (Wk.trans (Wk.dD (σ' := [.row 1 (List.map bR ([] : List UInt8)) true]) (.row 1 [] true) (fun _ hh => by cases hh) rfl) (Wk.trans (Wk.env (e' := [(0, .d ((eL 3 eApiValue) p0)), (1, .d ((eL 1 eB) p1)), (5, .slc 0 1 0 (([] : List UInt8).length) none), (6, .d (eI (0 : Int)))]) (EW.cons (AW.refl _) (EW.cons (AW.refl _) (EW.cons (AW.dX _ _ _) (EW.cons (AW.refl _) EW.nil))))) (wq rfl))) ?_))))
  intro n139
  rintro ⟨EN, LJ⟩ ajx h3 hv3
  refine sq (sr (sm rfl (sm rfl (s1 (len rfl rfl rfl (aZ fu)) (s1 (bi rfl rfl aQ) (sn (cB h3 rfl (fun h3 => ?_) (fun h3 => ?_))))))))
  ·obtain ⟨WY, ZV, h3⟩ := ob h3; obtain ⟨ES, MZ, h3⟩ := ob h3; obtain ⟨abo, agN, h3⟩ := ob h3; obtain ⟨ahm, h3⟩ := gd h3
   refine sk (sq (SC.blk (SC.draws (by kernel_rfl) (t1 ([], false) (mv rfl) rfl (t1 ([], false) (mv rfl) rfl (t1 ([], false) (mv rfl) rfl (t1 ([], false) (j4 rfl rfl fu d9 (ak ZV).1 (aT (ak ZV).2) rfl) rfl (t1 ([], false) (aS (v := .d (eApiValue WY)) rfl (bK d9 kD rfl)) rfl (t1 ([], false) (mv rfl) rfl ?_)))))))))
   refine t1 ([], false) (mv rfl) rfl (t1 ([], false) (j4 rfl rfl F3 jV (ak MZ).1 (aT (ak MZ).2) rfl) rfl (t1 ([], false) (aS rfl (bK jV zD rfl)) rfl (Lj (E9 WY ES _ agN) wf rfl rfl rfl ah7 rfl (fun _ => rfl) (fun _ => rfl) (t1 ([0, 1], true) (app rfl rfl rfl rfl yX (aF (f := bR) (xs := EN) (k := 1) rfl bW DT rfl AO ahm rfl)) rfl (t1 ([], false) (ig rfl) rfl (ST.nil (And.intro (by decide +kernel) ?_)))))))
   change SC _ _ _ _ _
   have q := si h3; subst q
   exact SC.region (sm rfl (s1 (bi rfl rfl aR) (sa rfl (SO.nil (lf (wc [1] [1] (by kernel_rfl) rfl (by kernel_rfl)))))))
  ·have q := si h3; subst q; have q : _ = _ := hv3; subst q; have q := si h1; subst q
   exact SC.exit ((wq rfl))
 ·rintro rJ h0
  have q := si h0; subst q
  exact sr (sm rfl (s1 (tF (v := .d (eS rJ)) rfl (iy bW l9 uX (dx (xs := rJ) rfl) (fun _ hh => by cases hh))) (sa rfl (sn (SC.ret (aV (wc (e' := [(4, .d (eS rJ))]) [] [] (by kernel_rfl) rfl (by kernel_rfl)) (aI rfl aG) rfl))))))
noncomputable def qc (p0 : List ApiPart) (p1 : List ApiValue) : Option ((List UInt8) × Bool) :=
 Option.bind (α := (List ApiValue) × (List Bool) × Bool)
 (Option.bind (α := (List ApiValue) × (List Bool) × Bool)
 (loop (Y := (List ApiValue) × (List Bool) × Bool × Int) (W := (List ApiValue) × (List Bool) × Bool) (fun (Ac, EM, qW, y157) =>
 bif (decide (y157 < (p0.length : Int))) then
 Option.bind (bF p0 y157) fun aem =>
 Option.bind (bF p1 aem.Col) fun FV =>
 bif decide ((Ac.length + [FV].length) * 32 ≤ room) then
 Option.bind (bF p0 y157) fun Ol =>
 bif decide ((EM.length + [Ol.Down].length) * 1 ≤ room) then
 bif qW then
 some (Sum.inl ((Ac ++ [FV]), (EM ++ [Ol.Down]), true, (bD (y157 + (1 : Int)))))
 else
 some (Sum.inl ((Ac ++ [FV]), (EM ++ [Ol.Down]), (FV.Kind == (0 : Int)), (bD (y157 + (1 : Int)))))
 else none
 else none
 else
 some (Sum.inr (Ac, EM, qW))) (([] : List ApiValue), ([] : List Bool), false, (0 : Int)))
 (fun e => some e))
 fun (TB, TA, aaF) =>
 Option.bind (nD TB TA) fun abg =>
 some (abg, aaF)
theorem Gg (p0 : List ApiPart) (p1 : List ApiValue) (r : (List UInt8) × Bool) (h0 : qc p0 p1 = some r) : aL Tryz.prog 73 [.d ((eL 2 eApiPart) p0), .d ((eL 3 eApiValue) p1)] [] (.tuple [.d (eS r.1), .d (eB r.2)]) [] := by
 unfold qc at h0
 refine fn0 [0, 1] Tryz.func73 rfl rfl rfl rfl rfl ?_
 refine sr (s1 (ig (v := .d (eS ([] : List UInt8))) rfl) (sa rfl (sn (sr (s1 (ig (v := .d .aA) rfl) (sn (sr (s1 (ig (v := .d .aA) rfl) (sn ?_)))))))))
 refine sr (sa rfl (sn (SC.bJ h0 (fun y => ⟨mk 47 [(6, .slc 0 3 0 y.1.length none), (7, .slc 1 1 0 y.2.1.length none), (8, .d (eB y.2.2))], [.row 3 (List.map eApiValue y.1) true, .row 1 (List.map eB y.2.1) true]⟩) ?_ ?_)))
 ·intro alr h1
  obtain ⟨akF, h2, h1⟩ := ob h1
  refine sr (sa rfl (sn (SC.blk (SC.dH h2 (fun y => ⟨mk 47 [(0, .d ((eL 2 eApiPart) p0)), (1, .d ((eL 3 eApiValue) p1)), (6, .slc 0 3 0 y.1.length none), (7, .slc 1 1 0 y.2.1.length none), (8, .d (eB y.2.2.1)), (9, .d (eI y.2.2.2))], [.row 3 (List.map eApiValue y.1) true, .row 1 (List.map eB y.2.1) true]⟩) (Wk.trans (Wk.dD (σ' := [.row 3 (List.map eApiValue ([] : List ApiValue)) true]) (.row 3 [] true) (fun _ hh => by cases hh) rfl) (Wk.trans (Wk.env (e' := [(0, .d ((eL 2 eApiPart) p0)), (1, .d ((eL 3 eApiValue) p1)), (6, .slc 0 3 0 (([] : List ApiValue).length) none), (7, .d .aA), (8, .d (eB false)), (9, .d (eI (0 : Int)))]) (EW.cons (AW.refl _) (EW.cons (AW.refl _) (EW.cons (AW.dX _ _ _) (EW.cons (AW.refl _) (EW.cons (AW.refl _) (EW.cons (AW.refl _) EW.nil))))))) (Wk.trans (Wk.dD (σ' := [.row 3 (List.map eApiValue ([] : List ApiValue)) true, .row 1 (List.map eB ([] : List Bool)) true]) (.row 1 [] true) (fun _ hh => by cases hh) rfl) (Wk.trans (Wk.env (e' := [(0, .d ((eL 2 eApiPart) p0)), (1, .d ((eL 3 eApiValue) p1)), (6, .slc 0 3 0 (([] : List ApiValue).length) none), (7, .slc 1 1 0 (([] : List Bool).length) none), (8, .d (eB false)), (9, .d (eI (0 : Int)))]) (EW.cons (AW.refl _) (EW.cons (AW.refl _) (EW.cons (AW.refl _) (EW.cons (AW.dX _ _ _) (EW.cons (AW.refl _) (EW.cons (AW.refl _) EW.nil))))))) (wq rfl))))) ?_))))
  intro n174
  rintro ⟨Ac, EM, qW, y157⟩ ajv h3 hv3
  refine sq (sr (sm rfl (sm rfl (s1 (len rfl rfl rfl (aZ xP)) (s1 (bi rfl rfl aQ) (sn (cB h3 rfl (fun h3 => ?_) (fun h3 => ?_))))))))
  ·obtain ⟨aem, ZQ, h3⟩ := ob h3; obtain ⟨FV, ZP, h3⟩ := ob h3; obtain ⟨ahk, h3⟩ := gd h3; obtain ⟨Ol, ZO, h3⟩ := ob h3; obtain ⟨ahj, h3⟩ := gd h3
   refine sk (sq (SC.blk (sr (sm rfl (sm rfl (sm rfl (s1 (j4 rfl rfl xP JY (ak ZQ).1 (aT (ak ZQ).2) rfl) (s1 (fap rfl Dy bO rfl) (s1 (aS rfl (bK bO dW rfl)) ?_)))))))))
   refine s1 (j4 rfl rfl fu d9 (ak ZP).1 (aT (ak ZP).2) rfl) (s1 (aS (v := .d (eApiValue FV)) rfl (bK d9 kD rfl)) (s1 (qV (k := 2) JH rfl) (s0 (fJ rfl rfl (sB (d' := .d (eApiValue FV)) d9 rfl rfl rfl rfl rfl rfl rfl)) (sn (sr (sm rfl (s1 (aS (v := .d (eApiValue FV)) rfl (aj d9 kD rfl rfl)) (s1 (tH (k := 3) (ds := List.map eApiValue [FV]) (off := 0) (l' := [FV].length) rfl fu wT rfl rfl (by rfl) rfl rfl rfl) (s1 (app rfl rfl rfl rfl bc28 (aF (f := eApiValue) (xs := Ac) (k := 4) rfl fu wT rfl (dx (xs := [FV]) rfl) ahk rfl)) ?_)))))))))
   refine sa rfl (sn (sr (sm rfl (sm rfl (sm rfl (s1 (j4 rfl rfl xP JY (ak ZO).1 (aT (ak ZO).2) rfl) (s1 (fap rfl Vz jV rfl) (s1 (aS rfl (bK jV zD rfl)) (s1 (tH (k := 5) (ds := List.map eB [Ol.Down]) (off := 0) (l' := [Ol.Down].length) rfl F3 ei4 rfl rfl (by rfl) rfl rfl rfl) ?_)))))))))
   refine s1 (app rfl rfl rfl rfl aaj (aF (f := eB) (xs := EM) (k := 6) rfl F3 ei4 rfl (dx (xs := [Ol.Down]) rfl) ahj rfl)) (sa rfl (sn (SC.region (sm rfl (sm rfl (sp h3 (fun h3 => ?_) (fun h3 => ?_)))))))
   ·refine kw rfl (kw rfl (kw rfl (s1 (pkt rfl rfl) (sa rfl (SO.nil ?_)))))
    change SC _ _ _ _ _
    have q := si h3; subst q
    exact SC.region (sm rfl (s1 (bi rfl rfl aR) (sa rfl (SO.nil (lf (wc [4, 6] [4, 6] (by kernel_rfl) rfl (by kernel_rfl)))))))
   ·refine gw rfl (far (k := 0) rfl fH bO rfl) (gw rfl (aS rfl (aj bO dW rfl rfl)) (gw rfl (bi rfl rfl aP) (s1 (dB rfl rfl) (sa rfl (SO.nil ?_)))))
    change SC _ _ _ _ _
    have q := si h3; subst q
    exact SC.region (sm rfl (s1 (bi rfl rfl aR) (sa rfl (SO.nil (lf (wc [4, 6] [4, 6] (by kernel_rfl) rfl (by kernel_rfl)))))))
  ·have q := si h3; subst q; have q : _ = _ := hv3; subst q; have q := si h1; subst q
   exact SC.exit ((wq rfl))
 ·rintro ⟨TB, TA, aaF⟩ h0
  obtain ⟨abg, agC, h0⟩ := ob h0; have q := si h0; subst q
  exact sr (sm rfl (sm rfl (cq (args' := [.slc 0 3 0 TB.length none, .slc 1 1 0 TA.length none]) (lT := [.row 3 (List.map eApiValue TB) true, .row 1 (List.map eB TA) true]) [0, 1] [] (aL.lX (fM.lX (fF rfl rfl rfl) (fM.lX (fF rfl rfl rfl) (fM.nil _))) (fq [] [] (Gr TB TA _ agC) rfl rfl rfl rfl rfl rfl rfl rfl)) wf rfl rfl rfl ail rfl rfl rfl rfl rfl rfl rfl rfl (sm rfl (sa rfl (sa rfl (sn (SC.ret (aV (wc (e' := [(4, .d (eS abg)), (5, .d (eB aaF))]) [] [] (by kernel_rfl) rfl (by kernel_rfl)) (aI rfl (aI rfl aG)) rfl)))))))))
noncomputable def jW (p0 : ApiTable) (p1 : List ApiValue) : Option ((List UInt8)) :=
 Option.bind (vI p0.bB) fun r13 =>
 Option.bind (qc r13 p1) fun (r15, r16) =>
 some r15
theorem Da (p0 : ApiTable) (p1 : List ApiValue) (r : (List UInt8)) (h0 : jW p0 p1 = some r) : aL Tryz.prog 37 [.d (eApiTable p0), .d ((eL 3 eApiValue) p1)] [] (.d (eS r)) [] := by
 unfold jW at h0
 refine fn0 [0, 1] Tryz.func37 rfl rfl rfl rfl rfl ?_
 obtain ⟨r13, hq12, h0⟩ := ob h0; obtain ⟨⟨r15, r16⟩, amA, h0⟩ := ob h0; have q := si h0; subst q
 refine sr (s1 (nH (k := 0) rfl rfl rfl) (s1 (ig (v := .d (eS ([] : List UInt8))) rfl) (sn (sr (s1 (far (k := 2) rfl sI jA rfl) (s1 (aS rfl (aj jA vo rfl rfl)) (c0 (Es p0.bB _ hq12) wf rfl rfl rfl ahU rfl (fun _ => rfl) (fun _ => rfl) (sm rfl (c0 (Gg r13 p1 _ amA) wf rfl rfl rfl anb rfl (fun _ => rfl) (fun _ => rfl) ?_)))))))))
 refine sm rfl (s1 (ext rfl rfl) (s1 (ext rfl rfl) (sa rfl (sa rfl (sn (sr (sm rfl (sa rfl (sn ?_)))))))))
 exact SC.ret (aV (wc (e' := [(4, .d (eS r15))]) [] [] (by kernel_rfl) rfl (by kernel_rfl)) (aI rfl aG) rfl)
noncomputable def qb (p0 : List UInt8) : Option Unit :=
 bif decide (p0.length + ([0] : List UInt8).length ≤ 9223372036854775807) then
 some ()
 else none
theorem Gf (p0 : List UInt8) (r : Unit) (h0 : qb p0 = some r) : aL Tryz.prog 7 [.d (eS p0)] [] (.d (eZ (aU.mk p0 (p0 ++ ([0] : List UInt8)) false))) [.box (.d (eZ (aU.mk p0 (p0 ++ ([0] : List UInt8)) false)))] := by
 unfold qb at h0
 refine fn0 [0] Tryz.func7 rfl rfl rfl rfl rfl ?_
 obtain ⟨hg3, h0⟩ := gd h0; have q := si h0; subst q
 refine sr (s1 (qV (k := 0) WG rfl) (sn (sr (sm rfl (sm rfl (s1 (bi (v := .d (eS (p0 ++ ([0] : List UInt8)))) rfl rfl (fun X Y => wh _ X Y p0 ([0] : List UInt8) hg3)) (s1 (l8 rfl (Nt p0 (p0 ++ ([0] : List UInt8)))) (s0 (fJ rfl rfl (sB (d' := .d (eZ (aU.mk p0 (p0 ++ ([0] : List UInt8)) false))) Ah rfl rfl rfl rfl rfl rfl rfl)) (sn ?_)))))))))
 exact SC.ret (aV (Wk.refl _) (gD rfl (aj Ah J2 rfl rfl) aG) rfl)
noncomputable def nR (p0 : Int) (p1 : List UInt8) : Option Unit :=
 Option.bind (qb p1) fun _ =>
 bif decide ([(ay.mk p0 (aU.mk p1 (p1 ++ ([0] : List UInt8)) false) true)].length * 56 ≤ room) then
 some ()
 else none
theorem BF (p0 : Int) (p1 : List UInt8) (r : Unit) (h0 : nR p0 p1 = some r) : aL Tryz.prog 38 [.ref 0 0 0, .d (eI p0), .d (eS p1)] [.box (.d (.agg [.aA, .aA, .aA]))] (.tuple []) [.box (.agg [.d .aA, .slc 1 5 0 ([(ay.mk p0 (aU.mk p1 (p1 ++ ([0] : List UInt8)) false) true)].length) none, .d .aA]), .row 5 (List.map aK [(ay.mk p0 (aU.mk p1 (p1 ++ ([0] : List UInt8)) false) true)]) true] := by
 unfold nR at h0
 refine fn0 [0, 1, 2] Tryz.func38 rfl rfl rfl rfl rfl ?_
 obtain ⟨_, XP, h0⟩ := ob h0; obtain ⟨hg6, h0⟩ := gd h0; have q := si h0; subst q
 refine SC.draws (by kernel_rfl) (t1 ([], false) (mv rfl) rfl (t1 ([], false) (mv rfl) rfl (t1 ([], false) (gJ rfl) rfl (t1 ([], false) (far (k := 1) rfl Pg sW rfl) rfl (t1 ([0], false) (aS rfl (aj sW Ox rfl rfl)) rfl (t1 ([], false) (mv rfl) rfl (t1 ([], false) (mv rfl) rfl (tq [] [1] ([1], true) (Gf p1 _ XP) wf rfl rfl rfl cb7 rfl rfl rfl rfl rfl rfl rfl rfl rfl (t1 ([], false) (l8 rfl (yV p0 (aU.mk p1 (p1 ++ ([0] : List UInt8)) false) true)) rfl ?_)))))))))
 refine t1 ([2], true) (tH (k := 2) (ds := List.map aK [(ay.mk p0 (aU.mk p1 (p1 ++ ([0] : List UInt8)) false) true)]) (off := 0) (l' := [(ay.mk p0 (aU.mk p1 (p1 ++ ([0] : List UInt8)) false) true)].length) rfl Bn EC rfl rfl (by rfl) rfl rfl rfl) rfl (t1 ([2, 3], true) (app rfl rfl rfl rfl Yf (aN (f := aK) (k := 3) Bn EC (dx (xs := [(ay.mk p0 (aU.mk p1 (p1 ++ ([0] : List UInt8)) false) true)]) rfl) hg6 rfl)) rfl (t1 ([], false) (gJ rfl) rfl (t1 ([], false) (far (k := 1) rfl Pg sW rfl) rfl (t0 ([0, 3], true) (fJ rfl rfl (sB (d' := .agg [.d .aA, .slc 3 5 0 ([(ay.mk p0 (aU.mk p1 (p1 ++ ([0] : List UInt8)) false) true)].length) none, .d .aA]) sW rfl rfl rfl rfl rfl rfl rfl)) rfl (ST.nil (And.intro (by decide +kernel) ?_))))))
 exact kG (wc (e' := []) [0, 3] [0] (by kernel_rfl) rfl (by kernel_rfl)) aG rfl
end Lv
