/- Part of the proof of a law: functions and their walks. -/
import Derived.Test.YtddopjhkmkoicaaGreatDoorXFn1
namespace Lv
open Go Go.Proofs
set_option linter.unusedVariables false
set_option linter.unusedSimpArgs false
set_option linter.unusedSectionVars false
set_option maxRecDepth 100000
variable [BaseTab] [TabOk]
noncomputable def oL (p0 : ApiColumn) (p1 : Int) : Option Int :=
 Option.bind (α := Bool)
 (bif (p0.Kind == (1 : Int)) then
 some (p0.Kind == (1 : Int))
 else
 some (p0.Kind == (2 : Int)))
 fun y6 =>
 bif y6 then
 some (9 : Int)
 else
 bif (p0.Kind == (3 : Int)) then
 some (2 : Int)
 else
 some (bD ((3 : Int) + (bD (p1 * p0.Max))))
theorem zS (p0 : ApiColumn) (p1 : Int) (r : Int) (h0 : oL p0 p1 = some r) : aL Tryz.prog 63 [.d (eApiColumn p0), .d (eI p1)] [] (.d (eI r)) [] := by
 unfold oL at h0
 refine fn0 [0, 1] Tryz.func63 rfl rfl rfl rfl rfl ?_
 refine sr (s1 (nH (k := 0) rfl rfl rfl) (sa rfl (sn (sq (sr (s1 (far (k := 1) rfl ko bO rfl) (s1 (aS rfl (aj bO dW rfl rfl)) (sn (SC.blk ?_)))))))))
 refine SC.bJ h0 (fun y => ⟨mk 17 [(1, .d (eI p1)), (2, .ref 0 0 0), (6, .d (eI p0.Kind)), (7, .d (eB y))], [.box (.d (eApiColumn p0))]⟩) ?_ ?_
 ·intro aaV h1
  refine sr (s1 (bi rfl rfl aP) (sa rfl (sn (cB h1 rfl (fun h1 => ?_) (fun h1 => ?_)))))
  ·have q := si h1; subst q
   exact SC.skip ((wq rfl))
  ·have q := si h1; subst q
   exact SC.region (s1 (bi rfl rfl aP) (sa rfl (SO.nil ((wq rfl)))))
 ·rintro y6 h0
  refine cB h0 rfl (fun h0 => ?_) (fun h0 => ?_)
  ·have q := si h0; subst q
   exact sr (sa rfl (sn (SC.ret (aV (wc (e' := [(4, .d (eI (9 : Int)))]) [] [] (by kernel_rfl) rfl (by kernel_rfl)) (aI rfl aG) rfl))))
  ·refine sr (s1 (bi rfl rfl aP) (sa rfl (sn (cB h0 rfl (fun h0 => ?_) (fun h0 => ?_)))))
   ·have q := si h0; subst q
    exact sr (sa rfl (sn (SC.ret (aV (wc (e' := [(4, .d (eI (2 : Int)))]) [] [] (by kernel_rfl) rfl (by kernel_rfl)) (aI rfl aG) rfl))))
   ·refine SC.skip ?_
    change SC _ _ _ _ _
    have q := si h0; subst q
    exact sr (sm rfl (s1 (far (k := 2) rfl oZ bO rfl) (s1 (aS rfl (aj bO dW rfl rfl)) (s1 (bi rfl rfl rD) (s1 (bi rfl rfl aR) (sa rfl (sn (SC.ret (aV (wc (e' := [(4, .d (eI (bD ((3 : Int) + (bD (p1 * p0.Max))))))]) [] [] (by kernel_rfl) rfl (by kernel_rfl)) (aI rfl aG) rfl)))))))))
noncomputable def nS (p0 : List ApiColumn) : Option Int :=
 Option.bind (α := Int)
 (Option.bind (α := Int)
 (loop (Y := Int × Int) (W := Int) (fun (y91, Li) =>
 bif (decide (Li < (p0.length : Int))) then
 Option.bind (bF p0 Li) fun Oq =>
 Option.bind (oL Oq (1 : Int)) fun Ml =>
 some (Sum.inl ((bD (y91 + Ml)), (bD (Li + (1 : Int)))))
 else
 some (Sum.inr y91)) ((1 : Int), (0 : Int)))
 (fun e => some e))
 fun QK =>
 some QK
theorem EY (p0 : List ApiColumn) (r : Int) (h0 : nS p0 = some r) : aL Tryz.prog 25 [.d ((eL 7 eApiColumn) p0)] [] (.d (eI r)) [] := by
 unfold nS at h0
 refine fn0 [0] Tryz.func25 rfl rfl rfl rfl rfl ?_
 refine sr (sa rfl (sn (sr (sa rfl (sn (SC.bJ h0 (fun y => ⟨mk 19 [(3, .d (eI y))], []⟩) ?_ ?_))))))
 ·intro Ua h1
  obtain ⟨aeu, h2, h1⟩ := ob h1
  refine sr (sa rfl (sn (SC.blk (SC.dH h2 (fun y => ⟨mk 19 [(0, .d ((eL 7 eApiColumn) p0)), (3, .d (eI y.1)), (4, .d (eI y.2))], []⟩) (wq rfl) ?_))))
  intro n103
  rintro ⟨y91, Li⟩ ad5 h3 hv3
  refine sq (sr (sm rfl (sm rfl (s1 (len rfl rfl rfl (aZ iF)) (s1 (bi rfl rfl aQ) (sn (cB h3 rfl (fun h3 => ?_) (fun h3 => ?_))))))))
  ·obtain ⟨Oq, M6, h3⟩ := ob h3; obtain ⟨Ml, agY, h3⟩ := ob h3
   refine sk (sq (SC.blk (SC.region (sm rfl (sm rfl (sm rfl (s1 (j4 rfl rfl iF jl (ak M6).1 (aT (ak M6).2) rfl) (s1 (aS (v := .d (eApiColumn Oq)) rfl (bK jl yg rfl)) (c0 (zS Oq (1 : Int) _ agY) wf rfl rfl rfl ahP rfl (fun _ => rfl) (fun _ => rfl) ?_)))))))))
   refine s1 (bi rfl rfl aR) (sa rfl (SO.nil ?_))
   change SC _ _ _ _ _
   have q := si h3; subst q
   exact SC.region (sm rfl (s1 (bi rfl rfl aR) (sa rfl (SO.nil (lf (wq rfl))))))
  ·have q := si h3; subst q; have q : _ = _ := hv3; subst q; have q := si h1; subst q
   exact SC.exit ((wq rfl))
 ·rintro QK h0
  have q := si h0; subst q
  exact sr (sm rfl (sa rfl (sn (SC.ret (aV (Wk.refl _) (aI rfl aG) rfl)))))
noncomputable def vI (p0 : List Int) : Option ((List ApiPart)) :=
 Option.bind (α := (List ApiPart))
 (Option.bind (α := (List ApiPart))
 (loop (Y := (List ApiPart) × Int) (W := (List ApiPart)) (fun (Ee, Ip) =>
 bif (decide (Ip < (p0.length : Int))) then
 Option.bind (bF p0 Ip) fun v83 =>
 bif decide ((Ee.length + [(ApiPart.mk v83 false)].length) * 16 ≤ room) then
 some (Sum.inl ((Ee ++ [(ApiPart.mk v83 false)]), (bD (Ip + (1 : Int)))))
 else none
 else
 some (Sum.inr Ee)) (([] : List ApiPart), (0 : Int)))
 (fun e => some e))
 fun JI =>
 some JI
theorem Es (p0 : List Int) (r : (List ApiPart)) (h0 : vI p0 = some r) : aL Tryz.prog 27 [.d ((eL 1 eI) p0)] [] (.d ((eL 2 eApiPart) r)) [] := by
 unfold vI at h0
 refine fn0 [0] Tryz.func27 rfl rfl rfl rfl rfl ?_
 refine sr (s1 (ig (v := .d .aA) rfl) (sn (sr (s1 (ig (v := .d .aA) rfl) (sn (SC.bJ h0 (fun y => ⟨mk 20 [(3, .slc 0 2 0 y.length none)], [.row 2 (List.map eApiPart y) true]⟩) ?_ ?_))))))
 ·intro Uc h1
  obtain ⟨T9, h2, h1⟩ := ob h1
  refine sr (sa rfl (sn (SC.blk (SC.dH h2 (fun y => ⟨mk 20 [(0, .d ((eL 1 eI) p0)), (3, .slc 0 2 0 y.1.length none), (4, .d (eI y.2))], [.row 2 (List.map eApiPart y.1) true]⟩) (Wk.trans (Wk.dD (σ' := [.row 2 (List.map eApiPart ([] : List ApiPart)) true]) (.row 2 [] true) (fun _ hh => by cases hh) rfl) (Wk.trans (Wk.env (e' := [(0, .d ((eL 1 eI) p0)), (3, .slc 0 2 0 (([] : List ApiPart).length) none), (4, .d (eI (0 : Int)))]) (EW.cons (AW.refl _) (EW.cons (AW.dX _ _ _) (EW.cons (AW.refl _) EW.nil)))) (wq rfl))) ?_))))
  intro n85
  rintro ⟨Ee, Ip⟩ TI h3 hv3
  refine sq (sr (sm rfl (sm rfl (s1 (len rfl rfl rfl (aZ mO)) (s1 (bi rfl rfl aQ) (sn (cB h3 rfl (fun h3 => ?_) (fun h3 => ?_))))))))
  ·obtain ⟨v83, G5, h3⟩ := ob h3; obtain ⟨Vv, h3⟩ := gd h3
   refine sk (sq (SC.blk (SC.region (sm rfl (sm rfl (sm rfl (s1 (j4 rfl rfl mO bO (ak G5).1 (aT (ak G5).2) rfl) (s1 (aS rfl (bK bO dW rfl)) (s1 (l8 rfl (PD v83)) ?_)))))))))
   refine s1 (tH (k := 1) (ds := List.map eApiPart [(ApiPart.mk v83 false)]) (off := 0) (l' := [(ApiPart.mk v83 false)].length) rfl xP VH rfl rfl (by rfl) rfl rfl rfl) (s1 (app rfl rfl rfl rfl aiu (aF (f := eApiPart) (xs := Ee) (k := 2) rfl xP VH rfl (dx (xs := [(ApiPart.mk v83 false)]) rfl) Vv rfl)) (sa rfl (SO.nil ?_)))
   change SC _ _ _ _ _
   have q := si h3; subst q
   exact SC.region (sm rfl (s1 (bi rfl rfl aR) (sa rfl (SO.nil (lf (wc [2] [2] (by kernel_rfl) rfl (by kernel_rfl)))))))
  ·have q := si h3; subst q; have q : _ = _ := hv3; subst q; have q := si h1; subst q
   exact SC.exit ((wq rfl))
 ·rintro JI h0
  have q := si h0; subst q
  exact sr (sm rfl (sa rfl (sn (SC.ret (aV (Wk.trans (Wk.lX (i := 2) (x := .slc 0 2 0 JI.length none) rfl rfl (fF rfl rfl rfl)) (wc (e' := [(2, .d ((eL 2 eApiPart) JI))]) [] [] (by kernel_rfl) rfl (by kernel_rfl))) (aI rfl aG) rfl)))))
noncomputable def kY (p0 : List ApiColumn) (p1 : List ApiPart) : Option Int :=
 Option.bind (α := Int)
 (Option.bind (α := Int)
 (loop (Y := Int × Int) (W := Int) (fun (JN, JM) =>
 bif (decide (JM < (p1.length : Int))) then
 Option.bind (bF p1 JM) fun v117 =>
 Option.bind (bF p0 v117.Col) fun WZ =>
 Option.bind (oL WZ (2 : Int)) fun OL =>
 some (Sum.inl ((bD (JN + OL)), (bD (JM + (1 : Int)))))
 else
 some (Sum.inr JN)) ((0 : Int), (0 : Int)))
 (fun e => some e))
 fun y101 =>
 some y101
theorem xu (p0 : List ApiColumn) (p1 : List ApiPart) (r : Int) (h0 : kY p0 p1 = some r) : aL Tryz.prog 26 [.d ((eL 7 eApiColumn) p0), .d ((eL 2 eApiPart) p1)] [] (.d (eI r)) [] := by
 unfold kY at h0
 refine fn0 [0, 1] Tryz.func26 rfl rfl rfl rfl rfl ?_
 refine sr (sa rfl (sn (sr (sa rfl (sn (SC.bJ h0 (fun y => ⟨mk 25 [(5, .d (eI y))], []⟩) ?_ ?_))))))
 ·intro aa0 h1
  obtain ⟨akR, h2, h1⟩ := ob h1
  refine sr (sa rfl (sn (SC.blk (SC.dH h2 (fun y => ⟨mk 25 [(0, .d ((eL 7 eApiColumn) p0)), (1, .d ((eL 2 eApiPart) p1)), (5, .d (eI y.1)), (6, .d (eI y.2))], []⟩) (wq rfl) ?_))))
  intro n121
  rintro ⟨JN, JM⟩ ajB h3 hv3
  refine sq (sr (sm rfl (sm rfl (s1 (len rfl rfl rfl (aZ xP)) (s1 (bi rfl rfl aQ) (sn (cB h3 rfl (fun h3 => ?_) (fun h3 => ?_))))))))
  ·obtain ⟨v117, Z4, h3⟩ := ob h3; obtain ⟨WZ, Z0, h3⟩ := ob h3; obtain ⟨OL, Vs, h3⟩ := ob h3
   refine sk (sq (SC.blk (SC.region (sm rfl (sm rfl (sm rfl (sm rfl (s1 (j4 rfl rfl xP JY (ak Z4).1 (aT (ak Z4).2) rfl) (s1 (fap rfl Dy bO rfl) ?_)))))))))
   refine s1 (aS rfl (bK bO dW rfl)) (s1 (j4 rfl rfl iF jl (ak Z0).1 (aT (ak Z0).2) rfl) (s1 (aS (v := .d (eApiColumn WZ)) rfl (bK jl yg rfl)) (c0 (zS WZ (2 : Int) _ Vs) wf rfl rfl rfl ahP rfl (fun _ => rfl) (fun _ => rfl) (s1 (bi rfl rfl aR) (sa rfl (SO.nil ?_))))))
   change SC _ _ _ _ _
   have q := si h3; subst q
   exact SC.region (sm rfl (s1 (bi rfl rfl aR) (sa rfl (SO.nil (lf (wq rfl))))))
  ·have q := si h3; subst q; have q : _ = _ := hv3; subst q; have q := si h1; subst q
   exact SC.exit ((wq rfl))
 ·rintro y101 h0
  have q := si h0; subst q
  exact sr (sm rfl (sa rfl (sn (SC.ret (aV (Wk.refl _) (aI rfl aG) rfl)))))
noncomputable def mU (p0 : List ApiPart) : Option ((List Int)) :=
 Option.bind (α := (List Int))
 (Option.bind (α := (List Int))
 (loop (Y := (List Int) × Int) (W := (List Int)) (fun (Ee, Ip) =>
 bif (decide (Ip < (p0.length : Int))) then
 Option.bind (bF p0 Ip) fun v83 =>
 bif decide ((Ee.length + [v83.Col].length) * 8 ≤ room) then
 some (Sum.inl ((Ee ++ [v83.Col]), (bD (Ip + (1 : Int)))))
 else none
 else
 some (Sum.inr Ee)) (([] : List Int), (0 : Int)))
 (fun e => some e))
 fun JI =>
 some JI
theorem uI (p0 : List ApiPart) (r : (List Int)) (h0 : mU p0 = some r) : aL Tryz.prog 53 [.d ((eL 2 eApiPart) p0)] [] (.d ((eL 1 eI) r)) [] := by
 unfold mU at h0
 refine fn0 [0] Tryz.func53 rfl rfl rfl rfl rfl ?_
 refine sr (s1 (ig (v := .d .aA) rfl) (sn (sr (s1 (ig (v := .d .aA) rfl) (sn (SC.bJ h0 (fun y => ⟨mk 20 [(3, .slc 0 1 0 y.length none)], [.row 1 (List.map eI y) true]⟩) ?_ ?_))))))
 ·intro Uc h1
  obtain ⟨T9, h2, h1⟩ := ob h1
  refine sr (sa rfl (sn (SC.blk (SC.dH h2 (fun y => ⟨mk 20 [(0, .d ((eL 2 eApiPart) p0)), (3, .slc 0 1 0 y.1.length none), (4, .d (eI y.2))], [.row 1 (List.map eI y.1) true]⟩) (Wk.trans (Wk.dD (σ' := [.row 1 (List.map eI ([] : List Int)) true]) (.row 1 [] true) (fun _ hh => by cases hh) rfl) (Wk.trans (Wk.env (e' := [(0, .d ((eL 2 eApiPart) p0)), (3, .slc 0 1 0 (([] : List Int).length) none), (4, .d (eI (0 : Int)))]) (EW.cons (AW.refl _) (EW.cons (AW.dX _ _ _) (EW.cons (AW.refl _) EW.nil)))) (wq rfl))) ?_))))
  intro n85
  rintro ⟨Ee, Ip⟩ TI h3 hv3
  refine sq (sr (sm rfl (sm rfl (s1 (len rfl rfl rfl (aZ xP)) (s1 (bi rfl rfl aQ) (sn (cB h3 rfl (fun h3 => ?_) (fun h3 => ?_))))))))
  ·obtain ⟨v83, G5, h3⟩ := ob h3; obtain ⟨Vv, h3⟩ := gd h3
   refine sk (sq (SC.blk (SC.region (sm rfl (sm rfl (sm rfl (s1 (j4 rfl rfl xP JY (ak G5).1 (aT (ak G5).2) rfl) (s1 (fap rfl Dy bO rfl) (s1 (aS rfl (bK bO dW rfl)) ?_)))))))))
   refine s1 (tH (k := 1) (ds := List.map eI [v83.Col]) (off := 0) (l' := [v83.Col].length) rfl mO ei3 rfl rfl (by rfl) rfl rfl rfl) (s1 (app rfl rfl rfl rfl aiw (aF (f := eI) (xs := Ee) (k := 2) rfl mO ei3 rfl (dx (xs := [v83.Col]) rfl) Vv rfl)) (sa rfl (SO.nil ?_)))
   change SC _ _ _ _ _
   have q := si h3; subst q
   exact SC.region (sm rfl (s1 (bi rfl rfl aR) (sa rfl (SO.nil (lf (wc [2] [2] (by kernel_rfl) rfl (by kernel_rfl)))))))
  ·have q := si h3; subst q; have q : _ = _ := hv3; subst q; have q := si h1; subst q
   exact SC.exit ((wq rfl))
 ·rintro JI h0
  have q := si h0; subst q
  exact sr (sm rfl (sa rfl (sn (SC.ret (aV (Wk.trans (Wk.lX (i := 2) (x := .slc 0 1 0 JI.length none) rfl rfl (fF rfl rfl rfl)) (wc (e' := [(2, .d ((eL 1 eI) JI))]) [] [] (by kernel_rfl) rfl (by kernel_rfl))) (aI rfl aG) rfl)))))
noncomputable def qd (p0 : ApiTable) (p1 : ApiIndex) : Option Int :=
 Option.bind (α := Bool)
 (bif (decide ((p1.Parts.length : Int) < (1 : Int))) then
 some true
 else
 bif (decide ((p1.Parts.length : Int) > (4 : Int))) then
 some true
 else
 Option.bind (mU p1.Parts) fun abb =>
 Option.bind (jH (p0.bq.length : Int) abb) fun zF =>
 bif (!zF) then
 some true
 else
 Option.bind (jH (p0.bq.length : Int) p1.Extra) fun Dj =>
 some (!Dj))
 fun Tp =>
 bif Tp then
 some (1 : Int)
 else
 eH (Y := Unit) (E := Int)
 (Option.bind (α := Unit ⊕ Int)
 (loop (Y := Int) (W := Unit ⊕ Int) (fun QV =>
 bif (decide (QV < (p1.Extra.length : Int))) then
 Option.bind (α := Bool)
 (Option.bind (mU p1.Parts) fun aa6 =>
 Option.bind (bF p1.Extra QV) fun aaJ =>
 Option.bind (jX aa6 aaJ) fun r400 =>
 bif r400 then
 some true
 else
 Option.bind (bF p1.Extra QV) fun ER =>
 Option.bind (jX p0.bB ER) fun ae1 =>
 some ae1)
 fun adJ =>
 bif adJ then
 some (Sum.inr (Sum.inr (1 : Int)))
 else
 some (Sum.inl (bD (QV + (1 : Int))))
 else
 some (Sum.inr (Sum.inl ()))) (0 : Int))
 (Sum.elim (fun e => some (Sum.inl e)) (fun e => some (Sum.inr e))))
 (fun _ =>
 Option.bind (kY p0.bq p1.Parts) fun Km =>
 bif (decide (Km > (128 : Int))) then
 some (7 : Int)
 else
 some (0 : Int))
 (fun e => some e)
theorem Gi (p0 : ApiTable) (p1 : ApiIndex) (r : Int) (h0 : qd p0 p1 = some r) : aL Tryz.prog 28 [.d (eApiTable p0), .d (eApiIndex p1)] [] (.d (eI r)) [] := by
 unfold qd at h0
 refine fn0 [0, 1] Tryz.func28 rfl rfl rfl rfl rfl ?_
 refine sr (s1 (nH (k := 0) rfl rfl rfl) (s1 (nH (k := 1) rfl rfl rfl) (sa rfl (sn (sr (s1 (far (k := 1) rfl jr jB rfl) (s1 (aS rfl (aj jB vw rfl rfl)) (s1 (len rfl rfl rfl (aZ iF)) (sa rfl ?_)))))))))
 refine sn (sq (SC.bJ h0 (fun y => ⟨mk 67 [(2, .ref 0 0 0), (3, .ref 1 0 0), (34, .d (eB y))], [.box (.d (eApiTable p0)), .box (.d (eApiIndex p1))]⟩) ?_ ?_))
 ·intro ali h1
  refine SC.region (s1 (far (k := 1) rfl yP zB rfl) (s1 (aS rfl (aj zB L8 rfl rfl)) (s1 (len rfl rfl rfl (aZ xP)) (s1 (bi rfl rfl aQ) (sm rfl (sp h1 (fun h1 => ?_) (fun h1 => ?_)))))))
  ·have q := si h1; subst q
   refine kw rfl (kw rfl (kw rfl (kw rfl (s1 (pkt rfl rfl) (sm rfl (kw rfl (kw rfl (kw rfl (kw rfl ?_)))))))))
   refine kw rfl (kw rfl (s1 (pkt rfl rfl) (sm rfl (kw rfl (kw rfl (kw rfl (kw rfl (kw rfl (s1 (pkt rfl rfl) ?_)))))))))
   exact SO.nil ((wq rfl))
  ·refine gw rfl (far (k := 1) rfl yP zB rfl) (gw rfl (aS rfl (aj zB L8 rfl rfl)) (gw rfl (len rfl rfl rfl (aZ xP)) (gw rfl (bi rfl rfl bP) (s1 (dB rfl rfl) (sm rfl (sp h1 (fun h1 => ?_) (fun h1 => ?_)))))))
   ·have q := si h1; subst q
    refine kw rfl (kw rfl (kw rfl (kw rfl (kw rfl (kw rfl (s1 (pkt rfl rfl) (sm rfl (kw rfl (kw rfl ?_)))))))))
    exact kw rfl (kw rfl (kw rfl (s1 (pkt rfl rfl) (SO.nil ((wq rfl))))))
   ·obtain ⟨abb, agl, h1⟩ := ob h1; obtain ⟨zF, Vm, h1⟩ := ob h1
    refine gw rfl (mv rfl) (gw rfl (far (k := 1) rfl yP zB rfl) (gw rfl (aS rfl (aj zB L8 rfl rfl)) (c0 (uI p1.Parts _ agl) (ww rfl) rfl rfl rfl acS rfl (fun _ => rfl) (fun _ => rfl) (c0 (qG (p0.bq.length : Int) abb _ Vm) (ww rfl) rfl rfl rfl acW rfl (fun _ => rfl) (fun _ => rfl) (gw rfl (nt rfl) (s1 (dB rfl rfl) (sm rfl (sp h1 (fun h1 => ?_) (fun h1 => ?_)))))))))
    ·have q := si h1; subst q
     exact kw rfl (kw rfl (kw rfl (kw rfl (kw rfl (s1 (pkt rfl rfl) (SO.nil ((wq rfl))))))))
    ·obtain ⟨Dj, Vl, h1⟩ := ob h1; have q := si h1; subst q
     exact gw rfl (mv rfl) (gw rfl (far (k := 2) rfl wN jA rfl) (gw rfl (aS rfl (aj jA vo rfl rfl)) (c0 (qG (p0.bq.length : Int) p1.Extra _ Vl) (ww rfl) rfl rfl rfl acW rfl (fun _ => rfl) (fun _ => rfl) (gw rfl (nt rfl) (s1 (dB rfl rfl) (SO.nil ((wq rfl))))))))
 ·rintro Tp h0
  refine cB h0 rfl (fun h0 => ?_) (fun h0 => ?_)
  ·have q := si h0; subst q
   exact sr (sa rfl (sn (SC.ret (aV (wc (e' := [(4, .d (eI (1 : Int)))]) [] [] (by kernel_rfl) rfl (by kernel_rfl)) (aI rfl aG) rfl))))
  ·refine sk (SC.seqB h0 (fun y => ⟨mk 67 [(2, .ref 0 0 0), (3, .ref 1 0 0)], [.box (.d (eApiTable p0)), .box (.d (eApiIndex p1))]⟩) ?_ ?_)
   ·intro ale h1 h0
    obtain ⟨akw, h2, h1⟩ := ob h1
    refine sr (sa rfl (sn (SC.blk (SC.dH h2 (fun y => ⟨mk 67 [(2, .ref 0 0 0), (3, .ref 1 0 0), (6, .d (eI y))], [.box (.d (eApiTable p0)), .box (.d (eApiIndex p1))]⟩) (wq rfl) ?_))))
    intro aos
    rintro QV ajr h3 hv3
    refine sq (sr (sm rfl (s1 (far (k := 2) rfl wN jA rfl) (s1 (aS rfl (aj jA vo rfl rfl)) (s1 (len rfl rfl rfl (aZ mO)) (s1 (bi rfl rfl aQ) (sn (cB h3 rfl (fun h3 => ?_) (fun h3 => ?_)))))))))
    ·refine sk (sq (SC.blk (SC.bJ h3 (fun y => ⟨mk 67 [(2, .ref 0 0 0), (3, .ref 1 0 0), (6, .d (eI QV)), (60, .d (eB y))], [.box (.d (eApiTable p0)), .box (.d (eApiIndex p1))]⟩) ?_ ?_)))
     ·intro akc h4
      obtain ⟨aa6, agf, h4⟩ := ob h4; obtain ⟨aaJ, Zz, h4⟩ := ob h4; obtain ⟨r400, agd, h4⟩ := ob h4
      refine SC.draws (by kernel_rfl) (t1 ([], false) (far (k := 1) rfl yP zB rfl) rfl (t1 ([1], false) (aS rfl (aj zB L8 rfl rfl)) rfl (Lj (uI p1.Parts _ agf) wf rfl rfl rfl acS rfl (fun _ => rfl) (fun _ => rfl) (t1 ([], false) (far (k := 2) rfl wN jA rfl) rfl (t1 ([1], false) (aS rfl (aj jA vo rfl rfl)) rfl (t1 ([], false) (mv rfl) rfl (t1 ([], false) (j4 rfl rfl mO bO (ak Zz).1 (aT (ak Zz).2) rfl) rfl (t1 ([], false) (aS rfl (bK bO dW rfl)) rfl (Lj (kZ aa6 aaJ _ agd) wf rfl rfl rfl RH rfl (fun _ => rfl) (fun _ => rfl) ?_)))))))))
      refine t1 ([], false) (mv rfl) rfl (tp h4 (fun h4 => ?_) (fun h4 => ?_))
      ·have q := si h4; subst q
       refine jw rfl (jw rfl (jw rfl (jw rfl (jw rfl (jw rfl (jw rfl (jw rfl (t1 ([], false) (pkt rfl rfl) rfl (ST.nil (And.intro (by decide +kernel) ?_))))))))))
       exact (wq rfl)
      ·obtain ⟨ER, MV, h4⟩ := ob h4; obtain ⟨ae1, Vk, h4⟩ := ob h4; have q := si h4; subst q
       refine u1 ([], false) (ww rfl) (far (k := 2) rfl sI jA rfl) rfl (u1 ([0], false) (ww rfl) (aS rfl (aj jA vo rfl rfl)) rfl (u1 ([], false) (ww rfl) (far (k := 2) rfl wN jA rfl) rfl (u1 ([1], false) (ww rfl) (aS rfl (aj jA vo rfl rfl)) rfl (u1 ([], false) (ww rfl) (mv rfl) rfl (u1 ([], false) (ww rfl) (j4 rfl rfl mO bO (ak MV).1 (aT (ak MV).2) rfl) rfl (u1 ([], false) (ww rfl) (aS rfl (bK bO dW rfl)) rfl (Lj (kZ p0.bB ER _ Vk) (ww rfl) rfl rfl rfl RH rfl (fun _ => rfl) (fun _ => rfl) (t1 ([], false) (dB rfl rfl) rfl (ST.nil (And.intro (by decide +kernel) ?_))))))))))
       exact (wq rfl)
     ·rintro adJ h3
      refine cB h3 rfl (fun h3 => ?_) (fun h3 => ?_)
      ·have q := si h3; subst q; have q : _ = _ := hv3; subst q; have q := si h1; subst q; have q := si h0; subst q
       exact sr (sa rfl (sn (SC.ret (aV (wc (e' := [(4, .d (eI (1 : Int)))]) [] [] (by kernel_rfl) rfl (by kernel_rfl)) (aI rfl aG) rfl))))
      ·refine SC.skip ?_
       change SC _ _ _ _ _
       have q := si h3; subst q
       exact SC.region (sm rfl (s1 (bi rfl rfl aR) (sa rfl (SO.nil (lf (wq rfl))))))
    ·have q := si h3; subst q; have q : _ = _ := hv3; subst q; have q := si h1; subst q
     exact SC.exit (lf (wq rfl))
   ·intro _ h0
    obtain ⟨Km, agb, h0⟩ := ob h0
    refine sq (sr (s1 (far (k := 1) rfl jr jB rfl) (s1 (aS rfl (aj jB vw rfl rfl)) (s1 (far (k := 1) rfl yP zB rfl) (s1 (aS rfl (aj zB L8 rfl rfl)) (c0 (xu p0.bq p1.Parts _ agb) wf rfl rfl rfl ahV rfl (fun _ => rfl) (fun _ => rfl) (s1 (bi rfl rfl bP) (sn (cB h0 rfl (fun h0 => ?_) (fun h0 => ?_))))))))))
    ·have q := si h0; subst q
     exact sr (sa rfl (sn (SC.ret (aV (wc (e' := [(4, .d (eI (7 : Int)))]) [] [] (by kernel_rfl) rfl (by kernel_rfl)) (aI rfl aG) rfl))))
    ·have q := si h0; subst q
     exact sk (sr (sa rfl (sn (SC.ret (aV (wc (e' := [(4, .d (eI (0 : Int)))]) [] [] (by kernel_rfl) rfl (by kernel_rfl)) (aI rfl aG) rfl)))))
noncomputable def qg (p0 : ApiTable) : Option Int :=
 Option.bind (mV p0.Name) fun aeL =>
 bif (!aeL) then
 some (1 : Int)
 else
 Option.bind (α := Bool)
 (bif (decide ((p0.bq.length : Int) < (1 : Int))) then
 some true
 else
 some (decide ((p0.bq.length : Int) > (24 : Int))))
 fun ado =>
 bif ado then
 some (7 : Int)
 else
 eH (Y := Unit) (E := Int)
 (Option.bind (α := Unit ⊕ Int)
 (loop (Y := Int) (W := Unit ⊕ Int) (fun Lr =>
 bif (decide (Lr < (p0.bq.length : Int))) then
 eH (Y := Unit) (E := Int)
 (Option.bind (bF p0.bq Lr) fun Qe =>
 Option.bind (lD Qe) fun tT =>
 bif (tT != (0 : Int)) then
 some (Sum.inr tT)
 else
 Option.bind (α := Unit ⊕ Int)
 (loop (Y := Int) (W := Unit ⊕ Int) (fun FQ =>
 bif (decide (FQ < Lr)) then
 Option.bind (bF p0.bq FQ) fun YO =>
 Option.bind (bF p0.bq Lr) fun YN =>
 bif (YO.Name == YN.Name) then
 some (Sum.inr (Sum.inr (6 : Int)))
 else
 some (Sum.inl (bD (FQ + (1 : Int))))
 else
 some (Sum.inr (Sum.inl ()))) (0 : Int))
 (Sum.elim (fun e => some (Sum.inl e)) (fun e => some (Sum.inr e))))
 (fun _ =>
 some (Sum.inl (bD (Lr + (1 : Int)))))
 (fun e => some (Sum.inr (Sum.inr e)))
 else
 some (Sum.inr (Sum.inl ()))) (0 : Int))
 (Sum.elim (fun e => some (Sum.inl e)) (fun e => some (Sum.inr e))))
 (fun _ =>
 Option.bind (α := Bool)
 (bif (decide ((p0.bB.length : Int) < (1 : Int))) then
 some true
 else
 bif (decide ((p0.bB.length : Int) > (4 : Int))) then
 some true
 else
 Option.bind (jH (p0.bq.length : Int) p0.bB) fun Y5 =>
 some (!Y5))
 fun YH =>
 bif YH then
 some (1 : Int)
 else
 eH (Y := Unit) (E := Int)
 (Option.bind (α := Unit ⊕ Int)
 (loop (Y := Int) (W := Unit ⊕ Int) (fun Qa =>
 bif (decide (Qa < (p0.bB.length : Int))) then
 Option.bind (bF p0.bB Qa) fun YM =>
 Option.bind (bF p0.bq YM) fun YL =>
 bif YL.xL then
 some (Sum.inr (Sum.inr (1 : Int)))
 else
 some (Sum.inl (bD (Qa + (1 : Int))))
 else
 some (Sum.inr (Sum.inl ()))) (0 : Int))
 (Sum.elim (fun e => some (Sum.inl e)) (fun e => some (Sum.inr e))))
 (fun _ =>
 Option.bind (α := Bool)
 (Option.bind (nS p0.bq) fun Y3 =>
 bif (decide (Y3 > (512 : Int))) then
 some true
 else
 Option.bind (vI p0.bB) fun UE =>
 Option.bind (kY p0.bq UE) fun Y2 =>
 bif (decide (Y2 > (128 : Int))) then
 some true
 else
 some (decide ((p0.aY.length : Int) > (6 : Int))))
 fun YF =>
 bif YF then
 some (7 : Int)
 else
 eH (Y := Unit) (E := Int)
 (Option.bind (α := Unit ⊕ Int)
 (loop (Y := Int) (W := Unit ⊕ Int) (fun y1230 =>
 bif (decide (y1230 < (p0.aY.length : Int))) then
 eH (Y := Unit) (E := Int)
 (Option.bind (bF p0.aY y1230) fun x9 =>
 Option.bind (mV x9.Name) fun Y1 =>
 bif (!Y1) then
 some (Sum.inr (1 : Int))
 else
 eH (Y := Unit) (E := Int)
 (Option.bind (α := Unit ⊕ Int)
 (loop (Y := Int) (W := Unit ⊕ Int) (fun P8 =>
 bif (decide (P8 < y1230)) then
 Option.bind (bF p0.aY P8) fun YK =>
 bif (YK.Name == x9.Name) then
 some (Sum.inr (Sum.inr (6 : Int)))
 else
 some (Sum.inl (bD (P8 + (1 : Int))))
 else
 some (Sum.inr (Sum.inl ()))) (0 : Int))
 (Sum.elim (fun e => some (Sum.inl e)) (fun e => some (Sum.inr e))))
 (fun _ =>
 Option.bind (qd p0 x9) fun Qm =>
 bif (Qm != (0 : Int)) then
 some (Sum.inr Qm)
 else
 some (Sum.inl ()))
 (fun e => some (Sum.inr e)))
 (fun _ =>
 some (Sum.inl (bD (y1230 + (1 : Int)))))
 (fun e => some (Sum.inr (Sum.inr e)))
 else
 some (Sum.inr (Sum.inl ()))) (0 : Int))
 (Sum.elim (fun e => some (Sum.inl e)) (fun e => some (Sum.inr e))))
 (fun _ =>
 some (0 : Int))
 (fun e => some e))
 (fun e => some e))
 (fun e => some e)
theorem Gl (p0 : ApiTable) (r : Int) (h0 : qg p0 = some r) : aL Tryz.prog 8 [.d (eApiTable p0)] [] (.d (eI r)) [] := by
 unfold qg at h0
 refine fn0 [0] Tryz.func8 rfl rfl rfl rfl rfl ?_
 obtain ⟨aeL, afF, h0⟩ := ob h0
 refine sr (s1 (nH (k := 0) rfl rfl rfl) (sa rfl (sn (sq (sr (s1 (far (k := 0) rfl acA eT rfl) (s1 (aS rfl (aj eT jy rfl rfl)) (c0 (uL p0.Name _ afF) wf rfl rfl rfl acX rfl (fun _ => rfl) (fun _ => rfl) (s1 (nt rfl) ?_)))))))))
 refine sn (cB h0 rfl (fun h0 => ?_) (fun h0 => ?_))
 ·have q := si h0; subst q
  exact sr (sa rfl (sn (SC.ret (aV (wc (e' := [(2, .d (eI (1 : Int)))]) [] [] (by kernel_rfl) rfl (by kernel_rfl)) (aI rfl aG) rfl))))
 ·refine sk (sq (SC.bJ h0 (fun y => ⟨mk 150 [(1, .ref 0 0 0), (24, .d (eB y))], [.box (.d (eApiTable p0))]⟩) ?_ ?_))
  ·intro akW h1
   refine SC.region (s1 (far (k := 1) rfl jr jB rfl) (s1 (aS rfl (aj jB vw rfl rfl)) (s1 (len rfl rfl rfl (aZ iF)) (s1 (bi rfl rfl aQ) (sm rfl (sp h1 (fun h1 => ?_) (fun h1 => ?_)))))))
   ·have q := si h1; subst q
    exact kw rfl (kw rfl (kw rfl (kw rfl (s1 (pkt rfl rfl) (SO.nil ((wq rfl)))))))
   ·have q := si h1; subst q
    exact gw rfl (far (k := 1) rfl jr jB rfl) (gw rfl (aS rfl (aj jB vw rfl rfl)) (gw rfl (len rfl rfl rfl (aZ iF)) (gw rfl (bi rfl rfl bP) (s1 (dB rfl rfl) (SO.nil ((wq rfl)))))))
  ·rintro ado h0
   refine cB h0 rfl (fun h0 => ?_) (fun h0 => ?_)
   ·have q := si h0; subst q
    exact sr (sa rfl (sn (SC.ret (aV (wc (e' := [(2, .d (eI (7 : Int)))]) [] [] (by kernel_rfl) rfl (by kernel_rfl)) (aI rfl aG) rfl))))
   ·refine sk (SC.seqB h0 (fun y => ⟨mk 150 [(1, .ref 0 0 0)], [.box (.d (eApiTable p0))]⟩) ?_ ?_)
    ·intro akV h1 h0
     obtain ⟨ai0, h2, h1⟩ := ob h1
     refine sr (sa rfl (sn (SC.blk (SC.dH h2 (fun y => ⟨mk 150 [(1, .ref 0 0 0), (3, .d (eI y))], [.box (.d (eApiTable p0))]⟩) (wq rfl) ?_))))
     intro aob
     rintro Lr aiJ h3 hv3
     refine sq (sr (sm rfl (s1 (far (k := 1) rfl jr jB rfl) (s1 (aS rfl (aj jB vw rfl rfl)) (s1 (len rfl rfl rfl (aZ iF)) (s1 (bi rfl rfl aQ) (sn (cB h3 rfl (fun h3 => ?_) (fun h3 => ?_)))))))))
     ·refine sk (SC.seqB h3 (fun y => ⟨mk 150 [(1, .ref 0 0 0), (3, .d (eI Lr))], [.box (.d (eApiTable p0))]⟩) ?_ ?_)
      ·intro Xf h4 h3
       obtain ⟨Qe, Vh, h4⟩ := ob h4; obtain ⟨tT, ab9, h4⟩ := ob h4
       refine SC.blk (sr (s1 (far (k := 1) rfl jr jB rfl) (s1 (aS rfl (aj jB vw rfl rfl)) (sm rfl (s1 (j4 rfl rfl iF jl (ak Vh).1 (aT (ak Vh).2) rfl) (s1 (aS (v := .d (eApiColumn Qe)) rfl (bK jl yg rfl)) (c0 (xA Qe _ ab9) wf rfl rfl rfl ahW rfl (fun _ => rfl) (fun _ => rfl) (sa rfl (sn ?_)))))))))
       refine sq (sr (sm rfl (s1 (bi rfl rfl bA) (sn (cB h4 rfl (fun h4 => ?_) (fun h4 => ?_))))))
       ·have q := si h4; subst q; have q := si h3; subst q; have q : _ = _ := hv3; subst q; have q := si h1; subst q; have q := si h0; subst q
        exact sr (sm rfl (sa rfl (sn (SC.ret (aV (wc (e' := [(2, .d (eI tT))]) [] [] (by kernel_rfl) rfl (by kernel_rfl)) (aI rfl aG) rfl)))))
       ·obtain ⟨aiS, h5, h4⟩ := ob h4
        refine sk (sr (sa rfl (sn (SC.blk (SC.dH h5 (fun y => ⟨mk 150 [(1, .ref 0 0 0), (3, .d (eI Lr)), (5, .d (eI y))], [.box (.d (eApiTable p0))]⟩) (wq rfl) ?_)))))
        intro aoc
        rintro FQ aiF h6 hv6
        refine sq (sr (sm rfl (sm rfl (s1 (bi rfl rfl aQ) (sn (cB h6 rfl (fun h6 => ?_) (fun h6 => ?_)))))))
        ·obtain ⟨YO, Vf, h6⟩ := ob h6; obtain ⟨YN, Ve, h6⟩ := ob h6
         refine sk (sq (SC.blk (sd (by kernel_rfl) (t1 ([], false) (far (k := 1) rfl jr jB rfl) rfl (t1 ([0], false) (aS rfl (aj jB vw rfl rfl)) rfl (t1 ([], false) (mv rfl) rfl (t1 ([], false) (j4 rfl rfl iF jl (ak Vf).1 (aT (ak Vf).2) rfl) rfl (t1 ([], false) (fap rfl KP eT rfl) rfl (t1 ([], false) (aS rfl (bK eT jy rfl)) rfl ?_)))))))))
         refine t1 ([], false) (far (k := 1) rfl jr jB rfl) rfl (t1 ([0], false) (aS rfl (aj jB vw rfl rfl)) rfl (t1 ([], false) (mv rfl) rfl (t1 ([], false) (j4 rfl rfl iF jl (ak Ve).1 (aT (ak Ve).2) rfl) rfl (t1 ([], false) (fap rfl KP eT rfl) rfl (t1 ([], false) (aS rfl (bK eT jy rfl)) rfl (t1 ([], false) (bi rfl rfl iC) rfl (tn (by decide +kernel) (cB h6 rfl (fun h6 => ?_) (fun h6 => ?_)))))))))
         ·have q := si h6; subst q; have q : _ = _ := hv6; subst q; have q := si h4; subst q; have q := si h3; subst q; have q : _ = _ := hv3; subst q; have q := si h1; subst q; have q := si h0; subst q
          exact sr (sa rfl (sn (SC.ret (aV (wc (e' := [(2, .d (eI (6 : Int)))]) [] [] (by kernel_rfl) rfl (by kernel_rfl)) (aI rfl aG) rfl))))
         ·refine SC.skip ?_
          change SC _ _ _ _ _
          have q := si h6; subst q
          exact SC.region (sm rfl (s1 (bi rfl rfl aR) (sa rfl (SO.nil (lf (wq rfl))))))
        ·have q := si h6; subst q; have q : _ = _ := hv6; subst q; have q := si h4; subst q
         exact SC.exit (lf (wq rfl))
      ·intro _ h3
       have q := si h3; subst q
       exact SC.region (sm rfl (s1 (bi rfl rfl aR) (sa rfl (SO.nil (lf (wq rfl))))))
     ·have q := si h3; subst q; have q : _ = _ := hv3; subst q; have q := si h1; subst q
      exact SC.exit (lf (wq rfl))
    ·intro _ h0
     refine sq (SC.bJ h0 (fun y => ⟨mk 150 [(1, .ref 0 0 0), (77, .d (eB y))], [.box (.d (eApiTable p0))]⟩) ?_ ?_)
     ·intro ai6 h1
      refine SC.region (s1 (far (k := 2) rfl sI jA rfl) (s1 (aS rfl (aj jA vo rfl rfl)) (s1 (len rfl rfl rfl (aZ mO)) (s1 (bi rfl rfl aQ) (sm rfl (sp h1 (fun h1 => ?_) (fun h1 => ?_)))))))
      ·have q := si h1; subst q
       refine kw rfl (kw rfl (kw rfl (kw rfl (s1 (pkt rfl rfl) (sm rfl (kw rfl (kw rfl (kw rfl (kw rfl ?_)))))))))
       exact kw rfl (kw rfl (kw rfl (s1 (pkt rfl rfl) (SO.nil ((wq rfl))))))
      ·refine gw rfl (far (k := 2) rfl sI jA rfl) (gw rfl (aS rfl (aj jA vo rfl rfl)) (gw rfl (len rfl rfl rfl (aZ mO)) (gw rfl (bi rfl rfl bP) (s1 (dB rfl rfl) (sm rfl (sp h1 (fun h1 => ?_) (fun h1 => ?_)))))))
       ·have q := si h1; subst q
        exact kw rfl (kw rfl (kw rfl (kw rfl (kw rfl (kw rfl (kw rfl (s1 (pkt rfl rfl) (SO.nil ((wq rfl))))))))))
       ·obtain ⟨Y5, ab5, h1⟩ := ob h1; have q := si h1; subst q
        exact gw rfl (far (k := 1) rfl jr jB rfl) (gw rfl (aS rfl (aj jB vw rfl rfl)) (gw rfl (len rfl rfl rfl (aZ iF)) (gw rfl (far (k := 2) rfl sI jA rfl) (gw rfl (aS rfl (aj jA vo rfl rfl)) (c0 (qG (p0.bq.length : Int) p0.bB _ ab5) (ww rfl) rfl rfl rfl acW rfl (fun _ => rfl) (fun _ => rfl) (gw rfl (nt rfl) (s1 (dB rfl rfl) (SO.nil ((wq rfl))))))))))
     ·rintro YH h0
      refine cB h0 rfl (fun h0 => ?_) (fun h0 => ?_)
      ·have q := si h0; subst q
       exact sr (sa rfl (sn (SC.ret (aV (wc (e' := [(2, .d (eI (1 : Int)))]) [] [] (by kernel_rfl) rfl (by kernel_rfl)) (aI rfl aG) rfl))))
      ·refine sk (SC.seqB h0 (fun y => ⟨mk 150 [(1, .ref 0 0 0)], [.box (.d (eApiTable p0))]⟩) ?_ ?_)
       ·intro ai5 h1 h0
        obtain ⟨aiZ, h2, h1⟩ := ob h1
        refine sr (sa rfl (sn (SC.blk (SC.dH h2 (fun y => ⟨mk 150 [(1, .ref 0 0 0), (6, .d (eI y))], [.box (.d (eApiTable p0))]⟩) (wq rfl) ?_))))
        intro an9
        rintro Qa aiI h3 hv3
        refine sq (sr (sm rfl (s1 (far (k := 2) rfl sI jA rfl) (s1 (aS rfl (aj jA vo rfl rfl)) (s1 (len rfl rfl rfl (aZ mO)) (s1 (bi rfl rfl aQ) (sn (cB h3 rfl (fun h3 => ?_) (fun h3 => ?_)))))))))
        ·obtain ⟨YM, Vb, h3⟩ := ob h3; obtain ⟨YL, Va, h3⟩ := ob h3
         refine sk (sq (SC.blk (sd (by kernel_rfl) (t1 ([], false) (far (k := 1) rfl jr jB rfl) rfl (t1 ([0], false) (aS rfl (aj jB vw rfl rfl)) rfl (t1 ([], false) (far (k := 2) rfl sI jA rfl) rfl (t1 ([0], false) (aS rfl (aj jA vo rfl rfl)) rfl (t1 ([], false) (mv rfl) rfl (t1 ([], false) (j4 rfl rfl mO bO (ak Vb).1 (aT (ak Vb).2) rfl) rfl ?_)))))))))
         refine t1 ([], false) (aS rfl (bK bO dW rfl)) rfl (t1 ([], false) (j4 rfl rfl iF jl (ak Va).1 (aT (ak Va).2) rfl) rfl (t1 ([], false) (fap rfl O8 jV rfl) rfl (t1 ([], false) (aS rfl (bK jV zD rfl)) rfl (tn (by decide +kernel) (cB h3 rfl (fun h3 => ?_) (fun h3 => ?_))))))
         ·have q := si h3; subst q; have q : _ = _ := hv3; subst q; have q := si h1; subst q; have q := si h0; subst q
          exact sr (sa rfl (sn (SC.ret (aV (wc (e' := [(2, .d (eI (1 : Int)))]) [] [] (by kernel_rfl) rfl (by kernel_rfl)) (aI rfl aG) rfl))))
         ·refine SC.skip ?_
          change SC _ _ _ _ _
          have q := si h3; subst q
          exact SC.region (sm rfl (s1 (bi rfl rfl aR) (sa rfl (SO.nil (lf (wq rfl))))))
        ·have q := si h3; subst q; have q : _ = _ := hv3; subst q; have q := si h1; subst q
         exact SC.exit (lf (wq rfl))
       ·intro _ h0
        refine sq (SC.bJ h0 (fun y => ⟨mk 150 [(1, .ref 0 0 0), (113, .d (eB y))], [.box (.d (eApiTable p0))]⟩) ?_ ?_)
        ·intro ai4 h1
         obtain ⟨Y3, ab2, h1⟩ := ob h1
         refine SC.draws (by kernel_rfl) (t1 ([], false) (far (k := 1) rfl jr jB rfl) rfl (t1 ([0], false) (aS rfl (aj jB vw rfl rfl)) rfl (Lj (EY p0.bq _ ab2) wf rfl rfl rfl anw rfl (fun _ => rfl) (fun _ => rfl) (t1 ([], false) (bi rfl rfl bP) rfl (t1 ([], false) (mv rfl) rfl (tp h1 (fun h1 => ?_) (fun h1 => ?_)))))))
         ·have q := si h1; subst q
          refine jw rfl (jw rfl (jw rfl (jw rfl (jw rfl (jw rfl (jw rfl (t1 ([], false) (pkt rfl rfl) rfl (t1 ([], false) (mv rfl) rfl (jw rfl ?_)))))))))
          refine jw rfl (jw rfl (jw rfl (t1 ([], false) (pkt rfl rfl) rfl (ST.nil (And.intro (by decide +kernel) ?_)))))
          exact (wq rfl)
         ·obtain ⟨UE, ab1, h1⟩ := ob h1; obtain ⟨Y2, ab0, h1⟩ := ob h1
          refine u1 ([], false) (ww rfl) (far (k := 1) rfl jr jB rfl) rfl (u1 ([0], false) (ww rfl) (aS rfl (aj jB vw rfl rfl)) rfl (u1 ([], false) (ww rfl) (far (k := 2) rfl sI jA rfl) rfl (u1 ([0], false) (ww rfl) (aS rfl (aj jA vo rfl rfl)) rfl (Lj (Es p0.bB _ ab1) (ww rfl) rfl rfl rfl ahU rfl (fun _ => rfl) (fun _ => rfl) (Lj (xu p0.bq UE _ ab0) (ww rfl) rfl rfl rfl ahV rfl (fun _ => rfl) (fun _ => rfl) (u1 ([], false) (ww rfl) (bi rfl rfl bP) rfl (t1 ([], false) (dB rfl rfl) rfl (t1 ([], false) (mv rfl) rfl (tp h1 (fun h1 => ?_) (fun h1 => ?_))))))))))
          ·have q := si h1; subst q
           refine jw rfl (jw rfl (jw rfl (jw rfl (t1 ([], false) (pkt rfl rfl) rfl (ST.nil (And.intro (by decide +kernel) ?_))))))
           exact (wq rfl)
          ·have q := si h1; subst q
           refine u1 ([], false) (ww rfl) (far (k := 3) rfl sH sZ rfl) rfl (u1 ([0], false) (ww rfl) (aS rfl (aj sZ Iw rfl rfl)) rfl (u1 ([], false) (ww rfl) (len rfl rfl rfl (aZ CP)) rfl (u1 ([], false) (ww rfl) (bi rfl rfl bP) rfl (t1 ([], false) (dB rfl rfl) rfl (ST.nil (And.intro (by decide +kernel) ?_))))))
           exact (wq rfl)
        ·rintro YF h0
         refine cB h0 rfl (fun h0 => ?_) (fun h0 => ?_)
         ·have q := si h0; subst q
          exact sr (sa rfl (sn (SC.ret (aV (wc (e' := [(2, .d (eI (7 : Int)))]) [] [] (by kernel_rfl) rfl (by kernel_rfl)) (aI rfl aG) rfl))))
         ·refine sk (SC.seqB h0 (fun y => ⟨mk 150 [], []⟩) ?_ ?_)
          ·intro ai3 h1 h0
           obtain ⟨aiY, h2, h1⟩ := ob h1
           refine sr (sa rfl (sn (SC.blk (SC.dH h2 (fun y => ⟨mk 150 [(1, .ref 0 0 0), (7, .d (eI y))], [.box (.d (eApiTable p0))]⟩) (wq rfl) ?_))))
           intro an7
           rintro y1230 aiH h3 hv3
           refine sq (sr (sm rfl (s1 (far (k := 3) rfl sH sZ rfl) (s1 (aS rfl (aj sZ Iw rfl rfl)) (s1 (len rfl rfl rfl (aZ CP)) (s1 (bi rfl rfl aQ) (sn (cB h3 rfl (fun h3 => ?_) (fun h3 => ?_)))))))))
           ·refine sk (SC.seqB h3 (fun y => ⟨mk 150 [(1, .ref 0 0 0), (7, .d (eI y1230))], [.box (.d (eApiTable p0))]⟩) ?_ ?_)
            ·intro aiV h4 h3
             obtain ⟨x9, U9, h4⟩ := ob h4; obtain ⟨Y1, abZ, h4⟩ := ob h4
             refine SC.blk (sr (s1 (far (k := 3) rfl sH sZ rfl) (s1 (aS rfl (aj sZ Iw rfl rfl)) (sm rfl (s1 (j4 rfl rfl CP wu (ak U9).1 (aT (ak U9).2) rfl) (s1 (aS (v := .d (eApiIndex x9)) rfl (bK wu F8 rfl)) (s1 (qV (k := 1) adb rfl) (s0 (fJ rfl rfl (sB (d' := .d (eApiIndex x9)) wu rfl rfl rfl rfl rfl rfl rfl)) (sn ?_)))))))))
             refine sq (sr (s1 (far (k := 0) rfl O7 eT rfl) (s1 (aS rfl (aj eT jy rfl rfl)) (c0 (uL x9.Name _ abZ) wf rfl rfl rfl acX rfl (fun _ => rfl) (fun _ => rfl) (s1 (nt rfl) (sn (cB h4 rfl (fun h4 => ?_) (fun h4 => ?_))))))))
             ·have q := si h4; subst q; have q := si h3; subst q; have q : _ = _ := hv3; subst q; have q := si h1; subst q; have q := si h0; subst q
              exact sr (sa rfl (sn (SC.ret (aV (wc (e' := [(2, .d (eI (1 : Int)))]) [] [] (by kernel_rfl) rfl (by kernel_rfl)) (aI rfl aG) rfl))))
             ·refine sk (SC.seqB h4 (fun y => ⟨mk 150 [(1, .ref 0 0 0), (7, .d (eI y1230)), (8, .ref 1 0 0)], [.box (.d (eApiTable p0)), .box (.d (eApiIndex x9))]⟩) ?_ ?_)
              ·intro aiR h5 h4
               obtain ⟨aiO, h6, h5⟩ := ob h5
               refine sr (sa rfl (sn (SC.blk (SC.dH h6 (fun y => ⟨mk 150 [(1, .ref 0 0 0), (7, .d (eI y1230)), (8, .ref 1 0 0), (9, .d (eI y))], [.box (.d (eApiTable p0)), .box (.d (eApiIndex x9))]⟩) (wq rfl) ?_))))
               intro an8
               rintro P8 aiE h7 hv7
               refine sq (sr (sm rfl (sm rfl (s1 (bi rfl rfl aQ) (sn (cB h7 rfl (fun h7 => ?_) (fun h7 => ?_)))))))
               ·obtain ⟨YK, U8, h7⟩ := ob h7
                refine sk (sq (SC.blk (sd (by kernel_rfl) (t1 ([], false) (far (k := 3) rfl sH sZ rfl) rfl (t1 ([0], false) (aS rfl (aj sZ Iw rfl rfl)) rfl (t1 ([], false) (mv rfl) rfl (t1 ([], false) (j4 rfl rfl CP wu (ak U8).1 (aT (ak U8).2) rfl) rfl (t1 ([], false) (fap rfl O7 eT rfl) rfl (t1 ([], false) (aS rfl (bK eT jy rfl)) rfl ?_)))))))))
                refine t1 ([], false) (far (k := 0) rfl O7 eT rfl) rfl (t1 ([1], false) (aS rfl (aj eT jy rfl rfl)) rfl (t1 ([], false) (bi rfl rfl iC) rfl (tn (by decide +kernel) (cB h7 rfl (fun h7 => ?_) (fun h7 => ?_)))))
                ·have q := si h7; subst q; have q : _ = _ := hv7; subst q; have q := si h5; subst q; have q := si h4; subst q; have q := si h3; subst q; have q : _ = _ := hv3; subst q; have q := si h1; subst q; have q := si h0; subst q
                 exact sr (sa rfl (sn (SC.ret (aV (wc (e' := [(2, .d (eI (6 : Int)))]) [] [] (by kernel_rfl) rfl (by kernel_rfl)) (aI rfl aG) rfl))))
                ·refine SC.skip ?_
                 change SC _ _ _ _ _
                 have q := si h7; subst q
                 exact SC.region (sm rfl (s1 (bi rfl rfl aR) (sa rfl (SO.nil (lf (wq rfl))))))
               ·have q := si h7; subst q; have q : _ = _ := hv7; subst q; have q := si h5; subst q
                exact SC.exit (lf (wq rfl))
              ·intro _ h4
               obtain ⟨Qm, abY, h4⟩ := ob h4
               refine sr (s1 (aS (v := .d (eApiTable p0)) rfl (aj uE vk rfl rfl)) (s1 (aS (v := .d (eApiIndex x9)) rfl (aj wu F8 rfl rfl)) (c0 (Gi p0 x9 _ abY) wf rfl rfl rfl anv rfl (fun _ => rfl) (fun _ => rfl) (sa rfl (sn (sr (sm rfl (s1 (bi rfl rfl bA) (sn ?_)))))))))
               refine cB h4 rfl (fun h4 => ?_) (fun h4 => ?_)
               ·have q := si h4; subst q; have q := si h3; subst q; have q : _ = _ := hv3; subst q; have q := si h1; subst q; have q := si h0; subst q
                exact sr (sm rfl (sa rfl (sn (SC.ret (aV (wc (e' := [(2, .d (eI Qm))]) [] [] (by kernel_rfl) rfl (by kernel_rfl)) (aI rfl aG) rfl)))))
               ·have q := si h4; subst q
                exact SC.skip (lf (wc [0] [0] (by kernel_rfl) rfl (by kernel_rfl)))
            ·intro _ h3
             have q := si h3; subst q
             exact SC.region (sm rfl (s1 (bi rfl rfl aR) (sa rfl (SO.nil (lf (wq rfl))))))
           ·have q := si h3; subst q; have q : _ = _ := hv3; subst q; have q := si h1; subst q
            exact SC.exit (lf (wc [] [] (by kernel_rfl) rfl (by kernel_rfl)))
          ·intro _ h0
           have q := si h0; subst q
           exact sr (sa rfl (sn (SC.ret (aV (Wk.refl _) (aI rfl aG) rfl))))
noncomputable def iR (p0 : List Int) (p1 : Int) : Option Int :=
 eH (Y := Unit) (E := Int)
 (Option.bind (α := Unit ⊕ Int)
 (loop (Y := Int) (W := Unit ⊕ Int) (fun QM =>
 bif (decide (QM < (p0.length : Int))) then
 Option.bind (bF p0 QM) fun v51 =>
 bif (p1 == v51) then
 some (Sum.inr (Sum.inr QM))
 else
 some (Sum.inl (bD (QM + (1 : Int))))
 else
 some (Sum.inr (Sum.inl ()))) (0 : Int))
 (Sum.elim (fun e => some (Sum.inl e)) (fun e => some (Sum.inr e))))
 (fun _ =>
 some (-1 : Int))
 (fun e => some e)
theorem vB (p0 : List Int) (p1 : Int) (r : Int) (h0 : iR p0 p1 = some r) : aL Tryz.prog 80 [.d ((eL 1 eI) p0), .d (eI p1)] [] (.d (eI r)) [] := by
 unfold iR at h0
 refine fn0 [0, 1] Tryz.func80 rfl rfl rfl rfl rfl ?_
 refine sr (sa rfl (sn (SC.seqB h0 (fun y => ⟨mk 19 [], []⟩) ?_ ?_)))
 ·intro aez h1 h0
  obtain ⟨aev, h2, h1⟩ := ob h1
  refine sr (sm rfl (s1 (len rfl rfl rfl (aZ mO)) (sm rfl (sn (SC.blk (SC.dH h2 (fun y => ⟨mk 19 [(0, .d ((eL 1 eI) p0)), (1, .d (eI p1)), (7, .d (eI (p0.length : Int))), (8, .d (eI y))], []⟩) (wq rfl) ?_))))))
  intro n52
  rintro QM ad6 h3 hv3
  refine sr (s1 (bi rfl rfl aQ) (sn (sq (cB h3 rfl (fun h3 => ?_) (fun h3 => ?_)))))
  ·obtain ⟨v51, U4, h3⟩ := ob h3
   refine sk (sq (SC.blk (sr (sm rfl (sa rfl (sn (sr (sm rfl (sm rfl ?_)))))))))
   refine sm rfl (s1 (j4 rfl rfl mO bO (ak U4).1 (aT (ak U4).2) rfl) (s1 (aS rfl (bK bO dW rfl)) (s1 (bi rfl rfl aP) (sn (cB h3 rfl (fun h3 => ?_) (fun h3 => ?_))))))
   ·have q := si h3; subst q; have q : _ = _ := hv3; subst q; have q := si h1; subst q; have q := si h0; subst q
    exact sr (sm rfl (sa rfl (sn (SC.ret (aV (Wk.refl _) (aI rfl aG) rfl)))))
   ·refine SC.skip ?_
    change SC _ _ _ _ _
    have q := si h3; subst q
    exact SC.region (s1 (bi rfl rfl aR) (sm rfl (SO.nil (lf (wq rfl)))))
  ·have q := si h3; subst q; have q : _ = _ := hv3; subst q; have q := si h1; subst q
   exact SC.exit (lf (wq rfl))
 ·intro _ h0
  have q := si h0; subst q
  exact sr (sa rfl (sn (SC.ret (aV (Wk.refl _) (aI rfl aG) rfl))))
noncomputable def dY (p0 : List Int) (p1 : Int) : Option Bool :=
 Option.bind (iR p0 p1) fun r7 =>
 some (decide (r7 ≥ (0 : Int)))
theorem kL (p0 : List Int) (p1 : Int) (r : Bool) (h0 : dY p0 p1 = some r) : aL Tryz.prog 48 [.d ((eL 1 eI) p0), .d (eI p1)] [] (.d (eB r)) [] := by
 unfold dY at h0
 refine fn0 [0, 1] Tryz.func48 rfl rfl rfl rfl rfl ?_
 obtain ⟨r7, G7, h0⟩ := ob h0; have q := si h0; subst q
 refine sr (sa rfl (sn (sr (sm rfl (sm rfl (c0 (vB p0 p1 _ G7) wf rfl rfl rfl am8 rfl (fun _ => rfl) (fun _ => rfl) (s1 (bi rfl rfl dU) (sa rfl (sn ?_)))))))))
 exact SC.ret (aV (Wk.refl _) (aI rfl aG) rfl)
noncomputable def uw (p0 : ApiPart) (p1 : Int) : Option Unit :=
 some ()
theorem Hl (p0 : ApiPart) (p1 : Int) (r : Unit) (h0 : uw p0 p1 = some r) : aL Tryz.prog 50 [.d (eApiPart p0), .ref 0 0 0] [.box (.d (eI p1))] (.d (eB (p0.Col == p1))) [.box (.d (eI p1))] := by
 unfold uw at h0
 refine fn0 [0, 1] Tryz.func50 rfl rfl rfl rfl rfl ?_
 have q := si h0; subst q
 refine sr (s1 (nH (k := 1) rfl rfl rfl) (sa rfl (sn (sr (s1 (far (k := 0) rfl Dy bO rfl) (s1 (aS rfl (aj bO dW rfl rfl)) (s1 (aS rfl (aj bO dW rfl rfl)) (s1 (bi rfl rfl aP) (sa rfl ?_)))))))))
 exact sn (SC.ret (aV (wc (e' := [(3, .d (eB (p0.Col == p1)))]) [0] [0] (by kernel_rfl) rfl (by kernel_rfl)) (aI rfl aG) rfl))
noncomputable def dP (p0 : List ApiPart) (p1 : Int) : Option Int :=
 eH (Y := Unit) (E := Int)
 (Option.bind (α := Unit ⊕ Int)
 (loop (Y := Int) (W := Unit ⊕ Int) (fun Bc =>
 bif (decide (Bc < (p0.length : Int))) then
 Option.bind (bF p0 Bc) fun v68 =>
 Option.bind (uw v68 p1) fun _ =>
 bif (v68.Col == p1) then
 some (Sum.inr (Sum.inr Bc))
 else
 some (Sum.inl (bD (Bc + (1 : Int))))
 else
 some (Sum.inr (Sum.inl ()))) (0 : Int))
 (Sum.elim (fun e => some (Sum.inl e)) (fun e => some (Sum.inr e))))
 (fun _ =>
 some (-1 : Int))
 (fun e => some e)
theorem kV (p0 : List ApiPart) (p1 : Int) (r : Int) (h0 : dP p0 p1 = some r) : aL Tryz.prog 81 [.d ((eL 2 eApiPart) p0), .fn (.func 50) [] [.ref 0 0 0]] [.box (.d (eI p1))] (.d (eI r)) [.box (.d (eI p1))] := by
 unfold dP at h0
 refine fn0 [0, 1] Tryz.func81 rfl rfl rfl rfl rfl ?_
 refine sr (sa rfl (sn (SC.seqB h0 (fun y => ⟨mk 19 [], [.box (.d (eI p1))]⟩) ?_ ?_)))
 ·intro L6 h1 h0
  obtain ⟨Qh, h2, h1⟩ := ob h1
  refine sr (sm rfl (s1 (len rfl rfl rfl (aZ xP)) (sm rfl (sn (SC.blk (SC.dH h2 (fun y => ⟨mk 19 [(0, .d ((eL 2 eApiPart) p0)), (1, .fn (.func 50) [] [.ref 0 0 0]), (7, .d (eI (p0.length : Int))), (8, .d (eI y))], [.box (.d (eI p1))]⟩) (wq rfl) ?_))))))
  intro n70
  rintro Bc Qb h3 hv3
  refine sr (s1 (bi rfl rfl aQ) (sn (sq (cB h3 rfl (fun h3 => ?_) (fun h3 => ?_)))))
  ·obtain ⟨v68, Ca, h3⟩ := ob h3; obtain ⟨_, al9, h3⟩ := ob h3
   refine sk (sq (SC.blk (sr (sm rfl (sa rfl (sn (sr (sm rfl (sm rfl ?_)))))))))
   refine sm rfl (s1 (j4 rfl rfl xP JY (ak Ca).1 (aT (ak Ca).2) rfl) (s1 (aS (v := .d (eApiPart v68)) rfl (bK JY aeF rfl)) (cq [0] [] (Hl v68 p1 _ al9) wf rfl rfl rfl anj rfl rfl rfl rfl rfl rfl rfl rfl (sn (cB h3 rfl (fun h3 => ?_) (fun h3 => ?_))))))
   ·have q := si h3; subst q; have q : _ = _ := hv3; subst q; have q := si h1; subst q; have q := si h0; subst q
    exact sr (sm rfl (sa rfl (sn (SC.ret (aV (Wk.refl _) (aI rfl aG) rfl)))))
   ·refine SC.skip ?_
    change SC _ _ _ _ _
    have q := si h3; subst q
    exact SC.region (s1 (bi rfl rfl aR) (sm rfl (SO.nil (lf (wq rfl)))))
  ·have q := si h3; subst q; have q : _ = _ := hv3; subst q; have q := si h1; subst q
   exact SC.exit (lf (wq rfl))
 ·intro _ h0
  have q := si h0; subst q
  exact sr (sa rfl (sn (SC.ret (aV (Wk.refl _) (aI rfl aG) rfl))))
noncomputable def cO (p0 : List ApiPart) (p1 : Int) : Option Bool :=
 Option.bind (dP p0 p1) fun r7 =>
 some (decide (r7 ≥ (0 : Int)))
theorem j5 (p0 : List ApiPart) (p1 : Int) (r : Bool) (h0 : cO p0 p1 = some r) : aL Tryz.prog 49 [.d ((eL 2 eApiPart) p0), .fn (.func 50) [] [.ref 0 0 0]] [.box (.d (eI p1))] (.d (eB r)) [.box (.d (eI p1))] := by
 unfold cO at h0
 refine fn0 [0, 1] Tryz.func49 rfl rfl rfl rfl rfl ?_
 obtain ⟨r7, G7, h0⟩ := ob h0; have q := si h0; subst q
 refine sr (sa rfl (sn (sr (sm rfl (sm rfl (cq [0] [] (kV p0 p1 _ G7) wf rfl rfl rfl am7 rfl rfl rfl rfl rfl rfl rfl rfl (s1 (bi rfl rfl dU) (sa rfl (sn ?_)))))))))
 exact SC.ret (aV (Wk.refl _) (aI rfl aG) rfl)
noncomputable def vS (p0 : ApiIndex) (p1 : Int) : Option Bool :=
 Option.bind (α := Bool)
 (Option.bind (dY p0.Extra p1) fun Fe =>
 bif Fe then
 some true
 else
 Option.bind (cO p0.Parts p1) fun Xw =>
 some Xw)
 fun Tt =>
 some Tt
theorem KS (p0 : ApiIndex) (p1 : Int) (r : Bool) (h0 : vS p0 p1 = some r) : aL Tryz.prog 47 [.d (eApiIndex p0), .ref 0 0 0] [.box (.d (eI p1))] (.d (eB r)) [.box (.d (eI p1))] := by
 unfold vS at h0
 refine fn0 [0, 1] Tryz.func47 rfl rfl rfl rfl rfl ?_
 refine sr (s1 (nH (k := 1) rfl rfl rfl) (sa rfl (sn (SC.bJ h0 (fun y => ⟨mk 14 [(3, .d (eB y))], [.box (.d (eI p1))]⟩) ?_ ?_))))
 ·intro Uf h1
  obtain ⟨Fe, OX, h1⟩ := ob h1
  refine SC.region (s1 (far (k := 2) rfl wN jA rfl) (s1 (aS rfl (aj jA vo rfl rfl)) (s1 (aS rfl (aj bO dW rfl rfl)) (c0 (kL p0.Extra p1 _ OX) wf rfl rfl rfl ahS rfl (fun _ => rfl) (fun _ => rfl) (sm rfl (sp h1 (fun h1 => ?_) (fun h1 => ?_)))))))
  ·have q := si h1; subst q
   exact kw rfl (kw rfl (kw rfl (kw rfl (s1 (pkt rfl rfl) (sa rfl (SO.nil ((wc [0] [0] (by kernel_rfl) rfl (by kernel_rfl)))))))))
  ·obtain ⟨Xw, abS, h1⟩ := ob h1; have q := si h1; subst q
   exact gw rfl (far (k := 1) rfl yP zB rfl) (gw rfl (aS rfl (aj zB L8 rfl rfl)) (gw rfl (mkf rfl rfl) (cq [0] [] (j5 p0.Parts p1 _ abS) (ww rfl) rfl rfl rfl ank rfl rfl rfl rfl rfl rfl rfl rfl (s1 (dB rfl rfl) (sa rfl (SO.nil ((wc [0] [0] (by kernel_rfl) rfl (by kernel_rfl)))))))))
 ·rintro Tt h0
  have q := si h0; subst q
  exact SC.ret (aV (Wk.refl _) (aI rfl aG) rfl)
noncomputable def dK (p0 : List ApiIndex) (p1 : Int) : Option Int :=
 eH (Y := Unit) (E := Int)
 (Option.bind (α := Unit ⊕ Int)
 (loop (Y := Int) (W := Unit ⊕ Int) (fun Lu =>
 bif (decide (Lu < (p0.length : Int))) then
 Option.bind (bF p0 Lu) fun v85 =>
 Option.bind (vS v85 p1) fun Ut =>
 bif Ut then
 some (Sum.inr (Sum.inr Lu))
 else
 some (Sum.inl (bD (Lu + (1 : Int))))
 else
 some (Sum.inr (Sum.inl ()))) (0 : Int))
 (Sum.elim (fun e => some (Sum.inl e)) (fun e => some (Sum.inr e))))
 (fun _ =>
 some (-1 : Int))
 (fun e => some e)
theorem kF (p0 : List ApiIndex) (p1 : Int) (r : Int) (h0 : dK p0 p1 = some r) : aL Tryz.prog 79 [.d ((eL 6 eApiIndex) p0), .fn (.func 47) [] [.ref 0 0 0]] [.box (.d (eI p1))] (.d (eI r)) [.box (.d (eI p1))] := by
 unfold dK at h0
 refine fn0 [0, 1] Tryz.func79 rfl rfl rfl rfl rfl ?_
 refine sr (sa rfl (sn (SC.seqB h0 (fun y => ⟨mk 19 [], [.box (.d (eI p1))]⟩) ?_ ?_)))
 ·intro Ub h1 h0
  obtain ⟨YP, h2, h1⟩ := ob h1
  refine sr (sm rfl (s1 (len rfl rfl rfl (aZ CP)) (sm rfl (sn (SC.blk (SC.dH h2 (fun y => ⟨mk 19 [(0, .d ((eL 6 eApiIndex) p0)), (1, .fn (.func 47) [] [.ref 0 0 0]), (7, .d (eI (p0.length : Int))), (8, .d (eI y))], [.box (.d (eI p1))]⟩) (wq rfl) ?_))))))
  intro n88
  rintro Lu YI h3 hv3
  refine sr (s1 (bi rfl rfl aQ) (sn (sq (cB h3 rfl (fun h3 => ?_) (fun h3 => ?_)))))
  ·obtain ⟨v85, ML, h3⟩ := ob h3; obtain ⟨Ut, OW, h3⟩ := ob h3
   refine sk (sq (SC.blk (sr (sm rfl (sa rfl (sn (sr (sm rfl (sm rfl ?_)))))))))
   refine sm rfl (s1 (j4 rfl rfl CP wu (ak ML).1 (aT (ak ML).2) rfl) (s1 (aS (v := .d (eApiIndex v85)) rfl (bK wu F8 rfl)) (cq [0] [] (KS v85 p1 _ OW) wf rfl rfl rfl anl rfl rfl rfl rfl rfl rfl rfl rfl (sn (cB h3 rfl (fun h3 => ?_) (fun h3 => ?_))))))
   ·have q := si h3; subst q; have q : _ = _ := hv3; subst q; have q := si h1; subst q; have q := si h0; subst q
    exact sr (sm rfl (sa rfl (sn (SC.ret (aV (Wk.refl _) (aI rfl aG) rfl)))))
   ·refine SC.skip ?_
    change SC _ _ _ _ _
    have q := si h3; subst q
    exact SC.region (s1 (bi rfl rfl aR) (sm rfl (SO.nil (lf (wq rfl)))))
  ·have q := si h3; subst q; have q : _ = _ := hv3; subst q; have q := si h1; subst q
   exact SC.exit (lf (wq rfl))
 ·intro _ h0
  have q := si h0; subst q
  exact sr (sa rfl (sn (SC.ret (aV (Wk.refl _) (aI rfl aG) rfl))))
noncomputable def cK (p0 : List ApiIndex) (p1 : Int) : Option Bool :=
 Option.bind (dK p0 p1) fun r7 =>
 some (decide (r7 ≥ (0 : Int)))
theorem jG (p0 : List ApiIndex) (p1 : Int) (r : Bool) (h0 : cK p0 p1 = some r) : aL Tryz.prog 46 [.d ((eL 6 eApiIndex) p0), .fn (.func 47) [] [.ref 0 0 0]] [.box (.d (eI p1))] (.d (eB r)) [.box (.d (eI p1))] := by
 unfold cK at h0
 refine fn0 [0, 1] Tryz.func46 rfl rfl rfl rfl rfl ?_
 obtain ⟨r7, G7, h0⟩ := ob h0; have q := si h0; subst q
 refine sr (sa rfl (sn (sr (sm rfl (sm rfl (cq [0] [] (kF p0 p1 _ G7) wf rfl rfl rfl am9 rfl rfl rfl rfl rfl rfl rfl rfl (s1 (bi rfl rfl dU) (sa rfl (sn ?_)))))))))
 exact SC.ret (aV (Wk.refl _) (aI rfl aG) rfl)
noncomputable def zf (p0 : List UInt8) : Option Unit :=
 bif decide (p0.length * 1 ≤ room) then
 some ()
 else none
theorem Gy (p0 : List UInt8) (r : Unit) (h0 : zf p0 = some r) : aL Tryz.prog 91 [.d ((eL 1 bR) p0)] [] (.ref 0 0 0) [.box (.agg [.slc 1 1 0 p0.length none, .d (eB false)]), .row 1 (List.map bR p0) true] := by
 unfold zf at h0
 refine fn0 [0] Tryz.func91 rfl rfl rfl rfl rfl ?_
 obtain ⟨hg3, h0⟩ := gd h0; have q := si h0; subst q
 refine sr (s1 (ig (v := .d .Dt) rfl) (sn (sr (sm rfl (s1 (app rfl rfl rfl rfl yX (aN (f := bR) (k := 0) bW DT AO hg3 rfl)) (s1 (l8 (v := .agg [.slc 0 1 0 p0.length none, .d (eB false)]) rfl (by rfl)) (s1 (nH (k := 1) rfl rfl rfl) (sa rfl (sn ?_)))))))))
 exact SC.ret (aV (wc (e' := [(2, .ref 0 0 0)]) [1, 0] [1] (by kernel_rfl) rfl (by kernel_rfl)) (aI rfl aG) rfl)
noncomputable def jK (p0 : Int) (p1 : List UInt8) (p2 : Bool) : Option (Nat × Nat × Nat × Bool) :=
 Option.bind (α := Bool)
 (bif p2 then
 some true
 else
 some (decide ((p1.length : Int) < p0)))
 fun y15 =>
 bif y15 then
 Option.bind (α := Unit)
 (some ())
 fun _ =>
 some (0, 0, p1.length, true)
 else
 bif decide (0 ≤ p0 ∧ p0 ≤ (p1.length : Int)) then
 bif decide (0 ≤ p0 ∧ p0 ≤ (p1.length : Int)) then
 some (p0.toNat, 0 + p0.toNat, p1.length - p0.toNat, p2)
 else none
 else none
theorem Fj (p0 : Int) (p1 : List UInt8) (p2 : Bool) (r : Nat × Nat × Nat × Bool) (h0 : jK p0 p1 p2 = some r) : aL Tryz.prog 128 [.ref 0 0 0, .d (eI p0)] [.box (.agg [.slc 1 1 0 p1.length none, .d (eB p2)]), .row 1 (List.map bR p1) true] (.slc 1 1 0 r.1 none) [.box (.agg [.slc 1 1 r.2.1 r.2.2.1 none, .d (eB r.2.2.2)]), .row 1 (List.map bR p1) true] := by
 unfold jK at h0
 refine fn0 [0, 1] Tryz.func128 rfl rfl rfl rfl rfl ?_
 refine sr (s1 (ig (v := .d .aA) rfl) (sn (sq (SC.bJ h0 (fun y => ⟨mk 44 [(0, .ref 0 0 0), (1, .d (eI p0)), (22, .d (eB y))], [.box (.agg [.slc 1 1 0 p1.length none, .d (eB p2)]), .row 1 (List.map bR p1) true]⟩) ?_ ?_))))
 ·intro an5 h1
  refine SC.region (sm rfl (s1 (bi (v := .d (eB false)) rfl rfl (fun _ _ => uf zN)) (sm rfl (gw rfl (mv rfl) (gw rfl (gJ rfl) (gw rfl (far (k := 1) rfl uj jV rfl) (gw rfl (aS rfl (aj jV zD rfl rfl)) (s1 (dB rfl rfl) (sm rfl ?_)))))))))
  refine sp h1 (fun h1 => ?_) (fun h1 => ?_)
  ·have q := si h1; subst q
   exact kw rfl (kw rfl (kw rfl (kw rfl (kw rfl (kw rfl (kw rfl (s1 (pkt rfl rfl) (SO.nil ((wq rfl))))))))))
  ·have q := si h1; subst q
   exact gw rfl (mv rfl) (gw rfl (gJ rfl) (gw rfl (far (k := 0) rfl jO bS rfl) (gw rfl (aS rfl (aj bS gL rfl rfl)) (gw rfl (len rfl rfl rfl (dS bW)) (gw rfl (mv rfl) (gw rfl (bi rfl rfl aQ) (s1 (dB rfl rfl) (SO.nil ((wq rfl))))))))))
 ·rintro y15 h0
  refine cB h0 rfl (fun h0 => ?_) (fun h0 => ?_)
  ·refine SC.bJ h0 (fun y => ⟨mk 44 [], [.box (.agg [.slc 1 1 0 p1.length none, .d (eB true)]), .row 1 (List.map bR p1) true]⟩) ?_ ?_
   ·intro Qi h1
    have q := si h1; subst q
    refine sr (sm rfl (s1 (bi (v := .d (eB true)) rfl rfl (fun _ _ => zi zN)) (sn (cT rfl (SC.region (sm rfl (s1 (gJ rfl) (s1 (far (k := 1) rfl uj jV rfl) (s0 (fJ (b := .d (eB true)) rfl rfl (sB (d' := .agg [.slc 1 1 0 p1.length none, .d (eB true)]) jV rfl rfl rfl rfl rfl rfl rfl)) ?_)))))))))
    exact SO.nil ((wq rfl))
   ·intro _ h0
    have q := si h0; subst q
    exact sr (s1 (ig (v := .d .aA) rfl) (sn (SC.ret (aV (Wk.trans (Wk.env (e' := [(4, .slc 1 1 0 0 none)]) (EW.cons (AW.dX _ _ _) EW.nil)) (wq (e' := [(4, .slc 1 1 0 0 none)]) rfl)) (aI rfl aG) rfl))))
  ·obtain ⟨amO, h0⟩ := gd h0; obtain ⟨aci, h0⟩ := gd h0; have q := si h0; subst q
   refine sk (sr (sm rfl (s1 (gJ rfl) (s1 (far (k := 0) rfl jO bS rfl) (s1 (aS rfl (aj bS gL rfl rfl)) (sm rfl (s1 (SV rfl rfl rfl rfl (CW bW qQ amO)) (sa rfl (sn ?_)))))))))
   refine sr (sm rfl (sm rfl (s1 (gJ rfl) (s1 (far (k := 0) rfl jO bS rfl) (s1 (aS rfl (aj bS gL rfl rfl)) (sm rfl (s1 (SV rfl rfl rfl rfl (CV bW qQ aci)) (s1 (gJ rfl) (s1 (far (k := 0) rfl jO bS rfl) ?_)))))))))
   exact s0 (fJ rfl rfl (sB (d' := .agg [.slc 1 1 (0 + p0.toNat) (p1.length - p0.toNat) none, .d (eB p2)]) bS rfl rfl rfl rfl rfl rfl rfl)) (sn (sr (sm rfl (sa rfl (sn (SC.ret (aV (Wk.refl _) (aI rfl aG) rfl)))))))
noncomputable def kQ (p0 : Int) (p1 : List UInt8) (p2 : Bool) : Option (UInt64 × Nat × Nat × Bool) :=
 Option.bind (α := UInt64 × Nat × Nat × Bool)
 (Option.bind (jK p0 p1 p2) fun (Ll, Io, SX, r99) =>
 Option.bind (α := UInt64 × Nat × Nat × Bool)
 (loop (Y := UInt64 × Int) (W := UInt64 × Nat × Nat × Bool) (fun (y101, y102) =>
 bif (decide (y102 < (Ll : Int))) then
 Option.bind (qY p1 0 Ll y102) fun FZ =>
 some (Sum.inl (((lV y101 8) ||| (FZ.toUInt64)), (bD (y102 + (1 : Int)))))
 else
 some (Sum.inr (y101, Io, SX, r99))) ((0 : UInt64), (0 : Int)))
 (fun e => some e))
 fun (y90, y91, Li, y93) =>
 some (y90, y91, Li, y93)
theorem BM (p0 : Int) (p1 : List UInt8) (p2 : Bool) (r : UInt64 × Nat × Nat × Bool) (h0 : kQ p0 p1 p2 = some r) : aL Tryz.prog 115 [.ref 0 0 0, .d (eI p0)] [.box (.agg [.slc 1 1 0 p1.length none, .d (eB p2)]), .row 1 (List.map bR p1) true] (.d (eU64 r.1)) [.box (.agg [.slc 1 1 r.2.1 r.2.2.1 none, .d (eB r.2.2.2)]), .row 1 (List.map bR p1) true] := by
 unfold kQ at h0
 refine fn0 [0, 1] Tryz.func115 rfl rfl rfl rfl rfl ?_
 refine sr (s1 (ig (v := .d (eU64 (0 : UInt64))) rfl) (sn (sr (s1 (ig (v := .d (eU64 (0 : UInt64))) rfl) (sn (SC.bJ h0 (fun y => ⟨mk 23 [(5, .d (eU64 y.1))], [.box (.agg [.slc 1 1 y.2.1 y.2.2.1 none, .d (eB y.2.2.2)]), .row 1 (List.map bR p1) true]⟩) ?_ ?_))))))
 ·intro anN h1
  obtain ⟨⟨Ll, Io, SX, r99⟩, abH, h1⟩ := ob h1; obtain ⟨aaU, h2, h1⟩ := ob h1
  refine sr (sm rfl (sm rfl (cq [0, 1] [] (Fj p0 p1 p2 _ abH) wf rfl rfl rfl VJ rfl rfl rfl rfl rfl rfl rfl rfl (s1 (len rfl rfl rfl (dS bW)) (sm rfl (sn (SC.blk (SC.dH h2 (fun y => ⟨mk 23 [(5, .d (eU64 y.1)), (10, .slc 1 1 0 Ll none), (11, .d (eI (Ll : Int))), (12, .d (eI y.2))], [.box (.agg [.slc 1 1 Io SX none, .d (eB r99)]), .row 1 (List.map bR p1) true]⟩) (wq rfl) ?_))))))))
  intro n109
  rintro ⟨y101, y102⟩ aaH h3 hv3
  refine sr (s1 (bi rfl rfl aQ) (sn (sq (cB h3 rfl (fun h3 => ?_) (fun h3 => ?_)))))
  ·obtain ⟨FZ, M5, h3⟩ := ob h3
   refine sk (sq (SC.blk (sr (s1 (CB rfl rfl bW qQ (gu M5).1) (s1 (aS rfl (gH qQ Ov rfl (aT (by have q := (gu M5).2; simpa using q)) rfl)) (sa rfl (sn (SC.region (sm rfl ?_)))))))))
   refine s1 (bi (v := .d (eU64 (lV y101 8))) rfl rfl (fun X Y => DY _ X Y y101 _ (by decide))) (sm rfl (s1 (tF rfl (vW uX uD FZ)) (s1 (bi rfl rfl Mq) (sa rfl (SO.nil ?_)))))
   change SC _ _ _ _ _
   have q := si h3; subst q
   exact SC.region (s1 (bi rfl rfl aR) (sm rfl (SO.nil (lf (wq rfl)))))
  ·have q := si h3; subst q; have q : _ = _ := hv3; subst q; have q := si h1; subst q
   exact SC.exit ((wq rfl))
 ·rintro ⟨y90, y91, Li, y93⟩ h0
  have q := si h0; subst q
  exact sr (sm rfl (sa rfl (sn (SC.ret (aV (Wk.refl _) (aI rfl aG) rfl)))))
noncomputable def lJ (p0 : List UInt8) (p1 : Bool) : Option (UInt8 × Nat × Nat × Bool) :=
 Option.bind (kQ (1 : Int) p0 p1) fun (r16, YX, Ta, Kn) =>
 some ((r16.toUInt8), YX, Ta, Kn)
theorem xE (p0 : List UInt8) (p1 : Bool) (r : UInt8 × Nat × Nat × Bool) (h0 : lJ p0 p1 = some r) : aL Tryz.prog 92 [.ref 0 0 0] [.box (.agg [.slc 1 1 0 p0.length none, .d (eB p1)]), .row 1 (List.map bR p0) true] (.d (bR r.1)) [.box (.agg [.slc 1 1 r.2.1 r.2.2.1 none, .d (eB r.2.2.2)]), .row 1 (List.map bR p0) true] := by
 unfold lJ at h0
 refine fn0 [0] Tryz.func92 rfl rfl rfl rfl rfl ?_
 obtain ⟨⟨r16, YX, Ta, Kn⟩, OZ, h0⟩ := ob h0; have q := si h0; subst q
 refine sr (s1 (ig (v := .d (bR (0 : UInt8))) rfl) (sn (sr (sm rfl (cq [0, 1] [] (BM (1 : Int) p0 p1 _ OZ) wf rfl rfl rfl QB rfl rfl rfl rfl rfl rfl rfl rfl (s1 (tF rfl (o9 uD uX r16)) (sa rfl (sn (SC.ret ?_)))))))))
 exact aV (Wk.refl _) (aI rfl aG) rfl
noncomputable def jL (p0 : List UInt8) (p1 : Nat) (p2 : Nat) (p3 : Bool) : Option Unit :=
 some ()
theorem qM (p0 : List UInt8) (p1 : Nat) (p2 : Nat) (p3 : Bool) (r : Unit) (h0 : jL p0 p1 p2 p3 = some r) : aL Tryz.prog 93 [.ref 0 0 0] [.box (.agg [.slc 1 1 p1 p2 none, .d (eB p3)]), .row 1 (List.map bR p0) true] (.d (eI (p2 : Int))) [.box (.agg [.slc 1 1 p1 p2 none, .d (eB p3)]), .row 1 (List.map bR p0) true] := by
 unfold jL at h0
 refine fn0 [0] Tryz.func93 rfl rfl rfl rfl rfl ?_
 have q := si h0; subst q
 refine sr (sa rfl (sn (sq (sr (sm rfl (s1 (bi (v := .d (eB false)) rfl rfl (fun _ _ => uf zN)) (sn (cF rfl (sk ?_)))))))))
 exact sr (sm rfl (s1 (gJ rfl) (s1 (far (k := 0) rfl jO bS rfl) (s1 (aS rfl (aj bS gL rfl rfl)) (s1 (len rfl rfl rfl (dS bW)) (sa rfl (sn (SC.ret (aV (Wk.refl _) (aI rfl aG) rfl)))))))))
noncomputable def fG (p0 : Int) (p1 : List UInt8) (p2 : Nat) (p3 : Nat) (p4 : Bool) : Option (Nat × Nat × Nat × Nat × Bool) :=
 Option.bind (α := Bool)
 (bif p4 then
 some true
 else
 some (decide ((p3 : Int) < p0)))
 fun Tz =>
 bif Tz then
 Option.bind (α := Unit)
 (some ())
 fun _ =>
 some (0, 0, p2, p3, true)
 else
 bif decide (0 ≤ p0 ∧ p0 ≤ (p3 : Int)) then
 bif decide (0 ≤ p0 ∧ p0 ≤ (p3 : Int)) then
 some (p2, p0.toNat, p2 + p0.toNat, p3 - p0.toNat, p4)
 else none
 else none
theorem tX (p0 : Int) (p1 : List UInt8) (p2 : Nat) (p3 : Nat) (p4 : Bool) (r : Nat × Nat × Nat × Nat × Bool) (h0 : fG p0 p1 p2 p3 p4 = some r) : aL Tryz.prog 128 [.ref 0 0 0, .d (eI p0)] [.box (.agg [.slc 1 1 p2 p3 none, .d (eB p4)]), .row 1 (List.map bR p1) true] (.slc 1 1 r.1 r.2.1 none) [.box (.agg [.slc 1 1 r.2.2.1 r.2.2.2.1 none, .d (eB r.2.2.2.2)]), .row 1 (List.map bR p1) true] := by
 unfold fG at h0
 refine fn0 [0, 1] Tryz.func128 rfl rfl rfl rfl rfl ?_
 refine sr (s1 (ig (v := .d .aA) rfl) (sn (sq (SC.bJ h0 (fun y => ⟨mk 44 [(0, .ref 0 0 0), (1, .d (eI p0)), (22, .d (eB y))], [.box (.agg [.slc 1 1 p2 p3 none, .d (eB p4)]), .row 1 (List.map bR p1) true]⟩) ?_ ?_))))
 ·intro Qi h1
  refine SC.region (sm rfl (s1 (bi (v := .d (eB false)) rfl rfl (fun _ _ => uf zN)) (sm rfl (gw rfl (mv rfl) (gw rfl (gJ rfl) (gw rfl (far (k := 1) rfl uj jV rfl) (gw rfl (aS rfl (aj jV zD rfl rfl)) (s1 (dB rfl rfl) (sm rfl ?_)))))))))
  refine sp h1 (fun h1 => ?_) (fun h1 => ?_)
  ·have q := si h1; subst q
   exact kw rfl (kw rfl (kw rfl (kw rfl (kw rfl (kw rfl (kw rfl (s1 (pkt rfl rfl) (SO.nil ((wq rfl))))))))))
  ·have q := si h1; subst q
   exact gw rfl (mv rfl) (gw rfl (gJ rfl) (gw rfl (far (k := 0) rfl jO bS rfl) (gw rfl (aS rfl (aj bS gL rfl rfl)) (gw rfl (len rfl rfl rfl (dS bW)) (gw rfl (mv rfl) (gw rfl (bi rfl rfl aQ) (s1 (dB rfl rfl) (SO.nil ((wq rfl))))))))))
 ·rintro Tz h0
  refine cB h0 rfl (fun h0 => ?_) (fun h0 => ?_)
  ·refine SC.bJ h0 (fun y => ⟨mk 44 [], [.box (.agg [.slc 1 1 p2 p3 none, .d (eB true)]), .row 1 (List.map bR p1) true]⟩) ?_ ?_
   ·intro an4 h1
    have q := si h1; subst q
    refine sr (sm rfl (s1 (bi (v := .d (eB true)) rfl rfl (fun _ _ => zi zN)) (sn (cT rfl (SC.region (sm rfl (s1 (gJ rfl) (s1 (far (k := 1) rfl uj jV rfl) (s0 (fJ (b := .d (eB true)) rfl rfl (sB (d' := .agg [.slc 1 1 p2 p3 none, .d (eB true)]) jV rfl rfl rfl rfl rfl rfl rfl)) ?_)))))))))
    exact SO.nil ((wq rfl))
   ·intro _ h0
    have q := si h0; subst q
    exact sr (s1 (ig (v := .d .aA) rfl) (sn (SC.ret (aV (Wk.trans (Wk.env (e' := [(4, .slc 1 1 0 0 none)]) (EW.cons (AW.dX _ _ _) EW.nil)) (wq (e' := [(4, .slc 1 1 0 0 none)]) rfl)) (aI rfl aG) rfl))))
  ·obtain ⟨aci, h0⟩ := gd h0; obtain ⟨amN, h0⟩ := gd h0; have q := si h0; subst q
   refine sk (sr (sm rfl (s1 (gJ rfl) (s1 (far (k := 0) rfl jO bS rfl) (s1 (aS rfl (aj bS gL rfl rfl)) (sm rfl (s1 (SV rfl rfl rfl rfl (CW bW qQ aci)) (sa rfl (sn ?_)))))))))
   refine sr (sm rfl (sm rfl (s1 (gJ rfl) (s1 (far (k := 0) rfl jO bS rfl) (s1 (aS rfl (aj bS gL rfl rfl)) (sm rfl (s1 (SV rfl rfl rfl rfl (CV bW qQ amN)) (s1 (gJ rfl) (s1 (far (k := 0) rfl jO bS rfl) ?_)))))))))
   exact s0 (fJ rfl rfl (sB (d' := .agg [.slc 1 1 (p2 + p0.toNat) (p3 - p0.toNat) none, .d (eB p4)]) bS rfl rfl rfl rfl rfl rfl rfl)) (sn (sr (sm rfl (sa rfl (sn (SC.ret (aV (Wk.refl _) (aI rfl aG) rfl)))))))
noncomputable def dL (p0 : Int) (p1 : List UInt8) (p2 : Nat) (p3 : Nat) (p4 : Bool) : Option (UInt64 × Nat × Nat × Bool) :=
 Option.bind (α := UInt64 × Nat × Nat × Bool)
 (Option.bind (fG p0 p1 p2 p3 p4) fun (abv, Ml, abu, Rm, abt) =>
 Option.bind (α := UInt64 × Nat × Nat × Bool)
 (loop (Y := UInt64 × Int) (W := UInt64 × Nat × Nat × Bool) (fun (JN, JM) =>
 bif (decide (JM < (Ml : Int))) then
 Option.bind (qY p1 abv Ml JM) fun FY =>
 some (Sum.inl (((lV JN 8) ||| (FY.toUInt64)), (bD (JM + (1 : Int)))))
 else
 some (Sum.inr (JN, abu, Rm, abt))) ((0 : UInt64), (0 : Int)))
 (fun e => some e))
 fun (y95, y96, Tg, y98) =>
 some (y95, y96, Tg, y98)
theorem lZ (p0 : Int) (p1 : List UInt8) (p2 : Nat) (p3 : Nat) (p4 : Bool) (r : UInt64 × Nat × Nat × Bool) (h0 : dL p0 p1 p2 p3 p4 = some r) : aL Tryz.prog 115 [.ref 0 0 0, .d (eI p0)] [.box (.agg [.slc 1 1 p2 p3 none, .d (eB p4)]), .row 1 (List.map bR p1) true] (.d (eU64 r.1)) [.box (.agg [.slc 1 1 r.2.1 r.2.2.1 none, .d (eB r.2.2.2)]), .row 1 (List.map bR p1) true] := by
 unfold dL at h0
 refine fn0 [0, 1] Tryz.func115 rfl rfl rfl rfl rfl ?_
 refine sr (s1 (ig (v := .d (eU64 (0 : UInt64))) rfl) (sn (sr (s1 (ig (v := .d (eU64 (0 : UInt64))) rfl) (sn (SC.bJ h0 (fun y => ⟨mk 23 [(5, .d (eU64 y.1))], [.box (.agg [.slc 1 1 y.2.1 y.2.2.1 none, .d (eB y.2.2.2)]), .row 1 (List.map bR p1) true]⟩) ?_ ?_))))))
 ·intro aew h1
  obtain ⟨⟨abv, Ml, abu, Rm, abt⟩, agZ, h1⟩ := ob h1; obtain ⟨akS, h2, h1⟩ := ob h1
  refine sr (sm rfl (sm rfl (cq [0, 1] [] (tX p0 p1 p2 p3 p4 _ agZ) wf rfl rfl rfl VJ rfl rfl rfl rfl rfl rfl rfl rfl (s1 (len rfl rfl rfl (dS bW)) (sm rfl (sn (SC.blk (SC.dH h2 (fun y => ⟨mk 23 [(5, .d (eU64 y.1)), (10, .slc 1 1 abv Ml none), (11, .d (eI (Ml : Int))), (12, .d (eI y.2))], [.box (.agg [.slc 1 1 abu Rm none, .d (eB abt)]), .row 1 (List.map bR p1) true]⟩) (wq rfl) ?_))))))))
  intro n115
  rintro ⟨JN, JM⟩ ajC h3 hv3
  refine sr (s1 (bi rfl rfl aQ) (sn (sq (cB h3 rfl (fun h3 => ?_) (fun h3 => ?_)))))
  ·obtain ⟨FY, hv114, h3⟩ := ob h3
   refine sk (sq (SC.blk (sr (s1 (ias rfl rfl bW qQ (gu hv114).1) (s1 (aS rfl (gH qQ Ov rfl (aT (gu hv114).2) rfl)) (sa rfl (sn (SC.region (sm rfl ?_)))))))))
   refine s1 (bi (v := .d (eU64 (lV JN 8))) rfl rfl (fun X Y => DY _ X Y JN _ (by decide))) (sm rfl (s1 (tF rfl (vW uX uD FY)) (s1 (bi rfl rfl Mq) (sa rfl (SO.nil ?_)))))
   change SC _ _ _ _ _
   have q := si h3; subst q
   exact SC.region (s1 (bi rfl rfl aR) (sm rfl (SO.nil (lf (wq rfl)))))
  ·have q := si h3; subst q; have q : _ = _ := hv3; subst q; have q := si h1; subst q
   exact SC.exit ((wq rfl))
 ·rintro ⟨y95, y96, Tg, y98⟩ h0
  have q := si h0; subst q
  exact sr (sm rfl (sa rfl (sn (SC.ret (aV (Wk.refl _) (aI rfl aG) rfl)))))
noncomputable def kR (p0 : List UInt8) (p1 : Nat) (p2 : Nat) (p3 : Bool) : Option (Bool × Nat × Nat × Bool) :=
 Option.bind (α := Bool)
 (bif (decide ((p2 : Int) > (0 : Int))) then
 Option.bind (qY p0 p1 p2 (0 : Int)) fun v28 =>
 some (decide ((1 : UInt8) < v28))
 else
 some false)
 fun Tt =>
 bif Tt then
 Option.bind (α := Unit)
 (some ())
 fun _ =>
 some (false, p1, p2, true)
 else
 Option.bind (dL (1 : Int) p0 p1 p2 p3) fun (Xw, r32, r33, r34) =>
 some ((Xw == (1 : UInt64)), r32, r33, r34)
theorem BN (p0 : List UInt8) (p1 : Nat) (p2 : Nat) (p3 : Bool) (r : Bool × Nat × Nat × Bool) (h0 : kR p0 p1 p2 p3 = some r) : aL Tryz.prog 116 [.ref 0 0 0] [.box (.agg [.slc 1 1 p1 p2 none, .d (eB p3)]), .row 1 (List.map bR p0) true] (.d (eB r.1)) [.box (.agg [.slc 1 1 r.2.1 r.2.2.1 none, .d (eB r.2.2.2)]), .row 1 (List.map bR p0) true] := by
 unfold kR at h0
 refine fn0 [0] Tryz.func116 rfl rfl rfl rfl rfl ?_
 refine sr (sa rfl (sn (sq (SC.bJ h0 (fun y => ⟨mk 30 [(0, .ref 0 0 0), (21, .d (eB y))], [.box (.agg [.slc 1 1 p1 p2 none, .d (eB p3)]), .row 1 (List.map bR p0) true]⟩) ?_ ?_))))
 ·intro Uf h1
  refine SC.region (sm rfl (s1 (bi (v := .d (eB false)) rfl rfl (fun _ _ => uf zN)) (sm rfl (gw rfl (mv rfl) (gw rfl (gJ rfl) (gw rfl (far (k := 0) rfl jO bS rfl) (gw rfl (aS rfl (aj bS gL rfl rfl)) (gw rfl (len rfl rfl rfl (dS bW)) (gw rfl (bi rfl rfl bP) ?_)))))))))
  refine gw rfl (mv rfl) (sp h1 (fun h1 => ?_) (fun h1 => ?_))
  ·obtain ⟨v28, hv28, h1⟩ := ob h1; have q := si h1; subst q
   refine gw rfl (mv rfl) (gw rfl (gJ rfl) (gw rfl (far (k := 0) rfl jO bS rfl) (gw rfl (aS rfl (aj bS gL rfl rfl)) (gw rfl (ias rfl rfl bW qQ (gu hv28).1) (gw rfl (aS rfl (gH qQ Ov rfl (aT (gu hv28).2) rfl)) (gw rfl (bi rfl rfl (rX (b := (1 : UInt8)))) (gw rfl (pkt rfl rfl) (s1 (dB rfl rfl) (SO.nil ?_)))))))))
   exact (wq rfl)
  ·have q := si h1; subst q
   refine kw rfl (kw rfl (kw rfl (kw rfl (kw rfl (kw rfl (kw rfl (gw rfl (dB rfl rfl) (s1 (dB rfl rfl) (SO.nil ?_)))))))))
   exact (wq rfl)
 ·rintro Tt h0
  refine cB h0 rfl (fun h0 => ?_) (fun h0 => ?_)
  ·refine SC.bJ h0 (fun y => ⟨mk 30 [], [.box (.agg [.slc 1 1 p1 p2 none, .d (eB true)]), .row 1 (List.map bR p0) true]⟩) ?_ ?_
   ·intro aeA h1
    have q := si h1; subst q
    refine sr (sm rfl (s1 (bi (v := .d (eB true)) rfl rfl (fun _ _ => zi zN)) (sn (cT rfl (SC.region (sm rfl (s1 (gJ rfl) (s1 (far (k := 1) rfl uj jV rfl) (s0 (fJ (b := .d (eB true)) rfl rfl (sB (d' := .agg [.slc 1 1 p1 p2 none, .d (eB true)]) jV rfl rfl rfl rfl rfl rfl rfl)) ?_)))))))))
    exact SO.nil ((wq rfl))
   ·intro _ h0
    have q := si h0; subst q
    exact sr (sa rfl (sn (SC.ret (aV (Wk.refl _) (aI rfl aG) rfl))))
  ·obtain ⟨⟨Xw, r32, r33, r34⟩, abS, h0⟩ := ob h0; have q := si h0; subst q
   exact sk (sr (sm rfl (cq [0, 1] [] (lZ (1 : Int) p0 p1 p2 p3 _ abS) wf rfl rfl rfl QB rfl rfl rfl rfl rfl rfl rfl rfl (s1 (bi rfl rfl (jo (b := (1 : UInt64)))) (sa rfl (sn (SC.ret (aV (Wk.refl _) (aI rfl aG) rfl))))))))
noncomputable def tY (p0 : List UInt8) (p1 : Nat) (p2 : Nat) (p3 : Bool) : Option (UInt64 × Nat × Nat × Bool) :=
 Option.bind (dL (8 : Int) p0 p1 p2 p3) fun (r16, YX, Ta, Kn) =>
 some (r16, YX, Ta, Kn)
theorem Gz (p0 : List UInt8) (p1 : Nat) (p2 : Nat) (p3 : Bool) (r : UInt64 × Nat × Nat × Bool) (h0 : tY p0 p1 p2 p3 = some r) : aL Tryz.prog 117 [.ref 0 0 0] [.box (.agg [.slc 1 1 p1 p2 none, .d (eB p3)]), .row 1 (List.map bR p0) true] (.d (eU64 r.1)) [.box (.agg [.slc 1 1 r.2.1 r.2.2.1 none, .d (eB r.2.2.2)]), .row 1 (List.map bR p0) true] := by
 unfold tY at h0
 refine fn0 [0] Tryz.func117 rfl rfl rfl rfl rfl ?_
 obtain ⟨⟨r16, YX, Ta, Kn⟩, OZ, h0⟩ := ob h0; have q := si h0; subst q
 exact sr (s1 (ig (v := .d (eU64 (0 : UInt64))) rfl) (sn (sr (sm rfl (cq [0, 1] [] (lZ (8 : Int) p0 p1 p2 p3 _ OZ) wf rfl rfl rfl QB rfl rfl rfl rfl rfl rfl rfl rfl (sa rfl (sn (SC.ret (aV (Wk.refl _) (aI rfl aG) rfl)))))))))
noncomputable def wF (p0 : List UInt8) (p1 : Nat) (p2 : Nat) (p3 : Bool) : Option (UInt8 × Nat × Nat × Bool) :=
 Option.bind (dL (1 : Int) p0 p1 p2 p3) fun (r16, YX, Ta, Kn) =>
 some ((r16.toUInt8), YX, Ta, Kn)
theorem IU (p0 : List UInt8) (p1 : Nat) (p2 : Nat) (p3 : Bool) (r : UInt8 × Nat × Nat × Bool) (h0 : wF p0 p1 p2 p3 = some r) : aL Tryz.prog 92 [.ref 0 0 0] [.box (.agg [.slc 1 1 p1 p2 none, .d (eB p3)]), .row 1 (List.map bR p0) true] (.d (bR r.1)) [.box (.agg [.slc 1 1 r.2.1 r.2.2.1 none, .d (eB r.2.2.2)]), .row 1 (List.map bR p0) true] := by
 unfold wF at h0
 refine fn0 [0] Tryz.func92 rfl rfl rfl rfl rfl ?_
 obtain ⟨⟨r16, YX, Ta, Kn⟩, OZ, h0⟩ := ob h0; have q := si h0; subst q
 refine sr (s1 (ig (v := .d (bR (0 : UInt8))) rfl) (sn (sr (sm rfl (cq [0, 1] [] (lZ (1 : Int) p0 p1 p2 p3 _ OZ) wf rfl rfl rfl QB rfl rfl rfl rfl rfl rfl rfl rfl (s1 (tF rfl (o9 uD uX r16)) (sa rfl (sn (SC.ret ?_)))))))))
 exact aV (Wk.refl _) (aI rfl aG) rfl
noncomputable def lI (p0 : List UInt8) (p1 : Nat) (p2 : Nat) (p3 : Bool) : Option Int :=
 Option.bind (qY p0 p1 p2 (0 : Int)) fun v6 =>
 Option.bind (qY p0 p1 p2 (1 : Int)) fun v7 =>
 some (orI (bD ((v6.toNat : Int) * 2 ^ min ((8 : UInt64).toNat : Int).toNat 64)) (v7.toNat : Int))
theorem xD (p0 : List UInt8) (p1 : Nat) (p2 : Nat) (p3 : Bool) (r : Int) (h0 : lI p0 p1 p2 p3 = some r) : aL Tryz.prog 129 [.ref 0 0 0] [.box (.agg [.slc 1 1 p1 p2 none, .d (eB p3)]), .row 1 (List.map bR p0) true] (.d (eI r)) [.box (.agg [.slc 1 1 p1 p2 none, .d (eB p3)]), .row 1 (List.map bR p0) true] := by
 unfold lI at h0
 refine fn0 [0] Tryz.func129 rfl rfl rfl rfl rfl ?_
 obtain ⟨v6, hv6, h0⟩ := ob h0; obtain ⟨v7, hv7, h0⟩ := ob h0; have q := si h0; subst q
 refine sr (sa rfl (sn (sd (by kernel_rfl) (t1 ([], false) (mv rfl) rfl (t1 ([], false) (gJ rfl) rfl (t1 ([], false) (far (k := 0) rfl jO bS rfl) rfl (t1 ([0], false) (aS rfl (aj bS gL rfl rfl)) rfl (t1 ([], false) (ias rfl rfl bW qQ (gu hv6).1) rfl (t1 ([1], false) (aS rfl (gH qQ Ov rfl (aT (gu hv6).2) rfl)) rfl ?_)))))))))
 refine t1 ([], false) (tF rfl (jv uX Im v6)) rfl (t1 ([], false) (bi (v := .d (eI (bD ((v6.toNat : Int) * 2 ^ min ((8 : UInt64).toNat : Int).toNat 64)))) rfl rfl (fun X Y => Sb _ X Y (v6.toNat : Int) _ (by decide))) rfl (t1 ([], false) (mv rfl) rfl (t1 ([], false) (gJ rfl) rfl (t1 ([], false) (far (k := 0) rfl jO bS rfl) rfl (t1 ([0], false) (aS rfl (aj bS gL rfl rfl)) rfl (t1 ([], false) (ias rfl rfl bW qQ (gu hv7).1) rfl (t1 ([1], false) (aS rfl (gH qQ Ov rfl (aT (gu hv7).2) rfl)) rfl (t1 ([], false) (tF rfl (jv uX Im v7)) rfl (t1 ([], false) (bi rfl rfl UO) rfl ?_)))))))))
 exact t1 ([], false) (ig rfl) rfl (tn (by decide +kernel) (SC.ret (aV (Wk.refl _) (aI rfl aG) rfl)))
noncomputable def nY (p0 : List UInt8) (p1 : Nat) (p2 : Nat) (p3 : Bool) : Option ((List UInt8) × Nat × Nat × Bool) :=
 Option.bind (α := Bool)
 (bif p3 then
 some true
 else
 bif (decide ((p2 : Int) < (2 : Int))) then
 some true
 else
 Option.bind (lI p0 p1 p2 p3) fun r44 =>
 some (decide ((p2 : Int) < (bD ((2 : Int) + r44)))))
 fun y41 =>
 bif y41 then
 Option.bind (α := Unit)
 (some ())
 fun _ =>
 some (([] : List UInt8), p1, p2, true)
 else
 Option.bind (lI p0 p1 p2 p3) fun r47 =>
 Option.bind (fG (bD ((2 : Int) + r47)) p0 p1 p2 p3) fun (r49, r50, r51, r52, Fb) =>
 bif decide (0 ≤ (2 : Int) ∧ (2 : Int) ≤ (r50 : Int)) then
 bif decide ((r49 + (2 : Int).toNat) + (r50 - (2 : Int).toNat) ≤ p0.length) then
 some ((List.take (r50 - (2 : Int).toNat) (List.drop (r49 + (2 : Int).toNat) p0)), r51, r52, Fb)
 else none
 else none
theorem Fp (p0 : List UInt8) (p1 : Nat) (p2 : Nat) (p3 : Bool) (r : (List UInt8) × Nat × Nat × Bool) (h0 : nY p0 p1 p2 p3 = some r) : aL Tryz.prog 118 [.ref 0 0 0] [.box (.agg [.slc 1 1 p1 p2 none, .d (eB p3)]), .row 1 (List.map bR p0) true] (.d (eS r.1)) [.box (.agg [.slc 1 1 r.2.1 r.2.2.1 none, .d (eB r.2.2.2)]), .row 1 (List.map bR p0) true] := by
 unfold nY at h0
 refine fn0 [0] Tryz.func118 rfl rfl rfl rfl rfl ?_
 refine sr (s1 (ig (v := .d (eS ([] : List UInt8))) rfl) (sn (sq (SC.bJ h0 (fun y => ⟨mk 42 [(0, .ref 0 0 0), (29, .d (eB y))], [.box (.agg [.slc 1 1 p1 p2 none, .d (eB p3)]), .row 1 (List.map bR p0) true]⟩) ?_ ?_))))
 ·intro anZ h1
  refine SC.draws (by kernel_rfl) (t1 ([], false) (mv rfl) rfl (t1 ([], false) (bi (v := .d (eB false)) rfl rfl (fun _ _ => uf zN)) rfl (t1 ([], false) (mv rfl) rfl (u1 ([], false) (ww rfl) (mv rfl) rfl (u1 ([], false) (ww rfl) (gJ rfl) rfl (u1 ([], false) (ww rfl) (far (k := 1) rfl uj jV rfl) rfl (u1 ([0], false) (ww rfl) (aS rfl (aj jV zD rfl rfl)) rfl (t1 ([], false) (dB rfl rfl) rfl (t1 ([], false) (mv rfl) rfl ?_)))))))))
  refine tp h1 (fun h1 => ?_) (fun h1 => ?_)
  ·have q := si h1; subst q
   refine jw rfl (jw rfl (jw rfl (jw rfl (jw rfl (jw rfl (t1 ([], false) (pkt rfl rfl) rfl (t1 ([], false) (mv rfl) rfl (jw rfl (jw rfl ?_)))))))))
   refine jw rfl (jw rfl (jw rfl (jw rfl (jw rfl (jw rfl (jw rfl (t1 ([], false) (pkt rfl rfl) rfl (ST.nil (And.intro (by decide +kernel) ?_)))))))))
   exact (wq rfl)
  ·refine u1 ([], false) (ww rfl) (mv rfl) rfl (u1 ([], false) (ww rfl) (gJ rfl) rfl (u1 ([], false) (ww rfl) (far (k := 0) rfl jO bS rfl) rfl (u1 ([0], false) (ww rfl) (aS rfl (aj bS gL rfl rfl)) rfl (u1 ([], false) (ww rfl) (len rfl rfl rfl (dS bW)) rfl (u1 ([], false) (ww rfl) (bi rfl rfl aQ) rfl (t1 ([], false) (dB rfl rfl) rfl (t1 ([], false) (mv rfl) rfl (tp h1 (fun h1 => ?_) (fun h1 => ?_)))))))))
   ·have q := si h1; subst q
    refine jw rfl (jw rfl (jw rfl (jw rfl (jw rfl (jw rfl (jw rfl (jw rfl (jw rfl (t1 ([], false) (pkt rfl rfl) rfl ?_)))))))))
    refine ST.nil (And.intro (by decide +kernel) ?_)
    exact (wq rfl)
   ·obtain ⟨r44, amk, h1⟩ := ob h1; have q := si h1; subst q
    refine u1 ([], false) (ww rfl) (mv rfl) rfl (u1 ([], false) (ww rfl) (gJ rfl) rfl (u1 ([], false) (ww rfl) (far (k := 0) rfl jO bS rfl) rfl (u1 ([0], false) (ww rfl) (aS rfl (aj bS gL rfl rfl)) rfl (u1 ([], false) (ww rfl) (len rfl rfl rfl (dS bW)) rfl (u1 ([], false) (ww rfl) (mv rfl) rfl (tqr [0, 1] [0, 1] (xD p0 p1 p2 p3 _ amk) (ww rfl) rfl rfl rfl aaf rfl rfl rfl rfl rfl rfl rfl rfl (u1 ([], false) (ww rfl) (bi rfl rfl aR) rfl (u1 ([], false) (ww rfl) (bi rfl rfl aQ) rfl (t1 ([], false) (dB rfl rfl) rfl ?_)))))))))
    refine ST.nil (And.intro (by decide +kernel) ?_)
    exact (wq rfl)
 ·rintro y41 h0
  refine cB h0 rfl (fun h0 => ?_) (fun h0 => ?_)
  ·refine SC.bJ h0 (fun y => ⟨mk 42 [], [.box (.agg [.slc 1 1 p1 p2 none, .d (eB true)]), .row 1 (List.map bR p0) true]⟩) ?_ ?_
   ·intro aey h1
    have q := si h1; subst q
    refine sr (sm rfl (s1 (bi (v := .d (eB true)) rfl rfl (fun _ _ => zi zN)) (sn (cT rfl (SC.region (sm rfl (s1 (gJ rfl) (s1 (far (k := 1) rfl uj jV rfl) (s0 (fJ (b := .d (eB true)) rfl rfl (sB (d' := .agg [.slc 1 1 p1 p2 none, .d (eB true)]) jV rfl rfl rfl rfl rfl rfl rfl)) ?_)))))))))
    exact SO.nil ((wq rfl))
   ·intro _ h0
    have q := si h0; subst q
    exact sr (s1 (ig (v := .d (eS ([] : List UInt8))) rfl) (sn (SC.ret (aV (Wk.refl _) (aI rfl aG) rfl))))
  ·obtain ⟨r47, amj, h0⟩ := ob h0; obtain ⟨⟨r49, r50, r51, r52, Fb⟩, ami, h0⟩ := ob h0; obtain ⟨amJ, h0⟩ := gd h0; obtain ⟨amI, h0⟩ := gd h0; have q := si h0; subst q
   refine sk (sr (sm rfl (sm rfl (cq [0, 1] [] (xD p0 p1 p2 p3 _ amj) wf rfl rfl rfl aaf rfl rfl rfl rfl rfl rfl rfl rfl (s1 (bi rfl rfl aR) (cq [0, 1] [] (tX (bD ((2 : Int) + r47)) p0 p1 p2 p3 _ ami) wf rfl rfl rfl VJ rfl rfl rfl rfl rfl rfl rfl rfl (s1 (SV rfl rfl rfl rfl (CV bW qQ amJ)) (s1 (tF (v := .d (eS (List.take (r50 - (2 : Int).toNat) (List.drop (r49 + (2 : Int).toNat) p0)))) rfl (iy bW l9 uX (Po (xs := p0) rfl amI) (fun _ hh => by cases hh))) (sa rfl ?_)))))))))
   exact sn (SC.ret (aV (Wk.refl _) (aI rfl aG) rfl))
noncomputable def vE (p0 : Int) (p1 : List UInt8) (p2 : Nat) (p3 : Nat) (p4 : Bool) : Option (Nat × Nat × Bool × ApiValue) :=
 Option.bind (kR p1 p2 p3 p4) fun (NW, SY, Ll, Io) =>
 bif NW then
 some (SY, Ll, Io, (ApiValue.mk (0 : Int) (0 : UInt64) ([] : List UInt8)))
 else
 Option.bind (α := Nat × Nat × Bool × ApiValue)
 (Option.bind (α := Bool)
 (bif (p0 == (1 : Int)) then
 some (p0 == (1 : Int))
 else
 some (p0 == (2 : Int)))
 fun Ae =>
 bif Ae then
 Option.bind (tY p1 SY Ll Io) fun (Fh, afg, aff, afe) =>
 some (afg, aff, afe, (ApiValue.mk p0 Fh ([] : List UInt8)))
 else
 bif (p0 == (3 : Int)) then
 Option.bind (wF p1 SY Ll Io) fun (XA, afd, afc, afb) =>
 some (afd, afc, afb, (ApiValue.mk p0 (XA.toUInt64) ([] : List UInt8)))
 else
 Option.bind (nY p1 SY Ll Io) fun (abp, afa, ae9, ae8) =>
 some (afa, ae9, ae8, (ApiValue.mk p0 (0 : UInt64) abp)))
 fun (y115, rJ, ad4, WU) =>
 some (y115, rJ, ad4, WU)
theorem Eo (p0 : Int) (p1 : List UInt8) (p2 : Nat) (p3 : Nat) (p4 : Bool) (r : Nat × Nat × Bool × ApiValue) (h0 : vE p0 p1 p2 p3 p4 = some r) : aL Tryz.prog 94 [.ref 0 0 0, .d (eI p0)] [.box (.agg [.slc 1 1 p2 p3 none, .d (eB p4)]), .row 1 (List.map bR p1) true] (.d (eApiValue r.2.2.2)) [.box (.agg [.slc 1 1 r.1 r.2.1 none, .d (eB r.2.2.1)]), .row 1 (List.map bR p1) true, .box (.d (eApiValue r.2.2.2))] := by
 unfold vE at h0
 refine fn0 [0, 1] Tryz.func94 rfl rfl rfl rfl rfl ?_
 obtain ⟨⟨NW, SY, Ll, Io⟩, abI, h0⟩ := ob h0
 refine sr (s1 (qV (k := 2) JH rfl) (sn (sq (sr (sm rfl (cq [0, 1] [] (BN p1 p2 p3 p4 _ abI) wf rfl rfl rfl aib rfl rfl rfl rfl rfl rfl rfl rfl (sn (cB h0 rfl (fun h0 => ?_) (fun h0 => ?_)))))))))
 ·have q := si h0; subst q
  exact sr (s1 (l8 rfl (VU )) (s0 (fJ rfl rfl (sB (d' := .d (eApiValue (ApiValue.mk (0 : Int) (0 : UInt64) ([] : List UInt8)))) d9 rfl rfl rfl rfl rfl rfl rfl)) (sn (SC.ret (aV (Wk.refl _) (gD rfl (aj d9 kD rfl rfl) aG) rfl)))))
 ·refine sk (sr (sm rfl (s1 (l8 rfl (PI p0)) (s1 (qV (k := 3) JH rfl) (s0 (fJ rfl rfl (sB (d' := .d (eApiValue (ApiValue.mk p0 (0 : UInt64) ([] : List UInt8)))) d9 rfl rfl rfl rfl rfl rfl rfl)) (sn (SC.bJ h0 (fun y => ⟨mk 28 [(4, .ref 2 0 0), (5, .ref 3 0 0)], [.box (.agg [.slc 1 1 y.1 y.2.1 none, .d (eB y.2.2.1)]), .row 1 (List.map bR p1) true, .box (.d (eApiValue (ApiValue.mk (0 : Int) (0 : UInt64) ([] : List UInt8)))), .box (.d (eApiValue y.2.2.2))]⟩) ?_ ?_)))))))
  ·intro aly h1
   refine sr (sm rfl (sn (SC.blk (SC.bJ h1 (fun y => ⟨mk 28 [(0, .ref 0 0 0), (4, .ref 2 0 0), (5, .ref 3 0 0), (11, .d (eI p0)), (15, .d (eB y))], [.box (.agg [.slc 1 1 SY Ll none, .d (eB Io)]), .row 1 (List.map bR p1) true, .box (.d (eApiValue (ApiValue.mk (0 : Int) (0 : UInt64) ([] : List UInt8)))), .box (.d (eApiValue (ApiValue.mk p0 (0 : UInt64) ([] : List UInt8))))]⟩) ?_ ?_))))
   ·intro akQ h2
    refine sr (s1 (bi rfl rfl aP) (sa rfl (sn (cB h2 rfl (fun h2 => ?_) (fun h2 => ?_)))))
    ·have q := si h2; subst q
     exact SC.skip ((wq rfl))
    ·have q := si h2; subst q
     exact SC.region (s1 (bi rfl rfl aP) (sa rfl (SO.nil ((wq rfl)))))
   ·rintro Ae h1
    refine cB h1 rfl (fun h1 => ?_) (fun h1 => ?_)
    ·obtain ⟨⟨Fh, afg, aff, afe⟩, M8, h1⟩ := ob h1; have q := si h1; subst q
     exact SC.region (sm rfl (cq [0, 1] [] (Gz p1 SY Ll Io _ M8) wf rfl rfl rfl aia rfl rfl rfl rfl rfl rfl rfl rfl (s1 (far (k := 1) rfl iK fU rfl) (s0 (fJ rfl rfl (sB (d' := .d (eApiValue (ApiValue.mk p0 Fh ([] : List UInt8)))) fU rfl rfl rfl rfl rfl rfl rfl)) (SO.nil ((wq rfl)))))))
    ·refine sr (s1 (bi rfl rfl aP) (sa rfl (sn (cB h1 rfl (fun h1 => ?_) (fun h1 => ?_)))))
     ·obtain ⟨⟨XA, afd, afc, afb⟩, agP, h1⟩ := ob h1; have q := si h1; subst q
      exact SC.region (sm rfl (cq [0, 1] [] (IU p1 SY Ll Io _ agP) wf rfl rfl rfl acM rfl rfl rfl rfl rfl rfl rfl rfl (s1 (tF rfl (vW uX uD XA)) (s1 (far (k := 1) rfl iK fU rfl) (s0 (fJ rfl rfl (sB (d' := .d (eApiValue (ApiValue.mk p0 (XA.toUInt64) ([] : List UInt8)))) fU rfl rfl rfl rfl rfl rfl rfl)) (SO.nil ((wq rfl))))))))
     ·obtain ⟨⟨abp, afa, ae9, ae8⟩, agO, h1⟩ := ob h1; have q := si h1; subst q
      exact SC.region (sm rfl (cq [0, 1] [] (Fp p1 SY Ll Io _ agO) wf rfl rfl rfl ah9 rfl rfl rfl rfl rfl rfl rfl rfl (s1 (far (k := 2) rfl iO eT rfl) (s0 (fJ rfl rfl (sB (d' := .d (eApiValue (ApiValue.mk p0 (0 : UInt64) abp))) eT rfl rfl rfl rfl rfl rfl rfl)) (SO.nil ((wq rfl)))))))
  ·rintro ⟨y115, rJ, ad4, WU⟩ h0
   have q := si h0; subst q
   exact sr (s1 (aS (v := .d (eApiValue WU)) rfl (aj d9 kD rfl rfl)) (s0 (fJ rfl rfl (sB (d' := .d (eApiValue WU)) d9 rfl rfl rfl rfl rfl rfl rfl)) (sn (SC.ret (aV (wc (e' := [(4, .ref 2 0 0)]) [0, 1, 2] [0, 1, 2] (by kernel_rfl) rfl (by kernel_rfl)) (gD rfl (aj d9 kD rfl rfl) aG) rfl)))))
noncomputable def ql (p0 : List UInt8) (p1 : Nat) (p2 : Nat) (p3 : Bool) : Option Unit :=
 Option.bind (α := Unit)
 (some ())
 fun _ =>
 some ()
theorem rY (p0 : List UInt8) (p1 : Nat) (p2 : Nat) (p3 : Bool) (r : Unit) (h0 : ql p0 p1 p2 p3 = some r) : aL Tryz.prog 95 [.ref 0 0 0] [.box (.agg [.slc 1 1 p1 p2 none, .d (eB p3)]), .row 1 (List.map bR p0) true] (.d (eB p3)) [.box (.agg [.slc 1 1 p1 p2 none, .d (eB p3)]), .row 1 (List.map bR p0) true] := by
 unfold ql at h0
 refine fn0 [0] Tryz.func95 rfl rfl rfl rfl rfl ?_
 refine sr (sa rfl (sn (SC.bJ h0 (fun y => ⟨mk 11 [(2, .d (eB p3))], [.box (.agg [.slc 1 1 p1 p2 none, .d (eB p3)]), .row 1 (List.map bR p0) true]⟩) ?_ ?_)))
 ·intro aof h1
  have q := si h1; subst q
  refine SC.region (sm rfl (s1 (bi (v := .d (eB false)) rfl rfl (fun _ _ => uf zN)) (sm rfl (gw rfl (mv rfl) (gw rfl (gJ rfl) (gw rfl (far (k := 1) rfl uj jV rfl) (gw rfl (aS rfl (aj jV zD rfl rfl)) (s1 (dB rfl rfl) (sa rfl ?_)))))))))
  exact SO.nil ((wq rfl))
 ·intro _ h0
  have q := si h0; subst q
  exact SC.ret (aV (Wk.refl _) (aI rfl aG) rfl)
noncomputable def nQ (p0 : ApiValue) (p1 : Int) (p2 : List ApiValue) : Option Unit :=
 bif decide ((p2.length + [p0].length) * 32 ≤ room) then
 some ()
 else none
theorem BA (p0 : ApiValue) (p1 : Int) (p2 : List ApiValue) (r : Unit) (h0 : nQ p0 p1 p2 = some r) : aL Tryz.prog 61 [.d (eApiValue p0), .d (eI p1), .ref 0 0 0] [.box (.slc 1 3 0 p2.length none), .row 3 (List.map eApiValue p2) true] (.tuple []) [.box (.slc 2 3 0 ((p2 ++ [p0]).length) none), .dead, .row 3 (List.map eApiValue (p2 ++ [p0])) true] := by
 unfold nQ at h0
 refine fn0 [0, 1, 2] Tryz.func61 rfl rfl rfl rfl rfl ?_
 obtain ⟨hg3, h0⟩ := gd h0; have q := si h0; subst q
 refine sr (s1 (nH (k := 2) rfl rfl rfl) (sn (SC.region (s1 (aS rfl (aj zC J3 rfl rfl)) (s1 (aS (v := .d (eApiValue p0)) rfl (aj d9 kD rfl rfl)) (s1 (tH (k := 3) (ds := List.map eApiValue [p0]) (off := 0) (l' := [p0].length) rfl fu wT rfl rfl (by rfl) rfl rfl rfl) (s1 (app rfl rfl rfl rfl bc28 (aF (f := eApiValue) (xs := p2) (k := 4) rfl fu wT rfl (dx (xs := [p0]) rfl) hg3 rfl)) (s0 (fJ rfl rfl (sC zC rfl rfl rfl rfl rfl rfl)) (SO.nil ?_)))))))))
 exact kG (wc (e' := []) [0, 1, 4] [0, 1] (by kernel_rfl) rfl (by kernel_rfl)) aG rfl
noncomputable def lK (p0 : List UInt8) (p1 : Nat) (p2 : Nat) (p3 : Bool) : Option Bool :=
 Option.bind (α := Bool)
 (Option.bind (ql p0 p1 p2 p3) fun _ =>
 bif (!p3) then
 Option.bind (jL p0 p1 p2 p3) fun _ =>
 some ((p2 : Int) == (0 : Int))
 else
 some false)
 fun Tz =>
 some Tz
theorem xG (p0 : List UInt8) (p1 : Nat) (p2 : Nat) (p3 : Bool) (r : Bool) (h0 : lK p0 p1 p2 p3 = some r) : aL Tryz.prog 97 [.ref 0 0 0] [.box (.agg [.slc 1 1 p1 p2 none, .d (eB p3)]), .row 1 (List.map bR p0) true] (.d (eB r)) [.box (.agg [.slc 1 1 p1 p2 none, .d (eB p3)]), .row 1 (List.map bR p0) true] := by
 unfold lK at h0
 refine fn0 [0] Tryz.func97 rfl rfl rfl rfl rfl ?_
 refine sr (sa rfl (sn (SC.bJ h0 (fun y => ⟨mk 11 [(2, .d (eB y))], [.box (.agg [.slc 1 1 p1 p2 none, .d (eB p3)]), .row 1 (List.map bR p0) true]⟩) ?_ ?_)))
 ·intro Qi h1
  obtain ⟨_, OY, h1⟩ := ob h1
  refine SC.region (sm rfl (cq [0, 1] [] (rY p0 p1 p2 p3 _ OY) wf rfl rfl rfl acK rfl rfl rfl rfl rfl rfl rfl rfl (s1 (nt rfl) (sm rfl (sp h1 (fun h1 => ?_) (fun h1 => ?_))))))
  ·obtain ⟨_, amx, h1⟩ := ob h1; have q := si h1; subst q
   exact gw rfl (mv rfl) (cq [0, 1] [] (qM p0 p1 p2 p3 _ amx) (ww rfl) rfl rfl rfl acL rfl rfl rfl rfl rfl rfl rfl rfl (gw rfl (bi rfl rfl aP) (s1 (pkt rfl rfl) (sa rfl (SO.nil ((wq rfl)))))))
  ·have q := si h1; subst q
   exact kw rfl (kw rfl (kw rfl (s1 (dB rfl rfl) (sa rfl (SO.nil ((wq rfl)))))))
 ·rintro Tz h0
  have q := si h0; subst q
  exact SC.ret (aV (Wk.refl _) (aI rfl aG) rfl)
noncomputable def yj (p0 : List ApiColumn) (p1 : List UInt8) : Option (Bool × (List ApiValue)) :=
 Option.bind (zf p1) fun _ =>
 Option.bind (lJ p1 false) fun (zF, OI, Dj, OH) =>
 Option.bind (α := Bool)
 (bif (decide ((zF.toNat : Int) < (1 : Int))) then
 some true
 else
 some (decide ((zF.toNat : Int) > (p0.length : Int))))
 fun adQ =>
 bif adQ then
 some (false, ([] : List ApiValue))
 else
 eH (Y := (List ApiValue) × Nat × Nat × Bool) (E := Bool × (List ApiValue))
 (bif decide (0 ≤ (zF.toNat : Int) ∧ (zF.toNat : Int) ≤ (p0.length : Int)) then
 Option.bind (α := ((List ApiValue) × Nat × Nat × Bool) ⊕ (Bool × (List ApiValue)))
 (loop (Y := Int × (List ApiValue) × Nat × Nat × Bool) (W := ((List ApiValue) × Nat × Nat × Bool) ⊕ (Bool × (List ApiValue))) (fun (Tn, LC, QU, JK, QT) =>
 bif (decide (Tn < ((List.take (zF.toNat : Int).toNat p0).length : Int))) then
 Option.bind (bF (List.take (zF.toNat : Int).toNat p0) Tn) fun ER =>
 Option.bind (jL p1 QU JK QT) fun _ =>
 Option.bind (vE ER.Kind p1 QU JK QT) fun (Uz, Uy, Km, IL) =>
 Option.bind (α := Bool)
 (Option.bind (ql p1 Uz Uy Km) fun _ =>
 bif Km then
 some true
 else
 Option.bind (kJ ER IL) fun ae0 =>
 some (ae0 != (0 : Int)))
 fun adI =>
 bif adI then
 some (Sum.inr (Sum.inr (false, LC)))
 else
 Option.bind (nQ IL (JK : Int) LC) fun _ =>
 some (Sum.inl ((bD (Tn + (1 : Int))), (LC ++ [IL]), Uz, Uy, Km))
 else
 some (Sum.inr (Sum.inl (LC, QU, JK, QT)))) ((0 : Int), ([] : List ApiValue), OI, Dj, OH))
 (Sum.elim (fun e => some (Sum.inl e)) (fun e => some (Sum.inr e)))
 else none)
 (fun (adM, aaC, aaB, aaA) =>
 Option.bind (lK p1 aaC aaB aaA) fun aa5 =>
 some (aa5, adM))
 (fun e => some e)
theorem Mg (p0 : List ApiColumn) (p1 : List UInt8) (r : Bool × (List ApiValue)) (h0 : yj p0 p1 = some r) : aL Tryz.prog 60 [.d ((eL 7 eApiColumn) p0), .d (eS p1), .fn (.func 61) [] [.ref 0 0 0]] [.box (.d .aA)] (.d (eB r.1)) [.box (.slc 1 3 0 r.2.length none), .row 3 (List.map eApiValue r.2) true] := by
 unfold yj at h0
 refine fn0 [0, 1, 2] Tryz.func60 rfl rfl rfl rfl rfl ?_
 obtain ⟨_, agk, h0⟩ := ob h0; obtain ⟨⟨zF, OI, Dj, OH⟩, Vm, h0⟩ := ob h0
 refine sr (sa rfl (sn (sr (sm rfl (s1 (cvs (s := p1) (k := 1) rfl l9 bW uX qQ rfl) (cq (args' := [.slc 0 1 0 p1.length none]) (lT := [.row 1 (List.map bR p1) true]) [1] [2, 3] (aL.lX (fM.lX (fF rfl rfl rfl) (fM.nil _)) (fq [] [1, 2] (Gy p1 _ agk) rfl rfl rfl rfl rfl rfl rfl rfl)) wf rfl rfl rfl ahH rfl rfl rfl rfl rfl rfl rfl rfl (sa rfl (sn (sr ?_)))))))))
 refine sm rfl (cq [2, 3] [] (xE p1 false _ Vm) wf rfl rfl rfl acM rfl rfl rfl rfl rfl rfl rfl rfl (s1 (tF rfl (jv uX Im zF)) (sa rfl (sn (sq (SC.bJ h0 (fun y => ⟨mk 56 [(0, .d ((eL 7 eApiColumn) p0)), (2, .fn (.func 61) [] [.ref 0 0 0]), (7, .ref 1 0 0), (8, .d (eI (zF.toNat : Int))), (26, .d (eB y))], [.box (.d .aA), .box (.agg [.slc 2 1 OI Dj none, .d (eB OH)]), .row 1 (List.map bR p1) true]⟩) ?_ ?_))))))
 ·intro alh h1
  refine SC.region (sm rfl (s1 (bi rfl rfl aQ) (sm rfl (sp h1 (fun h1 => ?_) (fun h1 => ?_)))))
  ·have q := si h1; subst q
   exact kw rfl (kw rfl (kw rfl (kw rfl (s1 (pkt rfl rfl) (SO.nil ((wc [0, 2, 3] [0, 0, 2] (by kernel_rfl) rfl (by kernel_rfl))))))))
  ·have q := si h1; subst q
   exact gw rfl (mv rfl) (gw rfl (mv rfl) (gw rfl (len rfl rfl rfl (aZ iF)) (gw rfl (bi rfl rfl bP) (s1 (dB rfl rfl) (SO.nil ((wc [0, 2, 3] [0, 0, 2] (by kernel_rfl) rfl (by kernel_rfl))))))))
 ·rintro adQ h0
  refine cB h0 rfl (fun h0 => ?_) (fun h0 => ?_)
  ·have q := si h0; subst q
   exact sr (sa rfl (sn (SC.ret (aV (Wk.trans (Wk.dD (σ' := [.box (.d .aA), .box (.agg [.slc 2 1 OI Dj none, .d (eB OH)]), .row 1 (List.map bR p1) true, .row 3 (List.map eApiValue ([] : List ApiValue)) true]) (.row 3 [] true) (fun _ hh => by cases hh) rfl) (Wk.trans (Wk.jh (id := 0) (y := .slc 3 3 0 (([] : List ApiValue).length) none) (σ' := [.box (.slc 3 3 0 (([] : List ApiValue).length) none), .box (.agg [.slc 2 1 OI Dj none, .d (eB OH)]), .row 1 (List.map bR p1) true, .row 3 (List.map eApiValue ([] : List ApiValue)) true]) rfl (dh.cons (AW.dX _ _ _) dh.nil) rfl) (wc (e' := [(6, .d (eB false))]) [0, 3] [0] (by kernel_rfl) rfl (by kernel_rfl)))) (aI rfl aG) rfl))))
  ·refine sk (SC.seqB h0 (fun y => ⟨mk 56 [(7, .ref 1 0 0)], [.box (.slc 2 3 0 y.1.length none), .box (.agg [.slc 3 1 y.2.1 y.2.2.1 none, .d (eB y.2.2.2)]), .row 3 (List.map eApiValue y.1) true, .row 1 (List.map bR p1) true]⟩) ?_ ?_)
   ·intro alc h1 h0
    obtain ⟨ag6, h1⟩ := gd h1; obtain ⟨akv, h2, h1⟩ := ob h1
    refine sr (sm rfl (sm rfl (s1 (SV rfl rfl rfl rfl (CX iF jl ag6)) (s1 (len rfl rfl rfl (aZ iF)) (sm rfl (sn (SC.blk (SC.dH h2 (fun y => ⟨mk 56 [(2, .fn (.func 61) [] [.ref 0 0 0]), (7, .ref 1 0 0), (29, .d ((eL 7 eApiColumn) (List.take (zF.toNat : Int).toNat p0))), (30, .d (eI ((List.take (zF.toNat : Int).toNat p0).length : Int))), (31, .d (eI y.1))], [.box (.slc 2 3 0 y.2.1.length none), .box (.agg [.slc 3 1 y.2.2.1 y.2.2.2.1 none, .d (eB y.2.2.2.2)]), .row 3 (List.map eApiValue y.2.1) true, .row 1 (List.map bR p1) true]⟩) (Wk.trans (Wk.dD (σ' := [.box (.d .aA), .box (.agg [.slc 2 1 OI Dj none, .d (eB OH)]), .row 1 (List.map bR p1) true, .row 3 (List.map eApiValue ([] : List ApiValue)) true]) (.row 3 [] true) (fun _ hh => by cases hh) rfl) (Wk.trans (Wk.jh (id := 0) (y := .slc 3 3 0 (([] : List ApiValue).length) none) (σ' := [.box (.slc 3 3 0 (([] : List ApiValue).length) none), .box (.agg [.slc 2 1 OI Dj none, .d (eB OH)]), .row 1 (List.map bR p1) true, .row 3 (List.map eApiValue ([] : List ApiValue)) true]) rfl (dh.cons (AW.dX _ _ _) dh.nil) rfl) (wc [0, 1, 3, 2] [0, 0, 1] (by kernel_rfl) rfl (by kernel_rfl)))) ?_))))))))
    intro aor
    rintro ⟨Tn, LC, QU, JK, QT⟩ ajq h3 hv3
    refine sr (s1 (bi rfl rfl aQ) (sn (sq (cB h3 rfl (fun h3 => ?_) (fun h3 => ?_)))))
    ·obtain ⟨ER, MV, h3⟩ := ob h3; obtain ⟨_, Vk, h3⟩ := ob h3; obtain ⟨⟨Uz, Uy, Km, IL⟩, agc, h3⟩ := ob h3
     refine sk (sq (SC.blk (sr (s1 (j4 rfl rfl iF jl (ak MV).1 (aT (ak MV).2) rfl) (s1 (aS (v := .d (eApiColumn ER)) rfl (bK jl yg rfl)) (s1 (qV (k := 4) aam rfl) (s0 (fJ rfl rfl (sB (d' := .d (eApiColumn ER)) jl rfl rfl rfl rfl rfl rfl rfl)) (sn (sr ?_)))))))))
     refine sm rfl (cq [1, 3] [] (qM p1 QU JK QT _ Vk) wf rfl rfl rfl acL rfl rfl rfl rfl rfl rfl rfl rfl (sa rfl (sn (sr (sm rfl (s1 (far (k := 1) rfl ko bO rfl) (s1 (aS rfl (aj bO dW rfl rfl)) (cq [1, 3] [5] (Eo ER.Kind p1 QU JK QT _ agc) wf rfl rfl rfl ahG rfl rfl rfl rfl rfl rfl rfl rfl (s1 (qV (k := 6) JH rfl) ?_)))))))))
     refine s0 (fJ rfl rfl (sB (d' := .d (eApiValue IL)) d9 rfl rfl rfl rfl rfl rfl rfl)) (sn (sq (SC.bJ h3 (fun y => ⟨mk 56 [(2, .fn (.func 61) [] [.ref 0 0 0]), (7, .ref 1 0 0), (11, .d (eI (JK : Int))), (12, .ref 2 0 0), (29, .d ((eL 7 eApiColumn) (List.take (zF.toNat : Int).toNat p0))), (30, .d (eI ((List.take (zF.toNat : Int).toNat p0).length : Int))), (31, .d (eI Tn)), (48, .d (eB y))], [.box (.slc 3 3 0 LC.length none), .box (.agg [.slc 4 1 Uz Uy none, .d (eB Km)]), .box (.d (eApiValue IL)), .row 3 (List.map eApiValue LC) true, .row 1 (List.map bR p1) true]⟩) ?_ ?_)))
     ·intro akb h4
      obtain ⟨_, aga, h4⟩ := ob h4
      refine SC.region (sm rfl (cq [1, 3] [] (rY p1 Uz Uy Km _ aga) wf rfl rfl rfl acK rfl rfl rfl rfl rfl rfl rfl rfl (sm rfl (sp h4 (fun h4 => ?_) (fun h4 => ?_)))))
      ·have q := si h4; subst q
       exact kw rfl (kw rfl (kw rfl (kw rfl (s1 (pkt rfl rfl) (SO.nil ((wc [0, 1, 6, 2, 3] [0, 0, 1, 6] (by kernel_rfl) rfl (by kernel_rfl))))))))
      ·obtain ⟨ae0, af9, h4⟩ := ob h4; have q := si h4; subst q
       exact gw rfl (aS (v := .d (eApiColumn ER)) rfl (aj jl yg rfl rfl)) (gw rfl (aS (v := .d (eApiValue IL)) rfl (aj d9 kD rfl rfl)) (c0 (pG ER IL _ af9) (ww rfl) rfl rfl rfl Ya rfl (fun _ => rfl) (fun _ => rfl) (gw rfl (bi rfl rfl bA) (s1 (dB rfl rfl) (SO.nil ((wc [0, 1, 6, 2, 3] [0, 0, 1, 6] (by kernel_rfl) rfl (by kernel_rfl))))))))
     ·rintro adI h3
      refine cB h3 rfl (fun h3 => ?_) (fun h3 => ?_)
      ·have q := si h3; subst q; have q : _ = _ := hv3; subst q; have q := si h1; subst q; have q := si h0; subst q
       exact sr (sa rfl (sn (SC.ret (aV (wc (e' := [(6, .d (eB false))]) [0, 3] [0] (by kernel_rfl) rfl (by kernel_rfl)) (aI rfl aG) rfl))))
      ·obtain ⟨_, af8, h3⟩ := ob h3
       refine sk (SC.region (sm rfl (s1 (aS (v := .d (eApiValue IL)) rfl (aj d9 kD rfl rfl)) (sm rfl (cq [0, 3] [5] (BA IL (JK : Int) LC _ af8) wf rfl rfl rfl anf rfl rfl rfl rfl rfl rfl rfl rfl (SO.nil ?_))))))
       change SC _ _ _ _ _
       have q := si h3; subst q
       exact SC.region (s1 (bi rfl rfl aR) (sm rfl (SO.nil (lf (wc [0, 1, 5, 4] [0, 0, 1] (by kernel_rfl) rfl (by kernel_rfl))))))
    ·have q := si h3; subst q; have q : _ = _ := hv3; subst q; have q := si h1; subst q
     exact SC.exit (lf (wq rfl))
   ·rintro ⟨adM, aaC, aaB, aaA⟩ h0
    obtain ⟨aa5, af7, h0⟩ := ob h0; have q := si h0; subst q
    exact sr (sm rfl (cq [1, 3] [] (xG p1 aaC aaB aaA _ af7) wf rfl rfl rfl ahF rfl rfl rfl rfl rfl rfl rfl rfl (sa rfl (sn (SC.ret (aV (wc (e' := [(6, .d (eB aa5))]) [0, 2] [0] (by kernel_rfl) rfl (by kernel_rfl)) (aI rfl aG) rfl))))))
noncomputable def mQ (p0 : List ApiColumn) (p1 : List UInt8) : Option ((List ApiValue) × Int) :=
 Option.bind (nA p0) fun r86 =>
 bif (!r86) then
 some (([] : List ApiValue), (1 : Int))
 else
 Option.bind (α := Bool × (List ApiValue))
 (bif (decide ((p1.length : Int) > (512 : Int))) then
 some (true, ([] : List ApiValue))
 else
 Option.bind (yj p0 p1) fun (NW, SY) =>
 some ((!NW), SY))
 fun (y90, y91) =>
 bif y90 then
 some (([] : List ApiValue), (2 : Int))
 else
 Option.bind (α := (List ApiValue))
 (bif decide (0 ≤ (y91.length : Int) ∧ (y91.length : Int) ≤ (p0.length : Int)) then
 Option.bind (α := (List ApiValue))
 (loop (Y := Int × (List ApiValue)) (W := (List ApiValue)) (fun (y115, rJ) =>
 bif (decide (y115 < ((List.drop (y91.length : Int).toNat p0).length : Int))) then
 Option.bind (bF (List.drop (y91.length : Int).toNat p0) y115) fun FW =>
 bif decide ((rJ.length + [FW.Default].length) * 32 ≤ room) then
 some (Sum.inl ((bD (y115 + (1 : Int))), (rJ ++ [FW.Default])))
 else none
 else
 some (Sum.inr rJ)) ((0 : Int), y91))
 (fun e => some e)
 else none)
 fun WV =>
 some (WV, (0 : Int))
theorem zR (p0 : List ApiColumn) (p1 : List UInt8) (r : (List ApiValue) × Int) (h0 : mQ p0 p1 = some r) : aL Tryz.prog 19 [.d ((eL 7 eApiColumn) p0), .d (eS p1)] [] (.tuple [.d ((eL 3 eApiValue) r.1), .d (eI r.2)]) [] := by
 unfold mQ at h0
 refine fn0 [0, 1] Tryz.func19 rfl rfl rfl rfl rfl ?_
 obtain ⟨r86, al6, h0⟩ := ob h0
 refine sr (s1 (ig (v := .d .aA) rfl) (sa rfl (sn (sq (sr (sm rfl (c0 (yu p0 _ al6) wf rfl rfl rfl ahR rfl (fun _ => rfl) (fun _ => rfl) (s1 (nt rfl) (sn ?_)))))))))
 refine cB h0 rfl (fun h0 => ?_) (fun h0 => ?_)
 ·have q := si h0; subst q
  exact sr (s1 (ig (v := .d .aA) rfl) (sa rfl (sn (SC.ret (aV (Wk.env (e' := [(4, .d ((eL 3 eApiValue) ([] : List ApiValue))), (5, .d (eI (1 : Int)))]) (EW.cons (AW.nl _) (EW.cons (AW.refl _) EW.nil))) (aI rfl (aI rfl aG)) rfl)))))
 ·refine sk (sr (s1 (qV (k := 0) ai8 rfl) (sn (sq (SC.bJ h0 (fun y => ⟨mk 38 [(0, .d ((eL 7 eApiColumn) p0)), (6, .ref 0 0 0), (21, .d (eB y.1))], [.box (.slc 1 3 0 y.2.length none), .row 3 (List.map eApiValue y.2) true]⟩) ?_ ?_)))))
  ·intro anP h1
   refine SC.region (sm rfl (s1 (len rfl rfl rfl (fK l9)) (s1 (bi rfl rfl bP) (sm rfl (sp h1 (fun h1 => ?_) (fun h1 => ?_))))))
   ·have q := si h1; subst q
    exact kw rfl (kw rfl (kw rfl (kw rfl (kw rfl (s1 (pkt rfl rfl) (SO.nil ((Wk.trans (Wk.dD (σ' := [.box (.d .aA), .row 3 (List.map eApiValue ([] : List ApiValue)) true]) (.row 3 [] true) (fun _ hh => by cases hh) rfl) (Wk.trans (Wk.jh (id := 0) (y := .slc 1 3 0 (([] : List ApiValue).length) none) (σ' := [.box (.slc 1 3 0 (([] : List ApiValue).length) none), .row 3 (List.map eApiValue ([] : List ApiValue)) true]) rfl (dh.cons (AW.dX _ _ _) dh.nil) rfl) (wq rfl))))))))))
   ·obtain ⟨⟨NW, SY⟩, abI, h1⟩ := ob h1; have q := si h1; subst q
    exact gw rfl (mv rfl) (gw rfl (mv rfl) (gw rfl (mkf rfl rfl) (cq [0] [1] (Mg p0 p1 _ abI) (ww rfl) rfl rfl rfl ahQ rfl rfl rfl rfl rfl rfl rfl rfl (gw rfl (nt rfl) (s1 (dB rfl rfl) (SO.nil ((wq rfl))))))))
  ·rintro ⟨y90, y91⟩ h0
   refine cB h0 rfl (fun h0 => ?_) (fun h0 => ?_)
   ·have q := si h0; subst q
    exact sr (s1 (ig (v := .d .aA) rfl) (sa rfl (sn (SC.ret (aV (Wk.trans (Wk.env (e' := [(4, .d ((eL 3 eApiValue) ([] : List ApiValue))), (5, .d (eI (2 : Int)))]) (EW.cons (AW.nl _) (EW.cons (AW.refl _) EW.nil))) (wc (e' := [(4, .d ((eL 3 eApiValue) ([] : List ApiValue))), (5, .d (eI (2 : Int)))]) [] [] (by kernel_rfl) rfl (by kernel_rfl))) (aI rfl (aI rfl aG)) rfl)))))
   ·refine sk (SC.bJ h0 (fun y => ⟨mk 38 [(6, .ref 0 0 0)], [.box (.slc 1 3 0 y.length none), .row 3 (List.map eApiValue y) true]⟩) ?_ ?_)
    ·intro alB h1
     obtain ⟨ahr, h1⟩ := gd h1; obtain ⟨akP, h2, h1⟩ := ob h1
     refine sr (sm rfl (s1 (aS rfl (aj zC J3 rfl rfl)) (s1 (len rfl rfl rfl (dS fu)) (s1 (SV rfl rfl rfl rfl (Rh iF jl ahr)) (s1 (len rfl rfl rfl (aZ iF)) (sm rfl (sn (SC.blk (SC.dH h2 (fun y => ⟨mk 38 [(6, .ref 0 0 0), (25, .d ((eL 7 eApiColumn) (List.drop (y91.length : Int).toNat p0))), (26, .d (eI ((List.drop (y91.length : Int).toNat p0).length : Int))), (27, .d (eI y.1))], [.box (.slc 1 3 0 y.2.length none), .row 3 (List.map eApiValue y.2) true]⟩) (wq rfl) ?_)))))))))
     intro n125
     rintro ⟨y115, rJ⟩ ajA h3 hv3
     refine sr (s1 (bi rfl rfl aQ) (sn (sq (cB h3 rfl (fun h3 => ?_) (fun h3 => ?_)))))
     ·obtain ⟨FW, ZY, h3⟩ := ob h3; obtain ⟨ahp, h3⟩ := gd h3
      refine sk (sq (SC.blk (sr (s1 (j4 rfl rfl iF jl (ak ZY).1 (aT (ak ZY).2) rfl) (s1 (aS (v := .d (eApiColumn FW)) rfl (bK jl yg rfl)) (s1 (qV (k := 2) aam rfl) (s0 (fJ rfl rfl (sB (d' := .d (eApiColumn FW)) jl rfl rfl rfl rfl rfl rfl rfl)) (sn (SC.region ?_)))))))))
      refine s1 (aS rfl (aj zC J3 rfl rfl)) (s1 (far (k := 4) rfl KO d9 rfl) (s1 (aS (v := .d (eApiValue FW.Default)) rfl (aj d9 kD rfl rfl)) (s1 (tH (k := 3) (ds := List.map eApiValue [FW.Default]) (off := 0) (l' := [FW.Default].length) rfl fu wT rfl rfl (by rfl) rfl rfl rfl) (s1 (app rfl rfl rfl rfl bc28 (aF (f := eApiValue) (xs := rJ) (k := 4) rfl fu wT rfl (dx (xs := [FW.Default]) rfl) ahp rfl)) (s0 (fJ rfl rfl (sC zC rfl rfl rfl rfl rfl rfl)) (SO.nil ?_))))))
      change SC _ _ _ _ _
      have q := si h3; subst q
      exact SC.region (s1 (bi rfl rfl aR) (sm rfl (SO.nil (lf (wc [0, 4] [0] (by kernel_rfl) rfl (by kernel_rfl))))))
     ·have q := si h3; subst q; have q : _ = _ := hv3; subst q; have q := si h1; subst q
      exact SC.exit ((wq rfl))
    ·rintro WV h0
     have q := si h0; subst q
     exact sr (s1 (aS rfl (aj zC J3 rfl rfl)) (sa rfl (sa rfl (sn (SC.ret (aV (Wk.trans (Wk.lX (i := 4) (x := .slc 1 3 0 WV.length none) rfl rfl (fF rfl rfl rfl)) (wc (e' := [(4, .d ((eL 3 eApiValue) WV)), (5, .d (eI (0 : Int)))]) [] [] (by kernel_rfl) rfl (by kernel_rfl))) (aI rfl (aI rfl aG)) rfl))))))
noncomputable def p9 (p0 : ApiValue) (p1 : Int) (p2 : Int) (p3 : Int) (p4 : List UInt8) (p5 : Int) : Option Int :=
 Option.bind (α := Int)
 (Option.bind (α := Bool)
 (bif (p2 == p3) then
 bif (p0.Kind == (1 : Int)) then
 some true
 else
 some (p0.Kind == (2 : Int))
 else
 some false)
 fun y18 =>
 bif y18 then
 some (bD ((bD ((p4.length : Int) - p1)) + (1 : Int)))
 else
 some p5)
 fun Tz =>
 some Tz
theorem Gc (p0 : ApiValue) (p1 : Int) (p2 : Int) (p3 : Int) (p4 : List UInt8) (p5 : Int) (r : Int) (h0 : p9 p0 p1 p2 p3 p4 p5 = some r) : aL Tryz.prog 82 [.d (eApiValue p0), .d (eI p1), .ref 0 0 0, .ref 1 0 0, .ref 2 0 0, .ref 3 0 0] [.box (.d (eI p2)), .box (.d (eI p3)), .box (.d (eS p4)), .box (.d (eI p5))] (.tuple []) [.box (.d (eI (bD (p2 + (1 : Int))))), .box (.d (eI p3)), .box (.d (eS p4)), .box (.d (eI r))] := by
 unfold p9 at h0
 refine fn0 [0, 1, 2, 3, 4, 5] Tryz.func82 rfl rfl rfl rfl rfl ?_
 refine sr (s1 (nH (k := 4) rfl rfl rfl) (sn (SC.bJ h0 (fun y => ⟨mk 28 [(2, .ref 0 0 0)], [.box (.d (eI p2)), .box (.d (eI p3)), .box (.d (eS p4)), .box (.d (eI y))]⟩) ?_ ?_)))
 ·intro Qi h1
  refine SC.bJ h1 (fun y => ⟨mk 28 [(1, .d (eI p1)), (2, .ref 0 0 0), (4, .ref 2 0 0), (5, .ref 3 0 0), (20, .d (eB y))], [.box (.d (eI p2)), .box (.d (eI p3)), .box (.d (eS p4)), .box (.d (eI p5))]⟩) ?_ ?_
  ·intro anL h2
   refine SC.region (s1 (aS rfl (aj bO dW rfl rfl)) (s1 (aS rfl (aj bO dW rfl rfl)) (s1 (bi rfl rfl aP) (sm rfl (sp h2 (fun h2 => ?_) (fun h2 => ?_))))))
   ·refine gw rfl (far (k := 0) rfl fH bO rfl) (gw rfl (aS rfl (aj bO dW rfl rfl)) (gw rfl (bi rfl rfl aP) (gw rfl (mv rfl) (sp h2 (fun h2 => ?_) (fun h2 => ?_)))))
    ·have q := si h2; subst q
     exact kw rfl (kw rfl (kw rfl (gw rfl (pkt rfl rfl) (s1 (pkt rfl rfl) (SO.nil ((wc [0, 1, 2, 3] [0, 1, 2, 3, 0, 2, 3] (by kernel_rfl) rfl (by kernel_rfl))))))))
    ·have q := si h2; subst q
     exact gw rfl (far (k := 0) rfl fH bO rfl) (gw rfl (aS rfl (aj bO dW rfl rfl)) (gw rfl (bi rfl rfl aP) (gw rfl (dB rfl rfl) (s1 (pkt rfl rfl) (SO.nil ((wc [0, 1, 2, 3] [0, 1, 2, 3, 0, 2, 3] (by kernel_rfl) rfl (by kernel_rfl))))))))
   ·have q := si h2; subst q
    refine kw rfl (kw rfl (kw rfl (kw rfl (kw rfl (kw rfl (kw rfl (kw rfl (s1 (dB rfl rfl) (SO.nil ?_)))))))))
    exact (wc [0, 1, 2, 3] [0, 1, 2, 3, 0, 2, 3] (by kernel_rfl) rfl (by kernel_rfl))
  ·rintro y18 h1
   refine cB h1 rfl (fun h1 => ?_) (fun h1 => ?_)
   ·have q := si h1; subst q
    exact SC.region (s1 (aS rfl (aj eT jy rfl rfl)) (s1 (len rfl rfl rfl (fK l9)) (sm rfl (s1 (bi rfl rfl fD) (s1 (bi rfl rfl aR) (s0 (fJ rfl rfl (sC bO rfl rfl rfl rfl rfl rfl)) (SO.nil ((wq rfl)))))))))
   ·have q := si h1; subst q
    exact SC.skip ((wq rfl))
 ·rintro Tz h0
  have q := si h0; subst q
  exact SC.region (s1 (aS rfl (aj bO dW rfl rfl)) (s1 (bi rfl rfl aR) (s0 (fJ rfl rfl (sC bO rfl rfl rfl rfl rfl rfl)) (SO.nil (kG (Wk.refl _) aG rfl)))))
noncomputable def rQ (p0 : List ApiColumn) (p1 : List UInt8) (p2 : Int) (p3 : Int) (p4 : List UInt8) (p5 : Int) : Option (Bool × Int × Int) :=
 Option.bind (zf p1) fun _ =>
 Option.bind (lJ p1 false) fun (Di, aa9, aa8, aa7) =>
 Option.bind (α := Bool)
 (bif (decide ((Di.toNat : Int) < (1 : Int))) then
 some true
 else
 some (decide ((Di.toNat : Int) > (p0.length : Int))))
 fun adO =>
 bif adO then
 some (false, p2, p5)
 else
 eH (Y := Int × Int × Nat × Nat × Bool) (E := Bool × Int × Int)
 (bif decide (0 ≤ (Di.toNat : Int) ∧ (Di.toNat : Int) ≤ (p0.length : Int)) then
 Option.bind (α := (Int × Int × Nat × Nat × Bool) ⊕ (Bool × Int × Int))
 (loop (Y := Int × Int × Int × Nat × Nat × Bool) (W := (Int × Int × Nat × Nat × Bool) ⊕ (Bool × Int × Int)) (fun (Tm, Oa, QS, QO, JJ, QN) =>
 bif (decide (Tm < ((List.take (Di.toNat : Int).toNat p0).length : Int))) then
 Option.bind (bF (List.take (Di.toNat : Int).toNat p0) Tm) fun LX =>
 Option.bind (jL p1 QO JJ QN) fun _ =>
 Option.bind (vE LX.Kind p1 QO JJ QN) fun (Ux, Uw, Rj, Kl) =>
 Option.bind (α := Bool)
 (Option.bind (ql p1 Ux Uw Rj) fun _ =>
 bif Rj then
 some true
 else
 Option.bind (kJ LX Kl) fun aeZ =>
 some (aeZ != (0 : Int)))
 fun adE =>
 bif adE then
 some (Sum.inr (Sum.inr (false, Oa, QS)))
 else
 Option.bind (p9 Kl (JJ : Int) Oa p3 p4 QS) fun gF =>
 some (Sum.inl ((bD (Tm + (1 : Int))), (bD (Oa + (1 : Int))), gF, Ux, Uw, Rj))
 else
 some (Sum.inr (Sum.inl (Oa, QS, QO, JJ, QN)))) ((0 : Int), p2, p5, aa9, aa8, aa7))
 (Sum.elim (fun e => some (Sum.inl e)) (fun e => some (Sum.inr e)))
 else none)
 (fun (adL, adK, aaz, aay, aax) =>
 Option.bind (lK p1 aaz aay aax) fun aa4 =>
 some (aa4, adL, adK))
 (fun e => some e)
theorem Iy (p0 : List ApiColumn) (p1 : List UInt8) (p2 : Int) (p3 : Int) (p4 : List UInt8) (p5 : Int) (r : Bool × Int × Int) (h0 : rQ p0 p1 p2 p3 p4 p5 = some r) : aL Tryz.prog 60 [.d ((eL 7 eApiColumn) p0), .d (eS p1), .fn (.func 82) [] [.ref 0 0 0, .ref 1 0 0, .ref 2 0 0, .ref 3 0 0]] [.box (.d (eI p2)), .box (.d (eI p3)), .box (.d (eS p4)), .box (.d (eI p5))] (.d (eB r.1)) [.box (.d (eI r.2.1)), .box (.d (eI p3)), .box (.d (eS p4)), .box (.d (eI r.2.2))] := by
 unfold rQ at h0
 refine fn0 [0, 1, 2] Tryz.func60 rfl rfl rfl rfl rfl ?_
 obtain ⟨_, agj, h0⟩ := ob h0; obtain ⟨⟨Di, aa9, aa8, aa7⟩, agi, h0⟩ := ob h0
 refine sr (sa rfl (sn (sr (sm rfl (s1 (cvs (s := p1) (k := 4) rfl l9 bW uX qQ rfl) (cq (args' := [.slc 0 1 0 p1.length none]) (lT := [.row 1 (List.map bR p1) true]) [4] [5, 6] (aL.lX (fM.lX (fF rfl rfl rfl) (fM.nil _)) (fq [] [1, 2] (Gy p1 _ agj) rfl rfl rfl rfl rfl rfl rfl rfl)) wf rfl rfl rfl ahH rfl rfl rfl rfl rfl rfl rfl rfl (sa rfl (sn (sr ?_)))))))))
 refine sm rfl (cq [5, 6] [] (xE p1 false _ agi) wf rfl rfl rfl acM rfl rfl rfl rfl rfl rfl rfl rfl (s1 (tF rfl (jv uX Im Di)) (sa rfl (sn (sq (SC.bJ h0 (fun y => ⟨mk 56 [(0, .d ((eL 7 eApiColumn) p0)), (2, .fn (.func 82) [] [.ref 0 0 0, .ref 1 0 0, .ref 2 0 0, .ref 3 0 0]), (7, .ref 4 0 0), (8, .d (eI (Di.toNat : Int))), (26, .d (eB y))], [.box (.d (eI p2)), .box (.d (eI p3)), .box (.d (eS p4)), .box (.d (eI p5)), .box (.agg [.slc 5 1 aa9 aa8 none, .d (eB aa7)]), .row 1 (List.map bR p1) true]⟩) ?_ ?_))))))
 ·intro alf h1
  refine SC.region (sm rfl (s1 (bi rfl rfl aQ) (sm rfl (sp h1 (fun h1 => ?_) (fun h1 => ?_)))))
  ·have q := si h1; subst q
   exact kw rfl (kw rfl (kw rfl (kw rfl (s1 (pkt rfl rfl) (SO.nil ((wc [0, 1, 2, 3, 5, 6] [0, 1, 2, 3, 0, 1, 2, 3, 5] (by kernel_rfl) rfl (by kernel_rfl))))))))
  ·have q := si h1; subst q
   exact gw rfl (mv rfl) (gw rfl (mv rfl) (gw rfl (len rfl rfl rfl (aZ iF)) (gw rfl (bi rfl rfl bP) (s1 (dB rfl rfl) (SO.nil ((wc [0, 1, 2, 3, 5, 6] [0, 1, 2, 3, 0, 1, 2, 3, 5] (by kernel_rfl) rfl (by kernel_rfl))))))))
 ·rintro adO h0
  refine cB h0 rfl (fun h0 => ?_) (fun h0 => ?_)
  ·have q := si h0; subst q
   exact sr (sa rfl (sn (SC.ret (aV (wc (e' := [(6, .d (eB false))]) [0, 1, 2, 3] [0, 1, 2, 3] (by kernel_rfl) rfl (by kernel_rfl)) (aI rfl aG) rfl))))
  ·refine sk (SC.seqB h0 (fun y => ⟨mk 56 [(7, .ref 4 0 0)], [.box (.d (eI y.1)), .box (.d (eI p3)), .box (.d (eS p4)), .box (.d (eI y.2.1)), .box (.agg [.slc 5 1 y.2.2.1 y.2.2.2.1 none, .d (eB y.2.2.2.2)]), .row 1 (List.map bR p1) true]⟩) ?_ ?_)
   ·intro ala h1 h0
    obtain ⟨ag5, h1⟩ := gd h1; obtain ⟨aks, h2, h1⟩ := ob h1
    refine sr (sm rfl (sm rfl (s1 (SV rfl rfl rfl rfl (CX iF jl ag5)) (s1 (len rfl rfl rfl (aZ iF)) (sm rfl (sn (SC.blk (SC.dH h2 (fun y => ⟨mk 56 [(2, .fn (.func 82) [] [.ref 0 0 0, .ref 1 0 0, .ref 2 0 0, .ref 3 0 0]), (7, .ref 4 0 0), (29, .d ((eL 7 eApiColumn) (List.take (Di.toNat : Int).toNat p0))), (30, .d (eI ((List.take (Di.toNat : Int).toNat p0).length : Int))), (31, .d (eI y.1))], [.box (.d (eI y.2.1)), .box (.d (eI p3)), .box (.d (eS p4)), .box (.d (eI y.2.2.1)), .box (.agg [.slc 5 1 y.2.2.2.1 y.2.2.2.2.1 none, .d (eB y.2.2.2.2.2)]), .row 1 (List.map bR p1) true]⟩) (wq rfl) ?_))))))))
    intro aon
    rintro ⟨Tm, Oa, QS, QO, JJ, QN⟩ ajn h3 hv3
    refine sr (s1 (bi rfl rfl aQ) (sn (sq (cB h3 rfl (fun h3 => ?_) (fun h3 => ?_)))))
    ·obtain ⟨LX, Zy, h3⟩ := ob h3; obtain ⟨_, af6, h3⟩ := ob h3; obtain ⟨⟨Ux, Uw, Rj, Kl⟩, af5, h3⟩ := ob h3
     refine sk (sq (SC.blk (sr (s1 (j4 rfl rfl iF jl (ak Zy).1 (aT (ak Zy).2) rfl) (s1 (aS (v := .d (eApiColumn LX)) rfl (bK jl yg rfl)) (s1 (qV (k := 6) aam rfl) (s0 (fJ rfl rfl (sB (d' := .d (eApiColumn LX)) jl rfl rfl rfl rfl rfl rfl rfl)) (sn (sr ?_)))))))))
     refine sm rfl (cq [4, 5] [] (qM p1 QO JJ QN _ af6) wf rfl rfl rfl acL rfl rfl rfl rfl rfl rfl rfl rfl (sa rfl (sn (sr (sm rfl (s1 (far (k := 1) rfl ko bO rfl) (s1 (aS rfl (aj bO dW rfl rfl)) (cq [4, 5] [7] (Eo LX.Kind p1 QO JJ QN _ af5) wf rfl rfl rfl ahG rfl rfl rfl rfl rfl rfl rfl rfl (s1 (qV (k := 8) JH rfl) ?_)))))))))
     refine s0 (fJ rfl rfl (sB (d' := .d (eApiValue Kl)) d9 rfl rfl rfl rfl rfl rfl rfl)) (sn (sq (SC.bJ h3 (fun y => ⟨mk 56 [(2, .fn (.func 82) [] [.ref 0 0 0, .ref 1 0 0, .ref 2 0 0, .ref 3 0 0]), (7, .ref 4 0 0), (11, .d (eI (JJ : Int))), (12, .ref 5 0 0), (29, .d ((eL 7 eApiColumn) (List.take (Di.toNat : Int).toNat p0))), (30, .d (eI ((List.take (Di.toNat : Int).toNat p0).length : Int))), (31, .d (eI Tm)), (48, .d (eB y))], [.box (.d (eI Oa)), .box (.d (eI p3)), .box (.d (eS p4)), .box (.d (eI QS)), .box (.agg [.slc 6 1 Ux Uw none, .d (eB Rj)]), .box (.d (eApiValue Kl)), .row 1 (List.map bR p1) true]⟩) ?_ ?_)))
     ·intro aj7 h4
      obtain ⟨_, af3, h4⟩ := ob h4
      refine SC.region (sm rfl (cq [4, 5] [] (rY p1 Ux Uw Rj _ af3) wf rfl rfl rfl acK rfl rfl rfl rfl rfl rfl rfl rfl (sm rfl (sp h4 (fun h4 => ?_) (fun h4 => ?_)))))
      ·have q := si h4; subst q
       exact kw rfl (kw rfl (kw rfl (kw rfl (s1 (pkt rfl rfl) (SO.nil ((wc [0, 1, 2, 3, 4, 8, 5] [0, 1, 2, 3, 0, 1, 2, 3, 4, 8] (by kernel_rfl) rfl (by kernel_rfl))))))))
      ·obtain ⟨aeZ, af2, h4⟩ := ob h4; have q := si h4; subst q
       exact gw rfl (aS (v := .d (eApiColumn LX)) rfl (aj jl yg rfl rfl)) (gw rfl (aS (v := .d (eApiValue Kl)) rfl (aj d9 kD rfl rfl)) (c0 (pG LX Kl _ af2) (ww rfl) rfl rfl rfl Ya rfl (fun _ => rfl) (fun _ => rfl) (gw rfl (bi rfl rfl bA) (s1 (dB rfl rfl) (SO.nil ((wc [0, 1, 2, 3, 4, 8, 5] [0, 1, 2, 3, 0, 1, 2, 3, 4, 8] (by kernel_rfl) rfl (by kernel_rfl))))))))
     ·rintro adE h3
      refine cB h3 rfl (fun h3 => ?_) (fun h3 => ?_)
      ·have q := si h3; subst q; have q : _ = _ := hv3; subst q; have q := si h1; subst q; have q := si h0; subst q
       exact sr (sa rfl (sn (SC.ret (aV (wc (e' := [(6, .d (eB false))]) [0, 1, 2, 3] [0, 1, 2, 3] (by kernel_rfl) rfl (by kernel_rfl)) (aI rfl aG) rfl))))
      ·obtain ⟨gF, afZ, h3⟩ := ob h3
       refine sk (SC.region (sm rfl (s1 (aS (v := .d (eApiValue Kl)) rfl (aj d9 kD rfl rfl)) (sm rfl (cq [0, 1, 2, 3] [] (Gc Kl (JJ : Int) Oa p3 p4 QS _ afZ) wf rfl rfl rfl am6 rfl rfl rfl rfl rfl rfl rfl rfl (SO.nil ?_))))))
       change SC _ _ _ _ _
       have q := si h3; subst q
       exact SC.region (s1 (bi rfl rfl aR) (sm rfl (SO.nil (lf (wc [0, 1, 2, 3, 4, 6] [0, 1, 2, 3, 0, 1, 2, 3, 4] (by kernel_rfl) rfl (by kernel_rfl))))))
    ·have q := si h3; subst q; have q : _ = _ := hv3; subst q; have q := si h1; subst q
     exact SC.exit (lf (wq rfl))
   ·rintro ⟨adL, adK, aaz, aay, aax⟩ h0
    obtain ⟨aa4, afY, h0⟩ := ob h0; have q := si h0; subst q
    exact sr (sm rfl (cq [4, 5] [] (xG p1 aaz aay aax _ afY) wf rfl rfl rfl ahF rfl rfl rfl rfl rfl rfl rfl rfl (sa rfl (sn (SC.ret (aV (wc (e' := [(6, .d (eB aa4))]) [0, 1, 2, 3] [0, 1, 2, 3] (by kernel_rfl) rfl (by kernel_rfl)) (aI rfl aG) rfl))))))
noncomputable def rz (p0 : List ApiColumn) (p1 : List UInt8) (p2 : Int) : Option (Int × Int) :=
 Option.bind (mQ p0 p1) fun (r22, r23) =>
 bif (r23 != (0 : Int)) then
 some ((0 : Int), r23)
 else
 Option.bind (α := Bool)
 (bif (decide (p2 < (0 : Int))) then
 some true
 else
 some (decide (p2 ≥ (p0.length : Int))))
 fun y24 =>
 bif y24 then
 some ((0 : Int), (1 : Int))
 else
 Option.bind (rQ p0 p1 (0 : Int) p2 p1 (0 : Int)) fun (r27, r28, Fe) =>
 bif (Fe == (0 : Int)) then
 some ((0 : Int), (8 : Int))
 else
 some (Fe, (0 : Int))
theorem Ka (p0 : List ApiColumn) (p1 : List UInt8) (p2 : Int) (r : Int × Int) (h0 : rz p0 p1 p2 = some r) : aL Tryz.prog 51 [.d ((eL 7 eApiColumn) p0), .d (eS p1), .d (eI p2)] [] (.tuple [.d (eI r.1), .d (eI r.2)]) [] := by
 unfold rz at h0
 refine fn0 [0, 1, 2] Tryz.func51 rfl rfl rfl rfl rfl ?_
 obtain ⟨⟨r22, r23⟩, amw, h0⟩ := ob h0
 refine sr (s1 (nH (k := 0) rfl rfl rfl) (s1 (nH (k := 1) rfl rfl rfl) (sa rfl (sa rfl (sn (sq (sr (sm rfl (s1 (aS rfl (aj eT jy rfl rfl)) ?_)))))))))
 refine c0 (zR p0 p1 _ amw) wf rfl rfl rfl ahX rfl (fun _ => rfl) (fun _ => rfl) (sm rfl (s1 (ext rfl rfl) (s1 (ext rfl rfl) (sa rfl (sa rfl (sn (sr (sm rfl (s1 (bi rfl rfl bA) ?_)))))))))
 refine sn (cB h0 rfl (fun h0 => ?_) (fun h0 => ?_))
 ·have q := si h0; subst q
  exact sr (sm rfl (sa rfl (sa rfl (sn (SC.ret (aV (wc (e' := [(6, .d (eI (0 : Int))), (7, .d (eI r23))]) [] [] (by kernel_rfl) rfl (by kernel_rfl)) (aI rfl (aI rfl aG)) rfl))))))
 ·refine sk (sq (SC.bJ h0 (fun y => ⟨mk 36 [(0, .d ((eL 7 eApiColumn) p0)), (4, .ref 0 0 0), (5, .ref 1 0 0), (28, .d (eB y))], [.box (.d (eS p1)), .box (.d (eI p2))]⟩) ?_ ?_))
  ·intro aeB h1
   refine SC.region (s1 (aS rfl (aj bO dW rfl rfl)) (s1 (bi rfl rfl aQ) (sm rfl (sp h1 (fun h1 => ?_) (fun h1 => ?_)))))
   ·have q := si h1; subst q
    exact kw rfl (kw rfl (kw rfl (kw rfl (s1 (pkt rfl rfl) (SO.nil ((wq rfl)))))))
   ·have q := si h1; subst q
    exact gw rfl (aS rfl (aj bO dW rfl rfl)) (gw rfl (mv rfl) (gw rfl (len rfl rfl rfl (aZ iF)) (gw rfl (bi rfl rfl dU) (s1 (dB rfl rfl) (SO.nil ((wq rfl)))))))
  ·rintro y24 h0
   refine cB h0 rfl (fun h0 => ?_) (fun h0 => ?_)
   ·have q := si h0; subst q
    exact sr (sa rfl (sa rfl (sn (SC.ret (aV (wc (e' := [(6, .d (eI (0 : Int))), (7, .d (eI (1 : Int)))]) [] [] (by kernel_rfl) rfl (by kernel_rfl)) (aI rfl (aI rfl aG)) rfl)))))
   ·obtain ⟨⟨r27, r28, Fe⟩, amu, h0⟩ := ob h0
    refine sk (sr (s1 (qV (k := 2) zo3 rfl) (s1 (qV (k := 3) zo3 rfl) (s0 (fJ (b := .d (eI (0 : Int))) rfl rfl (sC bO rfl rfl rfl rfl rfl rfl)) (s0 (fJ (b := .d (eI (0 : Int))) rfl rfl (sC bO rfl rfl rfl rfl rfl rfl)) (sn (sr (sm rfl (s1 (aS rfl (aj eT jy rfl rfl)) ?_)))))))))
    refine s1 (mkf rfl rfl) (cq [3, 1, 0, 2] [] (Iy p0 p1 (0 : Int) p2 p1 (0 : Int) _ amu) wf rfl rfl rfl ahQ rfl rfl rfl rfl rfl rfl rfl rfl (sn (sq (sr (s1 (aS rfl (aj bO dW rfl rfl)) (s1 (bi rfl rfl aP) (sn (cB h0 rfl (fun h0 => ?_) (fun h0 => ?_)))))))))
    ·have q := si h0; subst q
     exact sr (sa rfl (sa rfl (sn (SC.ret (aV (wc (e' := [(6, .d (eI (0 : Int))), (7, .d (eI (8 : Int)))]) [] [] (by kernel_rfl) rfl (by kernel_rfl)) (aI rfl (aI rfl aG)) rfl)))))
    ·have q := si h0; subst q
     exact sk (sr (s1 (aS rfl (aj bO dW rfl rfl)) (sa rfl (sa rfl (sn (SC.ret (aV (wc (e' := [(6, .d (eI Fe)), (7, .d (eI (0 : Int)))]) [] [] (by kernel_rfl) rfl (by kernel_rfl)) (aI rfl (aI rfl aG)) rfl)))))))
end Lv
