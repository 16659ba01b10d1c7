/- Part of the proof of a law: functions and their walks. -/
import Derived.Test.YtddopjhkmkoicaaGreatDoorXPrims
namespace Lv
open Go Go.Proofs
set_option linter.unusedVariables false
set_option linter.unusedSimpArgs false
set_option linter.unusedSectionVars false
set_option maxRecDepth 100000
variable [BaseTab] [TabOk]
noncomputable def vD (p0 : List Int) : Option ((List ApiPart)) :=
 Option.bind (α := (List ApiPart))
 (Option.bind (α := (List ApiPart))
 (loop (Y := (List ApiPart) × Int) (W := (List ApiPart)) (fun (Ee, Ip) =>
 bif (decide (Ip < (p0.length : Int))) then
 Option.bind (bF p0 Ip) fun v83 =>
 bif decide ((Ee.length + [(ApiPart.mk v83 false)].length) * 16 ≤ room) then
 some (Sum.inl ((Ee ++ [(ApiPart.mk v83 false)]), (bD (Ip + (1 : Int)))))
 else none
 else
 some (Sum.inr Ee)) (([] : List ApiPart), (0 : Int)))
 (fun e => some e))
 fun JI =>
 some JI
theorem J5 (p0 : List Int) (r : (List ApiPart)) (h0 : vD p0 = some r) : aL Tryz.prog 78 [.d ((eL 1 eI) p0)] [] (.d ((eL 2 eApiPart) r)) [] := by
 unfold vD at h0
 refine fn0 [0] Tryz.func78 rfl rfl rfl rfl rfl ?_
 refine sr (s1 (ig (v := .d .aA) rfl) (sn (sr (s1 (ig (v := .d .aA) rfl) (sn (SC.bJ h0 (fun y => ⟨mk 19 [(3, .slc 0 2 0 y.length none)], [.row 2 (List.map eApiPart y) true]⟩) ?_ ?_))))))
 ·intro Uc h1
  obtain ⟨T9, h2, h1⟩ := ob h1
  refine sr (sm rfl (s1 (len rfl rfl rfl (aZ mO)) (sm rfl (sn (SC.blk (SC.dH h2 (fun y => ⟨mk 19 [(3, .slc 0 2 0 y.1.length none), (6, .d ((eL 1 eI) p0)), (7, .d (eI (p0.length : Int))), (8, .d (eI y.2))], [.row 2 (List.map eApiPart y.1) true]⟩) (Wk.trans (Wk.dD (σ' := [.row 2 (List.map eApiPart ([] : List ApiPart)) true]) (.row 2 [] true) (fun _ hh => by cases hh) rfl) (Wk.trans (Wk.env (e' := [(3, .slc 0 2 0 (([] : List ApiPart).length) none), (6, .d ((eL 1 eI) p0)), (7, .d (eI (p0.length : Int))), (8, .d (eI (0 : Int)))]) (EW.cons (AW.dX _ _ _) (EW.cons (AW.refl _) (EW.cons (AW.refl _) (EW.cons (AW.refl _) EW.nil))))) (wq rfl))) ?_))))))
  intro n85
  rintro ⟨Ee, Ip⟩ TI h3 hv3
  refine sr (s1 (bi rfl rfl aQ) (sn (sq (cB h3 rfl (fun h3 => ?_) (fun h3 => ?_)))))
  ·obtain ⟨v83, G5, h3⟩ := ob h3; obtain ⟨Vv, h3⟩ := gd h3
   refine sk (sq (SC.blk (sr (s1 (j4 rfl rfl mO bO (ak G5).1 (aT (ak G5).2) rfl) (s1 (aS rfl (bK bO dW rfl)) (sa rfl (sn (SC.region (sm rfl ?_)))))))))
   refine sm rfl (s1 (l8 rfl (PD v83)) (s1 (tH (k := 1) (ds := List.map eApiPart [(ApiPart.mk v83 false)]) (off := 0) (l' := [(ApiPart.mk v83 false)].length) rfl xP VH rfl rfl (by rfl) rfl rfl rfl) (s1 (app rfl rfl rfl rfl aiu (aF (f := eApiPart) (xs := Ee) (k := 2) rfl xP VH rfl (dx (xs := [(ApiPart.mk v83 false)]) rfl) Vv rfl)) (sa rfl (SO.nil ?_)))))
   change SC _ _ _ _ _
   have q := si h3; subst q
   exact SC.region (s1 (bi rfl rfl aR) (sm rfl (SO.nil (lf (wc [2] [2] (by kernel_rfl) rfl (by kernel_rfl))))))
  ·have q := si h3; subst q; have q : _ = _ := hv3; subst q; have q := si h1; subst q
   exact SC.exit ((wq rfl))
 ·rintro JI h0
  have q := si h0; subst q
  exact sr (sm rfl (sa rfl (sn (SC.ret (aV (Wk.trans (Wk.lX (i := 2) (x := .slc 0 2 0 JI.length none) rfl rfl (fF rfl rfl rfl)) (wc (e' := [(2, .d ((eL 2 eApiPart) JI))]) [] [] (by kernel_rfl) rfl (by kernel_rfl))) (aI rfl aG) rfl)))))
noncomputable def rM (p0 : List UInt8) : Option Bool :=
 Option.bind (α := Bool)
 (bif (p0 == ([] : List UInt8)) then
 some true
 else
 some (decide ((p0.length : Int) > (16 : Int))))
 fun y88 =>
 bif y88 then
 some false
 else
 eH (Y := Unit) (E := Bool)
 (Option.bind (α := Unit ⊕ Bool)
 (loop (Y := Int) (W := Unit ⊕ Bool) (fun rJ =>
 bif (decide (rJ < (p0.length : Int))) then
 Option.bind (bF p0 rJ) fun Om =>
 Option.bind (α := Bool)
 (bif (decide ((97 : UInt8) ≤ Om)) then
 some (decide (Om ≤ (122 : UInt8)))
 else
 some false)
 fun ad3 =>
 Option.bind (α := Bool)
 (bif (!ad3) then
 bif (rJ == (0 : Int)) then
 some true
 else
 bif (Om != (95 : UInt8)) then
 bif (decide (Om < (48 : UInt8))) then
 some true
 else
 some (decide ((57 : UInt8) < Om))
 else
 some false
 else
 some false)
 fun ad2 =>
 bif ad2 then
 some (Sum.inr (Sum.inr false))
 else
 some (Sum.inl (bD (rJ + (1 : Int))))
 else
 some (Sum.inr (Sum.inl ()))) (0 : Int))
 (Sum.elim (fun e => some (Sum.inl e)) (fun e => some (Sum.inr e))))
 (fun _ =>
 some true)
 (fun e => some e)
theorem Ir (p0 : List UInt8) (r : Bool) (h0 : rM p0 = some r) : aL Tryz.prog 113 [.d (eS p0)] [] (.d (eB r)) [] := by
 unfold rM at h0
 refine fn0 [0] Tryz.func113 rfl rfl rfl rfl rfl ?_
 refine sr (sa rfl (sn (sq (SC.bJ h0 (fun y => ⟨mk 46 [(0, .d (eS p0)), (12, .d (eB y))], []⟩) ?_ ?_))))
 ·intro anQ h1
  refine SC.region (sm rfl (s1 (bi rfl rfl (iC (b := ([] : List UInt8)))) (sm rfl (sp h1 (fun h1 => ?_) (fun h1 => ?_)))))
  ·have q := si h1; subst q
   exact kw rfl (kw rfl (kw rfl (s1 (pkt rfl rfl) (SO.nil ((wq rfl))))))
  ·have q := si h1; subst q
   exact gw rfl (mv rfl) (gw rfl (len rfl rfl rfl (fK l9)) (gw rfl (bi rfl rfl bP) (s1 (dB rfl rfl) (SO.nil ((wq rfl))))))
 ·rintro y88 h0
  refine cB h0 rfl (fun h0 => ?_) (fun h0 => ?_)
  ·have q := si h0; subst q
   exact sr (sa rfl (sn (SC.ret (aV (Wk.refl _) (aI rfl aG) rfl))))
  ·refine sk (SC.seqB h0 (fun y => ⟨mk 46 [], []⟩) ?_ ?_)
   ·intro alC h1 h0
    obtain ⟨akO, h2, h1⟩ := ob h1
    refine sr (sm rfl (s1 (len rfl rfl rfl (fK l9)) (sm rfl (sn (SC.blk (SC.dH h2 (fun y => ⟨mk 46 [(0, .d (eS p0)), (14, .d (eI (p0.length : Int))), (15, .d (eI y))], []⟩) (wq rfl) ?_))))))
    intro n130
    rintro rJ ajz h3 hv3
    refine sr (s1 (bi rfl rfl aQ) (sn (sq (cB h3 rfl (fun h3 => ?_) (fun h3 => ?_)))))
    ·obtain ⟨Om, ZX, h3⟩ := ob h3
     refine sk (sq (SC.blk (sr (sm rfl (sa rfl (sn (sr (sm rfl (sm rfl ?_)))))))))
     refine s1 (ixs rfl rfl rfl rfl (j6 l9 (ak ZX).1 (ak ZX).2)) (sa rfl (sn (SC.bJ h3 (fun y => ⟨mk 46 [(0, .d (eS p0)), (3, .d (eI rJ)), (4, .d (bR Om)), (5, .d (eB y)), (14, .d (eI (p0.length : Int))), (15, .d (eI rJ))], []⟩) ?_ ?_)))
     ·intro akg h4
      refine SC.region (sm rfl (s1 (bi rfl rfl (UM (b := (97 : UInt8)))) (sm rfl (sp h4 (fun h4 => ?_) (fun h4 => ?_)))))
      ·have q := si h4; subst q
       exact gw rfl (mv rfl) (gw rfl (bi rfl rfl (UL (b := (122 : UInt8)))) (s1 (pkt rfl rfl) (sa rfl (SO.nil ((wq rfl))))))
      ·have q := si h4; subst q
       exact kw rfl (kw rfl (s1 (dB rfl rfl) (sa rfl (SO.nil ((wq rfl))))))
     ·rintro ad3 h3
      refine SC.bJ h3 (fun y => ⟨mk 46 [(0, .d (eS p0)), (14, .d (eI (p0.length : Int))), (15, .d (eI rJ)), (44, .d (eB y))], []⟩) ?_ ?_
      ·intro akf h4
       refine SC.region (sm rfl (s1 (nt rfl) (sm rfl (sp h4 (fun h4 => ?_) (fun h4 => ?_)))))
       ·refine gw rfl (mv rfl) (gw rfl (bi rfl rfl aP) (gw rfl (mv rfl) (sp h4 (fun h4 => ?_) (fun h4 => ?_))))
        ·have q := si h4; subst q
         refine kw rfl (kw rfl (kw rfl (kw rfl (kw rfl (kw rfl (kw rfl (kw rfl (kw rfl (kw rfl ?_)))))))))
         exact gw rfl (pkt rfl rfl) (s1 (pkt rfl rfl) (SO.nil ((wq rfl))))
        ·refine gw rfl (mv rfl) (gw rfl (bi rfl rfl (yD (b := (95 : UInt8)))) (gw rfl (mv rfl) (sp h4 (fun h4 => ?_) (fun h4 => ?_))))
         ·refine gw rfl (mv rfl) (gw rfl (bi rfl rfl (yE (b := (48 : UInt8)))) (gw rfl (mv rfl) (sp h4 (fun h4 => ?_) (fun h4 => ?_))))
          ·have q := si h4; subst q
           exact kw rfl (kw rfl (gw rfl (pkt rfl rfl) (gw rfl (pkt rfl rfl) (gw rfl (dB rfl rfl) (s1 (pkt rfl rfl) (SO.nil ((wq rfl))))))))
          ·have q := si h4; subst q
           exact gw rfl (mv rfl) (gw rfl (bi rfl rfl (rX (b := (57 : UInt8)))) (gw rfl (dB rfl rfl) (gw rfl (pkt rfl rfl) (gw rfl (dB rfl rfl) (s1 (pkt rfl rfl) (SO.nil ((wq rfl))))))))
         ·have q := si h4; subst q
          refine kw rfl (kw rfl (kw rfl (kw rfl (kw rfl (kw rfl (gw rfl (dB rfl rfl) (gw rfl (dB rfl rfl) (s1 (pkt rfl rfl) (SO.nil ?_)))))))))
          exact (wq rfl)
       ·have q := si h4; subst q
        refine kw rfl (kw rfl (kw rfl (kw rfl (kw rfl (kw rfl (kw rfl (kw rfl (kw rfl (kw rfl ?_)))))))))
        exact kw rfl (kw rfl (kw rfl (kw rfl (s1 (dB rfl rfl) (SO.nil ((wq rfl)))))))
      ·rintro ad2 h3
       refine cB h3 rfl (fun h3 => ?_) (fun h3 => ?_)
       ·have q := si h3; subst q; have q : _ = _ := hv3; subst q; have q := si h1; subst q; have q := si h0; subst q
        exact sr (sa rfl (sn (SC.ret (aV (Wk.refl _) (aI rfl aG) rfl))))
       ·refine SC.skip ?_
        change SC _ _ _ _ _
        have q := si h3; subst q
        exact SC.region (s1 (bi rfl rfl aR) (sm rfl (SO.nil (lf (wq rfl)))))
    ·have q := si h3; subst q; have q : _ = _ := hv3; subst q; have q := si h1; subst q
     exact SC.exit (lf (wq rfl))
   ·intro _ h0
    have q := si h0; subst q
    exact sr (sa rfl (sn (SC.ret (aV (Wk.refl _) (aI rfl aG) rfl))))
noncomputable def kI (p0 : Int) : Option Bool :=
 Option.bind (α := Bool)
 (bif (p0 == (4 : Int)) then
 some true
 else
 some (p0 == (5 : Int)))
 fun y6 =>
 some y6
theorem pF (p0 : Int) (r : Bool) (h0 : kI p0 = some r) : aL Tryz.prog 114 [.d (eI p0)] [] (.d (eB r)) [] := by
 unfold kI at h0
 refine fn0 [0] Tryz.func114 rfl rfl rfl rfl rfl ?_
 refine sr (sa rfl (sn (SC.bJ h0 (fun y => ⟨mk 9 [(2, .d (eB y))], []⟩) ?_ ?_)))
 ·intro aaV h1
  refine SC.region (sm rfl (s1 (bi rfl rfl aP) (sm rfl (sp h1 (fun h1 => ?_) (fun h1 => ?_)))))
  ·have q := si h1; subst q
   exact kw rfl (kw rfl (s1 (pkt rfl rfl) (sa rfl (SO.nil ((wq rfl))))))
  ·have q := si h1; subst q
   exact gw rfl (mv rfl) (gw rfl (bi rfl rfl aP) (s1 (dB rfl rfl) (sa rfl (SO.nil ((wq rfl))))))
 ·rintro y6 h0
  have q := si h0; subst q
  exact SC.ret (aV (Wk.refl _) (aI rfl aG) rfl)
noncomputable def ny (p0 : ApiValue) : Option Bool :=
 bif (p0.Kind == (0 : Int)) then
 some (eG p0 (ApiValue.mk (0 : Int) (0 : UInt64) ([] : List UInt8)))
 else
 Option.bind (α := Bool)
 (bif (p0.Kind == (1 : Int)) then
 some (p0.Kind == (1 : Int))
 else
 some (p0.Kind == (2 : Int)))
 fun Tt =>
 bif Tt then
 some (p0.S == ([] : List UInt8))
 else
 bif (p0.Kind == (3 : Int)) then
 Option.bind (α := Bool)
 (bif (decide (p0.N ≤ (1 : UInt64))) then
 some (p0.S == ([] : List UInt8))
 else
 some false)
 fun y28 =>
 some y28
 else
 bif (p0.Kind == (4 : Int)) then
 Option.bind (α := Bool)
 (bif (p0.N == (0 : UInt64)) then
 some (decide ((p0.S.length : Int) ≤ (64 : Int)))
 else
 some false)
 fun wX =>
 some wX
 else
 bif (p0.Kind == (5 : Int)) then
 Option.bind (α := Bool)
 (bif (p0.N == (0 : UInt64)) then
 bif (decide ((p0.S.length : Int) ≤ (64 : Int))) then
 Option.bind (FT p0.S) fun r37 =>
 some r37
 else
 some false
 else
 some false)
 fun y34 =>
 some y34
 else
 some false
theorem xX (p0 : ApiValue) (r : Bool) (h0 : ny p0 = some r) : aL Tryz.prog 119 [.d (eApiValue p0)] [] (.d (eB r)) [] := by
 unfold ny at h0
 refine fn0 [0] Tryz.func119 rfl rfl rfl rfl rfl ?_
 refine sr (s1 (nH (k := 0) rfl rfl rfl) (sa rfl (sn (sq (sr (s1 (far (k := 0) rfl fH bO rfl) (s1 (aS rfl (aj bO dW rfl rfl)) (sn (SC.blk ?_)))))))))
 refine sr (s1 (bi rfl rfl aP) (sa rfl (sn (cB h0 rfl (fun h0 => ?_) (fun h0 => ?_)))))
 ·have q := si h0; subst q
  exact sr (s1 (aS (v := .d (eApiValue p0)) rfl (aj d9 kD rfl rfl)) (s1 (l8 rfl (VU )) (s1 (bi (v := .d (eB (eG p0 (ApiValue.mk (0 : Int) (0 : UInt64) ([] : List UInt8))))) rfl rfl (fun X Y => Cj X Y p0 (ApiValue.mk (0 : Int) (0 : UInt64) ([] : List UInt8)))) (sa rfl (sn (SC.ret (aV (wc (e' := [(2, .d (eB (eG p0 (ApiValue.mk (0 : Int) (0 : UInt64) ([] : List UInt8)))))]) [] [] (by kernel_rfl) rfl (by kernel_rfl)) (aI rfl aG) rfl)))))))
 ·refine SC.bJ h0 (fun y => ⟨mk 53 [(1, .ref 0 0 0), (4, .d (eI p0.Kind)), (10, .d (eB y))], [.box (.d (eApiValue p0))]⟩) ?_ ?_
  ·intro Uf h1
   refine sr (s1 (bi rfl rfl aP) (sa rfl (sn (cB h1 rfl (fun h1 => ?_) (fun h1 => ?_)))))
   ·have q := si h1; subst q
    exact SC.skip ((wq rfl))
   ·have q := si h1; subst q
    exact SC.region (s1 (bi rfl rfl aP) (sa rfl (SO.nil ((wq rfl)))))
  ·rintro Tt h0
   refine cB h0 rfl (fun h0 => ?_) (fun h0 => ?_)
   ·have q := si h0; subst q
    exact sr (s1 (far (k := 2) rfl iO eT rfl) (s1 (aS rfl (aj eT jy rfl rfl)) (s1 (bi rfl rfl (iC (b := ([] : List UInt8)))) (sa rfl (sn (SC.ret (aV (wc (e' := [(2, .d (eB (p0.S == ([] : List UInt8))))]) [] [] (by kernel_rfl) rfl (by kernel_rfl)) (aI rfl aG) rfl)))))))
   ·refine sr (s1 (bi rfl rfl aP) (sa rfl (sn (cB h0 rfl (fun h0 => ?_) (fun h0 => ?_)))))
    ·refine SC.bJ h0 (fun y => ⟨mk 53 [(2, .d (eB y))], []⟩) ?_ ?_
     ·intro aeA h1
      refine SC.region (s1 (far (k := 1) rfl iK fU rfl) (s1 (aS rfl (aj fU lY rfl rfl)) (s1 (bi rfl rfl (Rp (b := (1 : UInt64)))) (sm rfl (sp h1 (fun h1 => ?_) (fun h1 => ?_))))))
      ·have q := si h1; subst q
       exact gw rfl (far (k := 2) rfl iO eT rfl) (gw rfl (aS rfl (aj eT jy rfl rfl)) (gw rfl (bi rfl rfl (iC (b := ([] : List UInt8)))) (s1 (pkt rfl rfl) (sa rfl (SO.nil ((wc [] [] (by kernel_rfl) rfl (by kernel_rfl))))))))
      ·have q := si h1; subst q
       exact kw rfl (kw rfl (kw rfl (s1 (dB rfl rfl) (sa rfl (SO.nil ((wc [] [] (by kernel_rfl) rfl (by kernel_rfl))))))))
     ·rintro y28 h0
      have q := si h0; subst q
      exact SC.ret (aV (Wk.refl _) (aI rfl aG) rfl)
    ·refine sr (s1 (bi rfl rfl aP) (sa rfl (sn (cB h0 rfl (fun h0 => ?_) (fun h0 => ?_)))))
     ·refine SC.bJ h0 (fun y => ⟨mk 53 [(2, .d (eB y))], []⟩) ?_ ?_
      ·intro Ue h1
       refine SC.region (s1 (far (k := 1) rfl iK fU rfl) (s1 (aS rfl (aj fU lY rfl rfl)) (s1 (bi rfl rfl (jo (b := (0 : UInt64)))) (sm rfl (sp h1 (fun h1 => ?_) (fun h1 => ?_))))))
       ·have q := si h1; subst q
        exact gw rfl (far (k := 2) rfl iO eT rfl) (gw rfl (aS rfl (aj eT jy rfl rfl)) (gw rfl (len rfl rfl rfl (fK l9)) (gw rfl (bi rfl rfl rE) (s1 (pkt rfl rfl) (sa rfl (SO.nil ((wc [] [] (by kernel_rfl) rfl (by kernel_rfl)))))))))
       ·have q := si h1; subst q
        exact kw rfl (kw rfl (kw rfl (kw rfl (s1 (dB rfl rfl) (sa rfl (SO.nil ((wc [] [] (by kernel_rfl) rfl (by kernel_rfl)))))))))
      ·rintro wX h0
       have q := si h0; subst q
       exact SC.ret (aV (Wk.refl _) (aI rfl aG) rfl)
     ·refine sr (s1 (bi rfl rfl aP) (sa rfl (sn (cB h0 rfl (fun h0 => ?_) (fun h0 => ?_)))))
      ·refine SC.bJ h0 (fun y => ⟨mk 53 [(2, .d (eB y))], []⟩) ?_ ?_
       ·intro YQ h1
        refine SC.region (s1 (far (k := 1) rfl iK fU rfl) (s1 (aS rfl (aj fU lY rfl rfl)) (s1 (bi rfl rfl (jo (b := (0 : UInt64)))) (sm rfl (sp h1 (fun h1 => ?_) (fun h1 => ?_))))))
        ·refine gw rfl (far (k := 2) rfl iO eT rfl) (gw rfl (aS rfl (aj eT jy rfl rfl)) (gw rfl (len rfl rfl rfl (fK l9)) (gw rfl (bi rfl rfl rE) (s1 (pkt rfl rfl) (sm rfl (sp h1 (fun h1 => ?_) (fun h1 => ?_)))))))
         ·obtain ⟨r37, amo, h1⟩ := ob h1; have q := si h1; subst q
          exact gw rfl (far (k := 2) rfl iO eT rfl) (gw rfl (aS rfl (aj eT jy rfl rfl)) (c0 (TJ p0.S _ amo) (ww rfl) rfl rfl rfl ah3 rfl (fun _ => rfl) (fun _ => rfl) (s1 (pkt rfl rfl) (sa rfl (SO.nil ((wc [] [] (by kernel_rfl) rfl (by kernel_rfl))))))))
         ·have q := si h1; subst q
          exact kw rfl (kw rfl (kw rfl (s1 (dB rfl rfl) (sa rfl (SO.nil ((wc [] [] (by kernel_rfl) rfl (by kernel_rfl))))))))
        ·have q := si h1; subst q
         refine kw rfl (kw rfl (kw rfl (kw rfl (s1 (dB rfl rfl) (sm rfl (kw rfl (kw rfl (kw rfl (s1 (dB rfl rfl) ?_)))))))))
         exact sa rfl (SO.nil ((wc [] [] (by kernel_rfl) rfl (by kernel_rfl))))
       ·rintro y34 h0
        have q := si h0; subst q
        exact SC.ret (aV (Wk.refl _) (aI rfl aG) rfl)
      ·refine SC.skip ?_
       change SC _ _ _ _ _
       have q := si h0; subst q
       exact sr (sa rfl (sn (SC.ret (aV (wc (e' := [(2, .d (eB false))]) [] [] (by kernel_rfl) rfl (by kernel_rfl)) (aI rfl aG) rfl))))
noncomputable def kJ (p0 : ApiColumn) (p1 : ApiValue) : Option Int :=
 Option.bind (ny p1) fun Kn =>
 bif (!Kn) then
 some (8 : Int)
 else
 bif (p1.Kind == (0 : Int)) then
 bif p0.xL then
 some (0 : Int)
 else
 some (8 : Int)
 else
 bif (p1.Kind != p0.Kind) then
 some (8 : Int)
 else
 Option.bind (α := Bool)
 (Option.bind (kI p1.Kind) fun IQ =>
 bif IQ then
 some (decide ((p1.S.length : Int) > p0.Max))
 else
 some false)
 fun y22 =>
 bif y22 then
 some (7 : Int)
 else
 some (0 : Int)
theorem pG (p0 : ApiColumn) (p1 : ApiValue) (r : Int) (h0 : kJ p0 p1 = some r) : aL Tryz.prog 96 [.d (eApiColumn p0), .d (eApiValue p1)] [] (.d (eI r)) [] := by
 unfold kJ at h0
 refine fn0 [0, 1] Tryz.func96 rfl rfl rfl rfl rfl ?_
 obtain ⟨Kn, OY, h0⟩ := ob h0
 refine sr (s1 (nH (k := 0) rfl rfl rfl) (s1 (nH (k := 1) rfl rfl rfl) (sa rfl (sn (sq (SC.blk (sr (s1 (aS (v := .d (eApiValue p1)) rfl (aj d9 kD rfl rfl)) (c0 (xX p1 _ OY) wf rfl rfl rfl aah rfl (fun _ => rfl) (fun _ => rfl) ?_)))))))))
 refine s1 (nt rfl) (sa rfl (sn (cB h0 rfl (fun h0 => ?_) (fun h0 => ?_))))
 ·have q := si h0; subst q
  exact sr (sa rfl (sn (SC.ret (aV (wc (e' := [(4, .d (eI (8 : Int)))]) [] [] (by kernel_rfl) rfl (by kernel_rfl)) (aI rfl aG) rfl))))
 ·refine sr (s1 (far (k := 0) rfl fH bO rfl) (s1 (aS rfl (aj bO dW rfl rfl)) (s1 (bi rfl rfl aP) (sa rfl (sn (cB h0 rfl (fun h0 => ?_) (fun h0 => ?_)))))))
  ·refine sq (sr (s1 (far (k := 3) rfl O8 jV rfl) (s1 (aS rfl (aj jV zD rfl rfl)) (sn (cB h0 rfl (fun h0 => ?_) (fun h0 => ?_))))))
   ·have q := si h0; subst q
    exact sr (sa rfl (sn (SC.ret (aV (wc (e' := [(4, .d (eI (0 : Int)))]) [] [] (by kernel_rfl) rfl (by kernel_rfl)) (aI rfl aG) rfl))))
   ·have q := si h0; subst q
    exact sk (sr (sa rfl (sn (SC.ret (aV (wc (e' := [(4, .d (eI (8 : Int)))]) [] [] (by kernel_rfl) rfl (by kernel_rfl)) (aI rfl aG) rfl)))))
  ·refine sr (s1 (far (k := 0) rfl fH bO rfl) (s1 (aS rfl (aj bO dW rfl rfl)) (s1 (far (k := 1) rfl ko bO rfl) (s1 (aS rfl (aj bO dW rfl rfl)) (s1 (bi rfl rfl bA) (sa rfl (sn (cB h0 rfl (fun h0 => ?_) (fun h0 => ?_)))))))))
   ·have q := si h0; subst q
    exact sr (sa rfl (sn (SC.ret (aV (wc (e' := [(4, .d (eI (8 : Int)))]) [] [] (by kernel_rfl) rfl (by kernel_rfl)) (aI rfl aG) rfl))))
   ·refine SC.bJ h0 (fun y => ⟨mk 33 [(21, .d (eB y))], []⟩) ?_ ?_
    ·intro aeC h1
     obtain ⟨IQ, Vn, h1⟩ := ob h1
     refine SC.region (s1 (far (k := 0) rfl fH bO rfl) (s1 (aS rfl (aj bO dW rfl rfl)) (c0 (pF p1.Kind _ Vn) wf rfl rfl rfl QC rfl (fun _ => rfl) (fun _ => rfl) (sm rfl (sp h1 (fun h1 => ?_) (fun h1 => ?_))))))
     ·have q := si h1; subst q
      exact gw rfl (far (k := 2) rfl iO eT rfl) (gw rfl (aS rfl (aj eT jy rfl rfl)) (gw rfl (len rfl rfl rfl (fK l9)) (gw rfl (far (k := 2) rfl oZ bO rfl) (gw rfl (aS rfl (aj bO dW rfl rfl)) (gw rfl (bi rfl rfl bP) (s1 (pkt rfl rfl) (sa rfl (SO.nil ((wc [] [] (by kernel_rfl) rfl (by kernel_rfl)))))))))))
     ·have q := si h1; subst q
      exact kw rfl (kw rfl (kw rfl (kw rfl (kw rfl (kw rfl (s1 (dB rfl rfl) (sa rfl (SO.nil ((wc [] [] (by kernel_rfl) rfl (by kernel_rfl)))))))))))
    ·rintro y22 h0
     refine cB h0 rfl (fun h0 => ?_) (fun h0 => ?_)
     ·have q := si h0; subst q
      exact sr (sa rfl (sn (SC.ret (aV (Wk.refl _) (aI rfl aG) rfl))))
     ·refine SC.skip ?_
      change SC _ _ _ _ _
      have q := si h0; subst q
      exact sr (sa rfl (sn (SC.ret (aV (Wk.refl _) (aI rfl aG) rfl))))
noncomputable def nK (p0 : ApiColumn) : Option Int :=
 Option.bind (rM p0.Name) fun r43 =>
 bif (!r43) then
 some (1 : Int)
 else
 Option.bind (α := Bool)
 (bif (decide (p0.Kind < (1 : Int))) then
 some true
 else
 some (decide (p0.Kind > (5 : Int))))
 fun y44 =>
 bif y44 then
 some (8 : Int)
 else
 Option.bind (α := Bool)
 (Option.bind (kI p0.Kind) fun r55 =>
 bif r55 then
 bif (decide (p0.Max < (1 : Int))) then
 some true
 else
 bif (decide (p0.Max > (64 : Int))) then
 some true
 else
 Option.bind (kI p0.Kind) fun Ql =>
 bif (!Ql) then
 some (p0.Max != (0 : Int))
 else
 some false
 else
 Option.bind (kI p0.Kind) fun r59 =>
 bif (!r59) then
 some (p0.Max != (0 : Int))
 else
 some false)
 fun y52 =>
 bif y52 then
 some (7 : Int)
 else
 Option.bind (kJ p0 p0.Default) fun r61 =>
 some r61
theorem EO (p0 : ApiColumn) (r : Int) (h0 : nK p0 = some r) : aL Tryz.prog 90 [.d (eApiColumn p0)] [] (.d (eI r)) [] := by
 unfold nK at h0
 refine fn0 [0] Tryz.func90 rfl rfl rfl rfl rfl ?_
 obtain ⟨r43, abQ, h0⟩ := ob h0
 refine sr (s1 (nH (k := 0) rfl rfl rfl) (sa rfl (sn (sq (SC.blk (sr (s1 (far (k := 0) rfl KP eT rfl) (s1 (aS rfl (aj eT jy rfl rfl)) (c0 (Ir p0.Name _ abQ) wf rfl rfl rfl aic rfl (fun _ => rfl) (fun _ => rfl) ?_)))))))))
 refine s1 (nt rfl) (sa rfl (sn (cB h0 rfl (fun h0 => ?_) (fun h0 => ?_))))
 ·have q := si h0; subst q
  exact sr (sa rfl (sn (SC.ret (aV (wc (e' := [(2, .d (eI (1 : Int)))]) [] [] (by kernel_rfl) rfl (by kernel_rfl)) (aI rfl aG) rfl))))
 ·refine SC.bJ h0 (fun y => ⟨mk 46 [(1, .ref 0 0 0), (8, .d (eB y))], [.box (.d (eApiColumn p0))]⟩) ?_ ?_
  ·intro aey h1
   refine SC.region (s1 (far (k := 1) rfl ko bO rfl) (s1 (aS rfl (aj bO dW rfl rfl)) (s1 (bi rfl rfl aQ) (sm rfl (sp h1 (fun h1 => ?_) (fun h1 => ?_))))))
   ·have q := si h1; subst q
    exact kw rfl (kw rfl (kw rfl (s1 (pkt rfl rfl) (sa rfl (SO.nil ((wq rfl)))))))
   ·have q := si h1; subst q
    exact gw rfl (far (k := 1) rfl ko bO rfl) (gw rfl (aS rfl (aj bO dW rfl rfl)) (gw rfl (bi rfl rfl bP) (s1 (dB rfl rfl) (sa rfl (SO.nil ((wq rfl)))))))
  ·rintro y44 h0
   refine cB h0 rfl (fun h0 => ?_) (fun h0 => ?_)
   ·have q := si h0; subst q
    exact sr (sa rfl (sn (SC.ret (aV (wc (e' := [(2, .d (eI (8 : Int)))]) [] [] (by kernel_rfl) rfl (by kernel_rfl)) (aI rfl aG) rfl))))
   ·refine SC.bJ h0 (fun y => ⟨mk 46 [(1, .ref 0 0 0), (17, .d (eB y))], [.box (.d (eApiColumn p0))]⟩) ?_ ?_
    ·intro anX h1
     obtain ⟨r55, amg, h1⟩ := ob h1
     refine SC.region (s1 (far (k := 1) rfl ko bO rfl) (s1 (aS rfl (aj bO dW rfl rfl)) (c0 (pF p0.Kind _ amg) wf rfl rfl rfl QC rfl (fun _ => rfl) (fun _ => rfl) (sm rfl (sp h1 (fun h1 => ?_) (fun h1 => ?_))))))
     ·refine gw rfl (far (k := 2) rfl oZ bO rfl) (gw rfl (aS rfl (aj bO dW rfl rfl)) (gw rfl (bi rfl rfl aQ) (gw rfl (mv rfl) (sp h1 (fun h1 => ?_) (fun h1 => ?_)))))
      ·have q := si h1; subst q
       refine kw rfl (kw rfl (kw rfl (gw rfl (pkt rfl rfl) (s1 (pkt rfl rfl) (sm rfl (kw rfl (kw rfl (kw rfl (kw rfl ?_)))))))))
       exact kw rfl (kw rfl (kw rfl (kw rfl (kw rfl (s1 (pkt rfl rfl) (sa rfl (SO.nil ((wq rfl)))))))))
      ·refine gw rfl (far (k := 2) rfl oZ bO rfl) (gw rfl (aS rfl (aj bO dW rfl rfl)) (gw rfl (bi rfl rfl bP) (gw rfl (dB rfl rfl) (s1 (pkt rfl rfl) (sm rfl (sp h1 (fun h1 => ?_) (fun h1 => ?_)))))))
       ·have q := si h1; subst q
        refine kw rfl (kw rfl (kw rfl (kw rfl (kw rfl (kw rfl (kw rfl (kw rfl (kw rfl (s1 (pkt rfl rfl) ?_)))))))))
        exact sa rfl (SO.nil ((wq rfl)))
       ·obtain ⟨Ql, abP, h1⟩ := ob h1
        refine gw rfl (far (k := 1) rfl ko bO rfl) (gw rfl (aS rfl (aj bO dW rfl rfl)) (c0 (pF p0.Kind _ abP) (ww rfl) rfl rfl rfl QC rfl (fun _ => rfl) (fun _ => rfl) (gw rfl (nt rfl) (gw rfl (mv rfl) (sp h1 (fun h1 => ?_) (fun h1 => ?_))))))
        ·have q := si h1; subst q
         exact gw rfl (far (k := 2) rfl oZ bO rfl) (gw rfl (aS rfl (aj bO dW rfl rfl)) (gw rfl (bi rfl rfl bA) (gw rfl (pkt rfl rfl) (s1 (dB rfl rfl) (sa rfl (SO.nil ((wq rfl))))))))
        ·have q := si h1; subst q
         exact kw rfl (kw rfl (kw rfl (gw rfl (dB rfl rfl) (s1 (dB rfl rfl) (sa rfl (SO.nil ((wq rfl))))))))
     ·obtain ⟨r59, amf, h1⟩ := ob h1
      refine kw rfl (kw rfl (kw rfl (kw rfl (kw rfl (kw rfl (kw rfl (kw rfl (s1 (dB rfl rfl) (sm rfl ?_)))))))))
      refine gw rfl (far (k := 1) rfl ko bO rfl) (gw rfl (aS rfl (aj bO dW rfl rfl)) (c0 (pF p0.Kind _ amf) (ww rfl) rfl rfl rfl QC rfl (fun _ => rfl) (fun _ => rfl) (gw rfl (nt rfl) (gw rfl (mv rfl) (sp h1 (fun h1 => ?_) (fun h1 => ?_))))))
      ·have q := si h1; subst q
       exact gw rfl (far (k := 2) rfl oZ bO rfl) (gw rfl (aS rfl (aj bO dW rfl rfl)) (gw rfl (bi rfl rfl bA) (gw rfl (pkt rfl rfl) (s1 (dB rfl rfl) (sa rfl (SO.nil ((wq rfl))))))))
      ·have q := si h1; subst q
       exact kw rfl (kw rfl (kw rfl (gw rfl (dB rfl rfl) (s1 (dB rfl rfl) (sa rfl (SO.nil ((wq rfl))))))))
    ·rintro y52 h0
     refine cB h0 rfl (fun h0 => ?_) (fun h0 => ?_)
     ·have q := si h0; subst q
      exact sr (sa rfl (sn (SC.ret (aV (wc (e' := [(2, .d (eI (7 : Int)))]) [] [] (by kernel_rfl) rfl (by kernel_rfl)) (aI rfl aG) rfl))))
     ·refine SC.skip ?_
      change SC _ _ _ _ _
      obtain ⟨r61, abO, h0⟩ := ob h0; have q := si h0; subst q
      exact sr (s1 (aS (v := .d (eApiColumn p0)) rfl (aj jl yg rfl rfl)) (s1 (far (k := 4) rfl KO d9 rfl) (s1 (aS (v := .d (eApiValue p0.Default)) rfl (aj d9 kD rfl rfl)) (c0 (pG p0 p0.Default _ abO) wf rfl rfl rfl Ya rfl (fun _ => rfl) (fun _ => rfl) (sa rfl (sn (SC.ret (aV (wc (e' := [(2, .d (eI r61))]) [] [] (by kernel_rfl) rfl (by kernel_rfl)) (aI rfl aG) rfl))))))))
noncomputable def pJ (p0 : ApiColumn) : Option Bool :=
 Option.bind (nK p0) fun r7 =>
 some (r7 != (0 : Int))
theorem C8 (p0 : ApiColumn) (r : Bool) (h0 : pJ p0 = some r) : aL Tryz.prog 89 [.d (eApiColumn p0)] [] (.d (eB r)) [] := by
 unfold pJ at h0
 refine fn0 [0] Tryz.func89 rfl rfl rfl rfl rfl ?_
 obtain ⟨r7, G7, h0⟩ := ob h0; have q := si h0; subst q
 refine sr (s1 (nH (k := 0) rfl rfl rfl) (sa rfl (sn (sr (s1 (aS (v := .d (eApiColumn p0)) rfl (aj jl yg rfl rfl)) (c0 (EO p0 _ G7) wf rfl rfl rfl am0 rfl (fun _ => rfl) (fun _ => rfl) (s1 (bi rfl rfl bA) (sa rfl (sn ?_)))))))))
 exact SC.ret (aV (wc (e' := [(2, .d (eB (r7 != (0 : Int))))]) [] [] (by kernel_rfl) rfl (by kernel_rfl)) (aI rfl aG) rfl)
noncomputable def dF (p0 : List ApiColumn) : Option Int :=
 eH (Y := Unit) (E := Int)
 (Option.bind (α := Unit ⊕ Int)
 (loop (Y := Int) (W := Unit ⊕ Int) (fun Lu =>
 bif (decide (Lu < (p0.length : Int))) then
 Option.bind (bF p0 Lu) fun v85 =>
 Option.bind (pJ v85) fun Ut =>
 bif Ut then
 some (Sum.inr (Sum.inr Lu))
 else
 some (Sum.inl (bD (Lu + (1 : Int))))
 else
 some (Sum.inr (Sum.inl ()))) (0 : Int))
 (Sum.elim (fun e => some (Sum.inl e)) (fun e => some (Sum.inr e))))
 (fun _ =>
 some (-1 : Int))
 (fun e => some e)
theorem jT (p0 : List ApiColumn) (r : Int) (h0 : dF p0 = some r) : aL Tryz.prog 112 [.d ((eL 7 eApiColumn) p0), .fn (.func 89) [] []] [] (.d (eI r)) [] := by
 unfold dF at h0
 refine fn0 [0, 1] Tryz.func112 rfl rfl rfl rfl rfl ?_
 refine sr (sa rfl (sn (SC.seqB h0 (fun y => ⟨mk 19 [], []⟩) ?_ ?_)))
 ·intro Ub h1 h0
  obtain ⟨YP, h2, h1⟩ := ob h1
  refine sr (sm rfl (s1 (len rfl rfl rfl (aZ iF)) (sm rfl (sn (SC.blk (SC.dH h2 (fun y => ⟨mk 19 [(0, .d ((eL 7 eApiColumn) p0)), (1, .fn (.func 89) [] []), (7, .d (eI (p0.length : Int))), (8, .d (eI y))], []⟩) (wq rfl) ?_))))))
  intro n88
  rintro Lu YI h3 hv3
  refine sr (s1 (bi rfl rfl aQ) (sn (sq (cB h3 rfl (fun h3 => ?_) (fun h3 => ?_)))))
  ·obtain ⟨v85, ML, h3⟩ := ob h3; obtain ⟨Ut, OW, h3⟩ := ob h3
   refine sk (sq (SC.blk (sr (sm rfl (sa rfl (sn (sr (sm rfl (sm rfl ?_)))))))))
   refine sm rfl (s1 (j4 rfl rfl iF jl (ak ML).1 (aT (ak ML).2) rfl) (s1 (aS (v := .d (eApiColumn v85)) rfl (bK jl yg rfl)) (c0 (C8 v85 _ OW) wf rfl rfl rfl am1 rfl (fun _ => rfl) (fun _ => rfl) (sn (cB h3 rfl (fun h3 => ?_) (fun h3 => ?_))))))
   ·have q := si h3; subst q; have q : _ = _ := hv3; subst q; have q := si h1; subst q; have q := si h0; subst q
    exact sr (sm rfl (sa rfl (sn (SC.ret (aV (Wk.refl _) (aI rfl aG) rfl)))))
   ·refine SC.skip ?_
    change SC _ _ _ _ _
    have q := si h3; subst q
    exact SC.region (s1 (bi rfl rfl aR) (sm rfl (SO.nil (lf (wq rfl)))))
  ·have q := si h3; subst q; have q : _ = _ := hv3; subst q; have q := si h1; subst q
   exact SC.exit (lf (wq rfl))
 ·intro _ h0
  have q := si h0; subst q
  exact sr (sa rfl (sn (SC.ret (aV (Wk.refl _) (aI rfl aG) rfl))))
noncomputable def dw (p0 : List ApiColumn) : Option Bool :=
 Option.bind (dF p0) fun r7 =>
 some (decide (r7 ≥ (0 : Int)))
theorem jm (p0 : List ApiColumn) (r : Bool) (h0 : dw p0 = some r) : aL Tryz.prog 88 [.d ((eL 7 eApiColumn) p0), .fn (.func 89) [] []] [] (.d (eB r)) [] := by
 unfold dw at h0
 refine fn0 [0, 1] Tryz.func88 rfl rfl rfl rfl rfl ?_
 obtain ⟨r7, G7, h0⟩ := ob h0; have q := si h0; subst q
 refine sr (sa rfl (sn (sr (sm rfl (sm rfl (c0 (jT p0 _ G7) wf rfl rfl rfl aie rfl (fun _ => rfl) (fun _ => rfl) (s1 (bi rfl rfl dU) (sa rfl (sn ?_)))))))))
 exact SC.ret (aV (Wk.refl _) (aI rfl aG) rfl)
noncomputable def nA (p0 : List ApiColumn) : Option Bool :=
 Option.bind (α := Bool)
 (bif (decide ((p0.length : Int) ≥ (1 : Int))) then
 bif (decide ((p0.length : Int) ≤ (24 : Int))) then
 Option.bind (dw p0) fun Kn =>
 some (!Kn)
 else
 some false
 else
 some false)
 fun Tz =>
 some Tz
theorem yu (p0 : List ApiColumn) (r : Bool) (h0 : nA p0 = some r) : aL Tryz.prog 59 [.d ((eL 7 eApiColumn) p0)] [] (.d (eB r)) [] := by
 unfold nA at h0
 refine fn0 [0] Tryz.func59 rfl rfl rfl rfl rfl ?_
 refine sr (sa rfl (sn (SC.bJ h0 (fun y => ⟨mk 16 [(2, .d (eB y))], []⟩) ?_ ?_)))
 ·intro Qi h1
  refine SC.region (sm rfl (s1 (len rfl rfl rfl (aZ iF)) (s1 (bi rfl rfl dU) (sm rfl (sp h1 (fun h1 => ?_) (fun h1 => ?_))))))
  ·refine gw rfl (mv rfl) (gw rfl (len rfl rfl rfl (aZ iF)) (gw rfl (bi rfl rfl rE) (s1 (pkt rfl rfl) (sm rfl (sp h1 (fun h1 => ?_) (fun h1 => ?_))))))
   ·obtain ⟨Kn, OY, h1⟩ := ob h1; have q := si h1; subst q
    exact gw rfl (mv rfl) (c0 (jm p0 _ OY) (ww rfl) rfl rfl rfl am2 rfl (fun _ => rfl) (fun _ => rfl) (gw rfl (nt rfl) (s1 (pkt rfl rfl) (sa rfl (SO.nil ((wq rfl)))))))
   ·have q := si h1; subst q
    exact kw rfl (kw rfl (kw rfl (s1 (dB rfl rfl) (sa rfl (SO.nil ((wq rfl)))))))
  ·have q := si h1; subst q
   refine kw rfl (kw rfl (kw rfl (s1 (dB rfl rfl) (sm rfl (kw rfl (kw rfl (kw rfl (s1 (dB rfl rfl) (sa rfl ?_)))))))))
   exact SO.nil ((wq rfl))
 ·rintro Tz h0
  have q := si h0; subst q
  exact SC.ret (aV (Wk.refl _) (aI rfl aG) rfl)
noncomputable def vF (p0 : List ApiColumn) (p1 : List ApiValue) : Option Int :=
 Option.bind (α := Bool)
 (Option.bind (nA p0) fun YW =>
 bif (!YW) then
 some true
 else
 some ((p1.length : Int) != (p0.length : Int)))
 fun QK =>
 bif QK then
 some (1 : Int)
 else
 eH (Y := Unit) (E := Int)
 (Option.bind (α := Unit ⊕ Int)
 (loop (Y := Int) (W := Unit ⊕ Int) (fun y112 =>
 bif (decide (y112 < (p1.length : Int))) then
 Option.bind (bF p1 y112) fun FX =>
 Option.bind (bF p0 y112) fun JU =>
 Option.bind (kJ JU FX) fun Fh =>
 bif (Fh != (0 : Int)) then
 some (Sum.inr (Sum.inr Fh))
 else
 some (Sum.inl (bD (y112 + (1 : Int))))
 else
 some (Sum.inr (Sum.inl ()))) (0 : Int))
 (Sum.elim (fun e => some (Sum.inl e)) (fun e => some (Sum.inr e))))
 (fun _ =>
 some (0 : Int))
 (fun e => some e)
theorem Ep (p0 : List ApiColumn) (p1 : List ApiValue) (r : Int) (h0 : vF p0 p1 = some r) : aL Tryz.prog 64 [.d ((eL 7 eApiColumn) p0), .d ((eL 3 eApiValue) p1)] [] (.d (eI r)) [] := by
 unfold vF at h0
 refine fn0 [0, 1] Tryz.func64 rfl rfl rfl rfl rfl ?_
 refine sr (sa rfl (sn (sq (SC.bJ h0 (fun y => ⟨mk 35 [(0, .d ((eL 7 eApiColumn) p0)), (1, .d ((eL 3 eApiValue) p1)), (17, .d (eB y))], []⟩) ?_ ?_))))
 ·intro Ua h1
  obtain ⟨YW, Vi, h1⟩ := ob h1
  refine SC.region (sm rfl (c0 (yu p0 _ Vi) wf rfl rfl rfl ahR rfl (fun _ => rfl) (fun _ => rfl) (s1 (nt rfl) (sm rfl (sp h1 (fun h1 => ?_) (fun h1 => ?_))))))
  ·have q := si h1; subst q
   exact kw rfl (kw rfl (kw rfl (kw rfl (kw rfl (s1 (pkt rfl rfl) (SO.nil ((wq rfl))))))))
  ·have q := si h1; subst q
   exact gw rfl (mv rfl) (gw rfl (len rfl rfl rfl (aZ fu)) (gw rfl (mv rfl) (gw rfl (len rfl rfl rfl (aZ iF)) (gw rfl (bi rfl rfl bA) (s1 (dB rfl rfl) (SO.nil ((wq rfl))))))))
 ·rintro QK h0
  refine cB h0 rfl (fun h0 => ?_) (fun h0 => ?_)
  ·have q := si h0; subst q
   exact sr (sa rfl (sn (SC.ret (aV (Wk.refl _) (aI rfl aG) rfl))))
  ·refine sk (SC.seqB h0 (fun y => ⟨mk 35 [], []⟩) ?_ ?_)
   ·intro aaZ h1 h0
    obtain ⟨aaT, h2, h1⟩ := ob h1
    refine sr (sm rfl (s1 (len rfl rfl rfl (aZ fu)) (sm rfl (sn (SC.blk (SC.dH h2 (fun y => ⟨mk 35 [(0, .d ((eL 7 eApiColumn) p0)), (18, .d ((eL 3 eApiValue) p1)), (19, .d (eI (p1.length : Int))), (20, .d (eI y))], []⟩) (wq rfl) ?_))))))
    intro n124
    rintro y112 aaG h3 hv3
    refine sr (s1 (bi rfl rfl aQ) (sn (sq (cB h3 rfl (fun h3 => ?_) (fun h3 => ?_)))))
    ·obtain ⟨FX, M4, h3⟩ := ob h3; obtain ⟨JU, M0, h3⟩ := ob h3; obtain ⟨Fh, M8, h3⟩ := ob h3
     refine sk (sq (SC.blk (sr (sm rfl (s1 (j4 rfl rfl fu d9 (ak M4).1 (aT (ak M4).2) rfl) (s1 (aS (v := .d (eApiValue FX)) rfl (bK d9 kD rfl)) (s1 (qV (k := 0) JH rfl) (sa rfl (s0 (fJ rfl rfl (sB (d' := .d (eApiValue FX)) d9 rfl rfl rfl rfl rfl rfl rfl)) ?_)))))))))
     refine sn (sd (by kernel_rfl) (t1 ([], false) (mv rfl) rfl (t1 ([], false) (mv rfl) rfl (t1 ([], false) (j4 rfl rfl iF jl (ak M0).1 (aT (ak M0).2) rfl) rfl (t1 ([], false) (aS (v := .d (eApiColumn JU)) rfl (bK jl yg rfl)) rfl (t1 ([0], false) (aS (v := .d (eApiValue FX)) rfl (aj d9 kD rfl rfl)) rfl (Lj (pG JU FX _ M8) wf rfl rfl rfl Ya rfl (fun _ => rfl) (fun _ => rfl) (t1 ([], false) (ig rfl) rfl (tn (by decide +kernel) ?_)))))))))
     refine sr (sm rfl (s1 (bi rfl rfl bA) (sn (cB h3 rfl (fun h3 => ?_) (fun h3 => ?_)))))
     ·have q := si h3; subst q; have q : _ = _ := hv3; subst q; have q := si h1; subst q; have q := si h0; subst q
      exact sr (sm rfl (sa rfl (sn (SC.ret (aV (wc (e' := [(4, .d (eI Fh))]) [] [] (by kernel_rfl) rfl (by kernel_rfl)) (aI rfl aG) rfl)))))
     ·refine SC.skip ?_
      change SC _ _ _ _ _
      have q := si h3; subst q
      exact SC.region (s1 (bi rfl rfl aR) (sm rfl (SO.nil (lf (wc [] [] (by kernel_rfl) rfl (by kernel_rfl))))))
    ·have q := si h3; subst q; have q : _ = _ := hv3; subst q; have q := si h1; subst q
     exact SC.exit (lf (wq rfl))
   ·intro _ h0
    have q := si h0; subst q
    exact sr (sa rfl (sn (SC.ret (aV (Wk.refl _) (aI rfl aG) rfl))))
noncomputable def lN (p0 : ApiValue) : Option Bool :=
 Option.bind (ny p0) fun r7 =>
 some (!r7)
theorem Fq (p0 : ApiValue) (r : Bool) (h0 : lN p0 = some r) : aL Tryz.prog 125 [.d (eApiValue p0)] [] (.d (eB r)) [] := by
 unfold lN at h0
 refine fn0 [0] Tryz.func125 rfl rfl rfl rfl rfl ?_
 obtain ⟨r7, G7, h0⟩ := ob h0; have q := si h0; subst q
 refine sr (s1 (nH (k := 0) rfl rfl rfl) (sa rfl (sn (sr (s1 (aS (v := .d (eApiValue p0)) rfl (aj d9 kD rfl rfl)) (c0 (xX p0 _ G7) wf rfl rfl rfl aah rfl (fun _ => rfl) (fun _ => rfl) (s1 (nt rfl) (sa rfl (sn ?_)))))))))
 exact SC.ret (aV (wc (e' := [(2, .d (eB (!r7)))]) [] [] (by kernel_rfl) rfl (by kernel_rfl)) (aI rfl aG) rfl)
noncomputable def dJ (p0 : List ApiValue) : Option Int :=
 eH (Y := Unit) (E := Int)
 (Option.bind (α := Unit ⊕ Int)
 (loop (Y := Int) (W := Unit ⊕ Int) (fun Lu =>
 bif (decide (Lu < (p0.length : Int))) then
 Option.bind (bF p0 Lu) fun v85 =>
 Option.bind (lN v85) fun Ut =>
 bif Ut then
 some (Sum.inr (Sum.inr Lu))
 else
 some (Sum.inl (bD (Lu + (1 : Int))))
 else
 some (Sum.inr (Sum.inl ()))) (0 : Int))
 (Sum.elim (fun e => some (Sum.inl e)) (fun e => some (Sum.inr e))))
 (fun _ =>
 some (-1 : Int))
 (fun e => some e)
theorem kE (p0 : List ApiValue) (r : Int) (h0 : dJ p0 = some r) : aL Tryz.prog 131 [.d ((eL 3 eApiValue) p0), .fn (.func 125) [] []] [] (.d (eI r)) [] := by
 unfold dJ at h0
 refine fn0 [0, 1] Tryz.func131 rfl rfl rfl rfl rfl ?_
 refine sr (sa rfl (sn (SC.seqB h0 (fun y => ⟨mk 19 [], []⟩) ?_ ?_)))
 ·intro Ub h1 h0
  obtain ⟨YP, h2, h1⟩ := ob h1
  refine sr (sm rfl (s1 (len rfl rfl rfl (aZ fu)) (sm rfl (sn (SC.blk (SC.dH h2 (fun y => ⟨mk 19 [(0, .d ((eL 3 eApiValue) p0)), (1, .fn (.func 125) [] []), (7, .d (eI (p0.length : Int))), (8, .d (eI y))], []⟩) (wq rfl) ?_))))))
  intro n88
  rintro Lu YI h3 hv3
  refine sr (s1 (bi rfl rfl aQ) (sn (sq (cB h3 rfl (fun h3 => ?_) (fun h3 => ?_)))))
  ·obtain ⟨v85, ML, h3⟩ := ob h3; obtain ⟨Ut, OW, h3⟩ := ob h3
   refine sk (sq (SC.blk (sr (sm rfl (sa rfl (sn (sr (sm rfl (sm rfl ?_)))))))))
   refine sm rfl (s1 (j4 rfl rfl fu d9 (ak ML).1 (aT (ak ML).2) rfl) (s1 (aS (v := .d (eApiValue v85)) rfl (bK d9 kD rfl)) (c0 (Fq v85 _ OW) wf rfl rfl rfl ah5 rfl (fun _ => rfl) (fun _ => rfl) (sn (cB h3 rfl (fun h3 => ?_) (fun h3 => ?_))))))
   ·have q := si h3; subst q; have q : _ = _ := hv3; subst q; have q := si h1; subst q; have q := si h0; subst q
    exact sr (sm rfl (sa rfl (sn (SC.ret (aV (Wk.refl _) (aI rfl aG) rfl)))))
   ·refine SC.skip ?_
    change SC _ _ _ _ _
    have q := si h3; subst q
    exact SC.region (s1 (bi rfl rfl aR) (sm rfl (SO.nil (lf (wq rfl)))))
  ·have q := si h3; subst q; have q : _ = _ := hv3; subst q; have q := si h1; subst q
   exact SC.exit (lf (wq rfl))
 ·intro _ h0
  have q := si h0; subst q
  exact sr (sa rfl (sn (SC.ret (aV (Wk.refl _) (aI rfl aG) rfl))))
noncomputable def cu (p0 : List ApiValue) : Option Bool :=
 Option.bind (dJ p0) fun r7 =>
 some (decide (r7 ≥ (0 : Int)))
theorem jF (p0 : List ApiValue) (r : Bool) (h0 : cu p0 = some r) : aL Tryz.prog 124 [.d ((eL 3 eApiValue) p0), .fn (.func 125) [] []] [] (.d (eB r)) [] := by
 unfold cu at h0
 refine fn0 [0, 1] Tryz.func124 rfl rfl rfl rfl rfl ?_
 obtain ⟨r7, G7, h0⟩ := ob h0; have q := si h0; subst q
 refine sr (sa rfl (sn (sr (sm rfl (sm rfl (c0 (kE p0 _ G7) wf rfl rfl rfl ah2 rfl (fun _ => rfl) (fun _ => rfl) (s1 (bi rfl rfl dU) (sa rfl (sn ?_)))))))))
 exact SC.ret (aV (Wk.refl _) (aI rfl aG) rfl)
noncomputable def lG (p0 : List UInt8) : Option Unit :=
 bif decide (p0.length * 1 ≤ room) then
 some ()
 else none
theorem qJ (p0 : List UInt8) (r : Unit) (h0 : lG p0 = some r) : aL Tryz.prog 99 [.ref 0 0 0, .d ((eL 1 bR) p0)] [.box (.d (.agg [.aA]))] (.tuple []) [.box (.agg [.slc 1 1 0 p0.length none]), .row 1 (List.map bR p0) true] := by
 unfold lG at h0
 refine fn0 [0, 1] Tryz.func99 rfl rfl rfl rfl rfl ?_
 obtain ⟨hg3, h0⟩ := gd h0; have q := si h0; subst q
 refine sr (sm rfl (s1 (bi (v := .d (eB true)) rfl rfl (fun _ _ => zi Qg)) (sn (cT rfl (SC.region (sm rfl (sm rfl (s1 (gJ rfl) (s1 (far (k := 0) rfl wP bS rfl) ?_)))))))))
 exact s1 (aS rfl (aj bS gL rfl rfl)) (sm rfl (s1 (app rfl rfl rfl rfl yX (aN (f := bR) (k := 1) bW DT AO hg3 rfl)) (s1 (gJ rfl) (s1 (far (k := 0) rfl wP bS rfl) (s0 (fJ rfl rfl (sB (d' := .agg [.slc 1 1 0 p0.length none]) bS rfl rfl rfl rfl rfl rfl rfl)) (SO.nil (kG (Wk.refl _) aG rfl)))))))
noncomputable def mG (p0 : Bool) : Option ((List UInt8)) :=
 bif p0 then
 Option.bind (lG [(1 : UInt8)]) fun _ =>
 some [(1 : UInt8)]
 else
 Option.bind (lG [(0 : UInt8)]) fun _ =>
 some [(0 : UInt8)]
theorem Dp (p0 : Bool) (r : (List UInt8)) (h0 : mG p0 = some r) : aL Tryz.prog 100 [.ref 0 0 0, .d (eB p0)] [.box (.d (.agg [.aA]))] (.tuple []) [.box (.agg [.slc 1 1 0 r.length none]), .row 1 (List.map bR r) true] := by
 unfold mG at h0
 refine fn0 [0, 1] Tryz.func100 rfl rfl rfl rfl rfl ?_
 refine sr (sm rfl (sn (cB h0 rfl (fun h0 => ?_) (fun h0 => ?_))))
 ·obtain ⟨_, G7, h0⟩ := ob h0; have q := si h0; subst q
  exact SC.region (sm rfl (s1 (tH (k := 1) (ds := List.map bR [(1 : UInt8)]) (off := 0) (l' := [(1 : UInt8)].length) rfl bW DT rfl rfl (by rfl) rfl rfl rfl) (cq (args' := [.ref 0 0 0, .slc 1 1 0 ([(1 : UInt8)].length) none]) (lT := [.box (.d (.agg [.aA])), .row 1 (List.map bR [(1 : UInt8)]) true]) [0, 1] [2] (aL.lX (fM.keep (fM.lX (fF rfl rfl rfl) (fM.nil _))) (fq [0] [2] (qJ [(1 : UInt8)] _ G7) rfl rfl rfl rfl rfl rfl rfl rfl)) wf rfl rfl rfl Py rfl rfl rfl rfl rfl rfl rfl rfl (SO.nil (kG (wc (e' := []) [0, 2] [0] (by kernel_rfl) rfl (by kernel_rfl)) aG rfl)))))
 ·obtain ⟨_, hq7, h0⟩ := ob h0; have q := si h0; subst q
  exact SC.region (sm rfl (s1 (tH (k := 1) (ds := List.map bR [(0 : UInt8)]) (off := 0) (l' := [(0 : UInt8)].length) rfl bW DT rfl rfl (by rfl) rfl rfl rfl) (cq (args' := [.ref 0 0 0, .slc 1 1 0 ([(0 : UInt8)].length) none]) (lT := [.box (.d (.agg [.aA])), .row 1 (List.map bR [(0 : UInt8)]) true]) [0, 1] [2] (aL.lX (fM.keep (fM.lX (fF rfl rfl rfl) (fM.nil _))) (fq [0] [2] (qJ [(0 : UInt8)] _ hq7) rfl rfl rfl rfl rfl rfl rfl rfl)) wf rfl rfl rfl Py rfl rfl rfl rfl rfl rfl rfl rfl (SO.nil (kG (wc (e' := []) [0, 2] [0] (by kernel_rfl) rfl (by kernel_rfl)) aG rfl)))))
noncomputable def gN (p0 : List UInt8) (p1 : List UInt8) : Option Unit :=
 bif decide ((p1.length + p0.length) * 1 ≤ room) then
 some ()
 else none
theorem ku (p0 : List UInt8) (p1 : List UInt8) (r : Unit) (h0 : gN p0 p1 = some r) : aL Tryz.prog 99 [.ref 0 0 0, .d ((eL 1 bR) p0)] [.box (.agg [.slc 1 1 0 p1.length none]), .row 1 (List.map bR p1) true] (.tuple []) [.box (.agg [.slc 2 1 0 ((p1 ++ p0).length) none]), .dead, .row 1 (List.map bR (p1 ++ p0)) true] := by
 unfold gN at h0
 refine fn0 [0, 1] Tryz.func99 rfl rfl rfl rfl rfl ?_
 obtain ⟨hg3, h0⟩ := gd h0; have q := si h0; subst q
 refine sr (sm rfl (s1 (bi (v := .d (eB true)) rfl rfl (fun _ _ => zi Qg)) (sn (cT rfl (SC.region (sm rfl (sm rfl (s1 (gJ rfl) (s1 (far (k := 0) rfl wP bS rfl) ?_)))))))))
 exact s1 (aS rfl (aj bS gL rfl rfl)) (sm rfl (s1 (app rfl rfl rfl rfl yX (aF (f := bR) (xs := p1) (k := 2) rfl bW DT rfl AO hg3 rfl)) (s1 (gJ rfl) (s1 (far (k := 0) rfl wP bS rfl) (s0 (fJ rfl rfl (sB (d' := .agg [.slc 2 1 0 ((p1 ++ p0).length) none]) bS rfl rfl rfl rfl rfl rfl rfl)) (SO.nil (kG (Wk.refl _) aG rfl)))))))
noncomputable def jJ (p0 : UInt16) (p1 : List UInt8) : Option Unit :=
 Option.bind (gN [((dM p0 8).toUInt8), (p0.toUInt8)] p1) fun _ =>
 some ()
theorem qL (p0 : UInt16) (p1 : List UInt8) (r : Unit) (h0 : jJ p0 p1 = some r) : aL Tryz.prog 122 [.ref 0 0 0, .d (Pp p0)] [.box (.agg [.slc 1 1 0 p1.length none]), .row 1 (List.map bR p1) true] (.tuple []) [.box (.agg [.slc 2 1 0 ((p1 ++ [((dM p0 8).toUInt8), (p0.toUInt8)]).length) none]), .dead, .row 1 (List.map bR (p1 ++ [((dM p0 8).toUInt8), (p0.toUInt8)])) true] := by
 unfold jJ at h0
 refine fn0 [0, 1] Tryz.func122 rfl rfl rfl rfl rfl ?_
 obtain ⟨_, hq3, h0⟩ := ob h0; have q := si h0; subst q
 refine SC.region (sm rfl (sm rfl (s1 (bi (v := .d (Pp (dM p0 8))) rfl rfl (fun X Y => R3 _ X Y p0 _ (by decide))) (s1 (tF rfl (JC LZ uX (dM p0 8))) (sm rfl (s1 (tF rfl (JC LZ uX p0)) (s1 (tH (k := 2) (ds := List.map bR [((dM p0 8).toUInt8), (p0.toUInt8)]) (off := 0) (l' := [((dM p0 8).toUInt8), (p0.toUInt8)].length) rfl bW DT rfl rfl (by rfl) rfl rfl rfl) (cq (args' := [.ref 0 0 0, .slc 1 1 0 ([((dM p0 8).toUInt8), (p0.toUInt8)].length) none]) (lT := [.box (.agg [.slc 2 1 0 p1.length none]), .row 1 (List.map bR [((dM p0 8).toUInt8), (p0.toUInt8)]) true, .row 1 (List.map bR p1) true]) [0, 2, 1] [3] (aL.lX (fM.keep (fM.lX (fF rfl rfl rfl) (fM.nil _))) (fq [0, 2] [3] (ku [((dM p0 8).toUInt8), (p0.toUInt8)] p1 _ hq3) rfl rfl rfl rfl rfl rfl rfl rfl)) wf rfl rfl rfl Py rfl rfl rfl rfl rfl rfl rfl rfl (SO.nil ?_)))))))))
 exact kG (wc (e' := []) [0, 1, 3] [0, 1] (by kernel_rfl) rfl (by kernel_rfl)) aG rfl
noncomputable def lH (p0 : UInt32) (p1 : List UInt8) : Option Unit :=
 Option.bind (jJ ((eu p0 16).toUInt16) p1) fun _ =>
 Option.bind (jJ (p0.toUInt16) (p1 ++ [((dM ((eu p0 16).toUInt16) 8).toUInt8), (((eu p0 16).toUInt16).toUInt8)])) fun _ =>
 some ()
theorem xC (p0 : UInt32) (p1 : List UInt8) (r : Unit) (h0 : lH p0 p1 = some r) : aL Tryz.prog 121 [.ref 0 0 0, .d (RG p0)] [.box (.agg [.slc 1 1 0 p1.length none]), .row 1 (List.map bR p1) true] (.tuple []) [.box (.agg [.slc 2 1 0 (((p1 ++ [((dM ((eu p0 16).toUInt16) 8).toUInt8), (((eu p0 16).toUInt16).toUInt8)]) ++ [((dM (p0.toUInt16) 8).toUInt8), ((p0.toUInt16).toUInt8)]).length) none]), .dead, .row 1 (List.map bR ((p1 ++ [((dM ((eu p0 16).toUInt16) 8).toUInt8), (((eu p0 16).toUInt16).toUInt8)]) ++ [((dM (p0.toUInt16) 8).toUInt8), ((p0.toUInt16).toUInt8)])) true] := by
 unfold lH at h0
 refine fn0 [0, 1] Tryz.func121 rfl rfl rfl rfl rfl ?_
 obtain ⟨_, XP, h0⟩ := ob h0; obtain ⟨_, G7, h0⟩ := ob h0; have q := si h0; subst q
 refine sr (sm rfl (sm rfl (s1 (bi (v := .d (RG (eu p0 16))) rfl rfl (fun X Y => RZ _ X Y p0 _ (by decide))) (s1 (tF rfl (Hu Qf LZ (eu p0 16))) (cq [0, 1] [2] (qL ((eu p0 16).toUInt16) p1 _ XP) wf rfl rfl rfl VK rfl rfl rfl rfl rfl rfl rfl rfl (sn (SC.region (sm rfl (sm rfl ?_)))))))))
 exact s1 (tF rfl (Hu Qf LZ p0)) (cq [0, 2] [3] (qL (p0.toUInt16) (p1 ++ [((dM ((eu p0 16).toUInt16) 8).toUInt8), (((eu p0 16).toUInt16).toUInt8)]) _ G7) wf rfl rfl rfl VK rfl rfl rfl rfl rfl rfl rfl rfl (SO.nil (kG (wc (e' := []) [0, 1, 3] [0, 1] (by kernel_rfl) rfl (by kernel_rfl)) aG rfl)))
noncomputable def jI (p0 : UInt64) (p1 : List UInt8) : Option Unit :=
 Option.bind (lH ((bZ p0 32).toUInt32) p1) fun _ =>
 Option.bind (lH (p0.toUInt32) ((p1 ++ [((dM ((eu ((bZ p0 32).toUInt32) 16).toUInt16) 8).toUInt8), (((eu ((bZ p0 32).toUInt32) 16).toUInt16).toUInt8)]) ++ [((dM (((bZ p0 32).toUInt32).toUInt16) 8).toUInt8), ((((bZ p0 32).toUInt32).toUInt16).toUInt8)])) fun _ =>
 some ()
theorem qK (p0 : UInt64) (p1 : List UInt8) (r : Unit) (h0 : jI p0 p1 = some r) : aL Tryz.prog 101 [.ref 0 0 0, .d (eU64 p0)] [.box (.agg [.slc 1 1 0 p1.length none]), .row 1 (List.map bR p1) true] (.tuple []) [.box (.agg [.slc 2 1 0 (((((p1 ++ [((dM ((eu ((bZ p0 32).toUInt32) 16).toUInt16) 8).toUInt8), (((eu ((bZ p0 32).toUInt32) 16).toUInt16).toUInt8)]) ++ [((dM (((bZ p0 32).toUInt32).toUInt16) 8).toUInt8), ((((bZ p0 32).toUInt32).toUInt16).toUInt8)]) ++ [((dM ((eu (p0.toUInt32) 16).toUInt16) 8).toUInt8), (((eu (p0.toUInt32) 16).toUInt16).toUInt8)]) ++ [((dM ((p0.toUInt32).toUInt16) 8).toUInt8), (((p0.toUInt32).toUInt16).toUInt8)]).length) none]), .dead, .row 1 (List.map bR ((((p1 ++ [((dM ((eu ((bZ p0 32).toUInt32) 16).toUInt16) 8).toUInt8), (((eu ((bZ p0 32).toUInt32) 16).toUInt16).toUInt8)]) ++ [((dM (((bZ p0 32).toUInt32).toUInt16) 8).toUInt8), ((((bZ p0 32).toUInt32).toUInt16).toUInt8)]) ++ [((dM ((eu (p0.toUInt32) 16).toUInt16) 8).toUInt8), (((eu (p0.toUInt32) 16).toUInt16).toUInt8)]) ++ [((dM ((p0.toUInt32).toUInt16) 8).toUInt8), (((p0.toUInt32).toUInt16).toUInt8)])) true] := by
 unfold jI at h0
 refine fn0 [0, 1] Tryz.func101 rfl rfl rfl rfl rfl ?_
 obtain ⟨_, XP, h0⟩ := ob h0; obtain ⟨_, G7, h0⟩ := ob h0; have q := si h0; subst q
 refine sr (sm rfl (sm rfl (s1 (bi (v := .d (eU64 (bZ p0 32))) rfl rfl (fun X Y => zq _ X Y p0 _ (by decide))) (s1 (tF rfl (Ht uD Qf (bZ p0 32))) (cq [0, 1] [2] (xC ((bZ p0 32).toUInt32) p1 _ XP) wf rfl rfl rfl aag rfl rfl rfl rfl rfl rfl rfl rfl (sn (SC.region (sm rfl (sm rfl ?_)))))))))
 exact s1 (tF rfl (Ht uD Qf p0)) (cq [0, 2] [3] (xC (p0.toUInt32) ((p1 ++ [((dM ((eu ((bZ p0 32).toUInt32) 16).toUInt16) 8).toUInt8), (((eu ((bZ p0 32).toUInt32) 16).toUInt16).toUInt8)]) ++ [((dM (((bZ p0 32).toUInt32).toUInt16) 8).toUInt8), ((((bZ p0 32).toUInt32).toUInt16).toUInt8)]) _ G7) wf rfl rfl rfl aag rfl rfl rfl rfl rfl rfl rfl rfl (SO.nil (kG (wc (e' := []) [0, 1, 3] [0, 1] (by kernel_rfl) rfl (by kernel_rfl)) aG rfl)))
noncomputable def kP (p0 : UInt8) (p1 : List UInt8) : Option Unit :=
 Option.bind (gN [p0] p1) fun _ =>
 some ()
theorem yG (p0 : UInt8) (p1 : List UInt8) (r : Unit) (h0 : kP p0 p1 = some r) : aL Tryz.prog 65 [.ref 0 0 0, .d (bR p0)] [.box (.agg [.slc 1 1 0 p1.length none]), .row 1 (List.map bR p1) true] (.tuple []) [.box (.agg [.slc 2 1 0 ((p1 ++ [p0]).length) none]), .dead, .row 1 (List.map bR (p1 ++ [p0])) true] := by
 unfold kP at h0
 refine fn0 [0, 1] Tryz.func65 rfl rfl rfl rfl rfl ?_
 obtain ⟨_, hq3, h0⟩ := ob h0; have q := si h0; subst q
 exact SC.region (sm rfl (sm rfl (s1 (tH (k := 2) (ds := List.map bR [p0]) (off := 0) (l' := [p0].length) rfl bW DT rfl rfl (by rfl) rfl rfl rfl) (cq (args' := [.ref 0 0 0, .slc 1 1 0 ([p0].length) none]) (lT := [.box (.agg [.slc 2 1 0 p1.length none]), .row 1 (List.map bR [p0]) true, .row 1 (List.map bR p1) true]) [0, 2, 1] [3] (aL.lX (fM.keep (fM.lX (fF rfl rfl rfl) (fM.nil _))) (fq [0, 2] [3] (ku [p0] p1 _ hq3) rfl rfl rfl rfl rfl rfl rfl rfl)) wf rfl rfl rfl Py rfl rfl rfl rfl rfl rfl rfl rfl (SO.nil (kG (wc (e' := []) [0, 1, 3] [0, 1] (by kernel_rfl) rfl (by kernel_rfl)) aG rfl))))))
noncomputable def gP (p0 : List UInt8) : Option Unit :=
 bif decide (p0.length * 1 ≤ room) then
 some ()
 else none
theorem tV (p0 : List UInt8) (r : Unit) (h0 : gP p0 = some r) : aL Tryz.prog 67 [.ref 0 0 0] [.box (.agg [.slc 1 1 0 p0.length none]), .row 1 (List.map bR p0) true] (.slc 2 1 0 p0.length none) [.box (.agg [.slc 1 1 0 p0.length none]), .row 1 (List.map bR p0) true, .row 1 (List.map bR p0) true] := by
 unfold gP at h0
 refine fn0 [0] Tryz.func67 rfl rfl rfl rfl rfl ?_
 obtain ⟨hg3, h0⟩ := gd h0; have q := si h0; subst q
 refine sr (s1 (ig (v := .d .aA) rfl) (sn (sq (sr (sm rfl (s1 (bi (v := .d (eB false)) rfl rfl (fun _ _ => uf Qg)) (sn (cF rfl (sk ?_)))))))))
 exact sr (sm rfl (s1 (gJ rfl) (s1 (far (k := 0) rfl wP bS rfl) (s1 (aS rfl (aj bS gL rfl rfl)) (s1 (app rfl rfl rfl rfl yX (aN (f := bR) (k := 2) bW DT (dx (xs := p0) rfl) hg3 rfl)) (sa rfl (sn (SC.ret (aV (Wk.refl _) (aI rfl aG) rfl)))))))))
noncomputable def mZ (p0 : List UInt8) : Option ((List UInt8)) :=
 Option.bind (α := (List UInt8))
 (Option.bind (α := (List UInt8))
 (loop (Y := (List UInt8) × Int) (W := (List UInt8)) (fun (Ee, Ip) =>
 bif (decide (Ip < (p0.length : Int))) then
 Option.bind (bF Ee Ip) fun v83 =>
 Option.bind (bF Ee Ip) fun v84 =>
 some (Sum.inl ((List.set Ee Ip.toNat (~~~ v83)), (bD (Ip + (1 : Int)))))
 else
 some (Sum.inr Ee)) (p0, (0 : Int)))
 (fun e => some e))
 fun JI =>
 some JI
theorem IY (p0 : List UInt8) (r : (List UInt8)) (h0 : mZ p0 = some r) : aL Tryz.prog 133 [.slc 0 1 0 p0.length none] [.row 1 (List.map bR p0) true] (.slc 0 1 0 r.length none) [.row 1 (List.map bR r) true] := by
 unfold mZ at h0
 refine fn0 [0] Tryz.func133 rfl rfl rfl rfl rfl ?_
 refine sr (s1 (ig (v := .d .aA) rfl) (sn (SC.bJ h0 (fun y => ⟨mk 19 [(0, .slc 0 1 0 y.length none)], [.row 1 (List.map bR y) true]⟩) ?_ ?_)))
 ·intro Uc h1
  obtain ⟨T9, h2, h1⟩ := ob h1
  refine sr (sm rfl (s1 (len rfl rfl rfl (dS bW)) (sm rfl (sn (SC.blk (SC.dH h2 (fun y => ⟨mk 19 [(0, .slc 0 1 0 y.1.length none), (5, .d (eI (p0.length : Int))), (6, .d (eI y.2))], [.row 1 (List.map bR y.1) true]⟩) (wq rfl) ?_))))))
  intro n85
  rintro ⟨Ee, Ip⟩ TI h3 hv3
  refine sr (s1 (bi rfl rfl aQ) (sn (sq (cB h3 rfl (fun h3 => ?_) (fun h3 => ?_)))))
  ·obtain ⟨v83, G5, h3⟩ := ob h3; obtain ⟨v84, aft, h3⟩ := ob h3
   refine sk (sq (SC.blk (sr (sm rfl (sa rfl (sn (SC.region (sm rfl (sm rfl ?_)))))))))
   refine sm rfl (sm rfl (s1 (CB rfl rfl bW qQ (fT G5)) (s1 (aS rfl (gH qQ Ov rfl (aT (ak G5).2) rfl)) (s1 (uo rfl rfl (Q8 v83)) (s1 (CB rfl rfl bW qQ (fT aft)) (s0 (fJ (b := .d (bR (~~~ v83))) rfl rfl (sR (f := bR) (v := (~~~ v83)) qQ rfl rfl rfl rfl (ak aft).2 rfl rfl)) (SO.nil ?_)))))))
   change SC _ _ _ _ _
   have q := si h3; subst q
   exact SC.region (s1 (bi rfl rfl aR) (sm rfl (SO.nil (lf (Wk.env (EW.cons (AW.slc rfl (by simp)) (EW.cons (AW.refl _) (EW.cons (AW.refl _) EW.nil))))))))
  ·have q := si h3; subst q; have q : _ = _ := hv3; subst q; have q := si h1; subst q
   exact SC.exit ((wq rfl))
 ·rintro JI h0
  have q := si h0; subst q
  exact sr (sm rfl (sa rfl (sn (SC.ret (aV (Wk.refl _) (aI rfl aG) rfl)))))
noncomputable def zk (p0 : ApiValue) (p1 : Bool) : Option ((List UInt8)) :=
 Option.bind (mG (p0.Kind != (0 : Int))) fun Ql =>
 Option.bind (α := (List UInt8))
 (bif (p0.Kind == (1 : Int)) then
 Option.bind (jI (p0.N ^^^ (9223372036854775808 : UInt64)) Ql) fun _ =>
 some ((((Ql ++ [((dM ((eu ((bZ (p0.N ^^^ (9223372036854775808 : UInt64)) 32).toUInt32) 16).toUInt16) 8).toUInt8), (((eu ((bZ (p0.N ^^^ (9223372036854775808 : UInt64)) 32).toUInt32) 16).toUInt16).toUInt8)]) ++ [((dM (((bZ (p0.N ^^^ (9223372036854775808 : UInt64)) 32).toUInt32).toUInt16) 8).toUInt8), ((((bZ (p0.N ^^^ (9223372036854775808 : UInt64)) 32).toUInt32).toUInt16).toUInt8)]) ++ [((dM ((eu ((p0.N ^^^ (9223372036854775808 : UInt64)).toUInt32) 16).toUInt16) 8).toUInt8), (((eu ((p0.N ^^^ (9223372036854775808 : UInt64)).toUInt32) 16).toUInt16).toUInt8)]) ++ [((dM (((p0.N ^^^ (9223372036854775808 : UInt64)).toUInt32).toUInt16) 8).toUInt8), ((((p0.N ^^^ (9223372036854775808 : UInt64)).toUInt32).toUInt16).toUInt8)])
 else
 bif (p0.Kind == (2 : Int)) then
 Option.bind (jI p0.N Ql) fun _ =>
 some ((((Ql ++ [((dM ((eu ((bZ p0.N 32).toUInt32) 16).toUInt16) 8).toUInt8), (((eu ((bZ p0.N 32).toUInt32) 16).toUInt16).toUInt8)]) ++ [((dM (((bZ p0.N 32).toUInt32).toUInt16) 8).toUInt8), ((((bZ p0.N 32).toUInt32).toUInt16).toUInt8)]) ++ [((dM ((eu (p0.N.toUInt32) 16).toUInt16) 8).toUInt8), (((eu (p0.N.toUInt32) 16).toUInt16).toUInt8)]) ++ [((dM ((p0.N.toUInt32).toUInt16) 8).toUInt8), (((p0.N.toUInt32).toUInt16).toUInt8)])
 else
 bif (p0.Kind == (3 : Int)) then
 Option.bind (kP (p0.N.toUInt8) Ql) fun _ =>
 some (Ql ++ [(p0.N.toUInt8)])
 else
 some Ql)
 fun Tk =>
 Option.bind (gP Tk) fun _ =>
 Option.bind (α := (List UInt8))
 (Option.bind (α := Bool)
 (bif (p0.Kind == (4 : Int)) then
 some true
 else
 some (p0.Kind == (5 : Int)))
 fun Ee =>
 bif Ee then
 Option.bind (Jl p0.S ([0] : List UInt8) ([0, 255] : List UInt8)) fun Uu =>
 bif decide ((Tk.length + Uu.length) * 1 ≤ room) then
 bif decide (((Tk ++ Uu).length + [(0 : UInt8), (0 : UInt8)].length) * 1 ≤ room) then
 some ((Tk ++ Uu) ++ [(0 : UInt8), (0 : UInt8)])
 else none
 else none
 else
 some Tk)
 fun SS =>
 bif p1 then
 Option.bind (mZ SS) fun r82 =>
 some r82
 else
 some SS
theorem OU (p0 : ApiValue) (p1 : Bool) (r : (List UInt8)) (h0 : zk p0 p1 = some r) : aL Tryz.prog 126 [.d (eApiValue p0), .d (eB p1)] [] (.d ((eL 1 bR) r)) [] := by
 unfold zk at h0
 refine fn0 [0, 1] Tryz.func126 rfl rfl rfl rfl rfl ?_
 obtain ⟨Ql, abP, h0⟩ := ob h0
 refine sr (s1 (nH (k := 0) rfl rfl rfl) (s1 (ig (v := .d .aA) rfl) (sn (sr (s1 (qV (k := 1) Yx rfl) (sn (sr (s1 (far (k := 0) rfl fH bO rfl) (s1 (aS rfl (aj bO dW rfl rfl)) ?_)))))))))
 refine s1 (bi rfl rfl bA) (cq [1] [2] (Dp (p0.Kind != (0 : Int)) _ abP) wf rfl rfl rfl aai rfl rfl rfl rfl rfl rfl rfl rfl (sn (SC.bJ h0 (fun y => ⟨mk 51 [(1, .d (eB p1)), (2, .ref 0 0 0), (5, .ref 1 0 0)], [.box (.d (eApiValue p0)), .box (.agg [.slc 2 1 0 y.length none]), .row 1 (List.map bR y) true]⟩) ?_ ?_)))
 ·intro anU h1
  refine sr (s1 (far (k := 0) rfl fH bO rfl) (s1 (aS rfl (aj bO dW rfl rfl)) (sn (SC.blk (sr (s1 (bi rfl rfl aP) (sa rfl (sn (cB h1 rfl (fun h1 => ?_) (fun h1 => ?_))))))))))
  ·obtain ⟨_, amd, h1⟩ := ob h1; have q := si h1; subst q
   exact SC.region (s1 (far (k := 1) rfl iK fU rfl) (s1 (aS rfl (aj fU lY rfl rfl)) (s1 (bi rfl rfl (Jo (b := (9223372036854775808 : UInt64)))) (cq [1, 2] [3] (qK (p0.N ^^^ (9223372036854775808 : UInt64)) Ql _ amd) wf rfl rfl rfl VN rfl rfl rfl rfl rfl rfl rfl rfl (SO.nil ((wc [0, 1, 3] [0, 1] (by kernel_rfl) rfl (by kernel_rfl))))))))
  ·refine sr (s1 (bi rfl rfl aP) (sa rfl (sn (cB h1 rfl (fun h1 => ?_) (fun h1 => ?_)))))
   ·obtain ⟨_, amc, h1⟩ := ob h1; have q := si h1; subst q
    exact SC.region (s1 (far (k := 1) rfl iK fU rfl) (s1 (aS rfl (aj fU lY rfl rfl)) (cq [1, 2] [3] (qK p0.N Ql _ amc) wf rfl rfl rfl VN rfl rfl rfl rfl rfl rfl rfl rfl (SO.nil ((wc [0, 1, 3] [0, 1] (by kernel_rfl) rfl (by kernel_rfl)))))))
   ·refine sr (s1 (bi rfl rfl aP) (sa rfl (sn (cB h1 rfl (fun h1 => ?_) (fun h1 => ?_)))))
    ·obtain ⟨_, amb, h1⟩ := ob h1; have q := si h1; subst q
     exact SC.region (s1 (far (k := 1) rfl iK fU rfl) (s1 (aS rfl (aj fU lY rfl rfl)) (s1 (tF rfl (o9 uD uX p0.N)) (cq [1, 2] [3] (yG (p0.N.toUInt8) Ql _ amb) wf rfl rfl rfl acO rfl rfl rfl rfl rfl rfl rfl rfl (SO.nil ((wc [0, 1, 3] [0, 1] (by kernel_rfl) rfl (by kernel_rfl))))))))
    ·have q := si h1; subst q
     exact SC.skip ((wq rfl))
 ·rintro Tk h0
  obtain ⟨_, abN, h0⟩ := ob h0
  refine sr (cq [1, 2] [3] (tV Tk _ abN) wf rfl rfl rfl ahN rfl rfl rfl rfl rfl rfl rfl rfl (sa rfl (sn (SC.bJ h0 (fun y => ⟨mk 51 [(1, .d (eB p1)), (6, .slc 0 1 0 y.length none)], [.row 1 (List.map bR y) true]⟩) ?_ ?_))))
  ·intro Ub h1
   refine SC.bJ h1 (fun y => ⟨mk 51 [(1, .d (eB p1)), (2, .ref 0 0 0), (6, .slc 1 1 0 Tk.length none), (38, .d (eB y))], [.box (.d (eApiValue p0)), .row 1 (List.map bR Tk) true]⟩) ?_ ?_
   ·intro anK h2
    refine SC.region (s1 (far (k := 0) rfl fH bO rfl) (s1 (aS rfl (aj bO dW rfl rfl)) (s1 (bi rfl rfl aP) (sm rfl (sp h2 (fun h2 => ?_) (fun h2 => ?_))))))
    ·have q := si h2; subst q
     exact kw rfl (kw rfl (kw rfl (s1 (pkt rfl rfl) (SO.nil ((wc [0, 3] [0, 3] (by kernel_rfl) rfl (by kernel_rfl)))))))
    ·have q := si h2; subst q
     exact gw rfl (far (k := 0) rfl fH bO rfl) (gw rfl (aS rfl (aj bO dW rfl rfl)) (gw rfl (bi rfl rfl aP) (s1 (dB rfl rfl) (SO.nil ((wc [0, 3] [0, 3] (by kernel_rfl) rfl (by kernel_rfl)))))))
   ·rintro Ee h1
    refine cB h1 rfl (fun h1 => ?_) (fun h1 => ?_)
    ·obtain ⟨Uu, abK, h1⟩ := ob h1; obtain ⟨amH, h1⟩ := gd h1; obtain ⟨amG, h1⟩ := gd h1; have q := si h1; subst q
     refine sr (sm rfl (s1 (far (k := 2) rfl iO eT rfl) (s1 (aS rfl (aj eT jy rfl rfl)) (c0 (Xn p0.S ([0] : List UInt8) ([0, 255] : List UInt8) _ abK) wf rfl rfl rfl ah1 rfl (fun _ => rfl) (fun _ => rfl) (s1 (app rfl rfl rfl rfl bc9 (aF (f := bR) (xs := Tk) (k := 2) rfl bW DT rfl Pn amH rfl)) (sa rfl (sn (SC.region (sm rfl ?_)))))))))
     exact s1 (tH (k := 3) (ds := List.map bR [(0 : UInt8), (0 : UInt8)]) (off := 0) (l' := [(0 : UInt8), (0 : UInt8)].length) rfl bW DT rfl rfl (by rfl) rfl rfl rfl) (s1 (app rfl rfl rfl rfl yX (aF (f := bR) (xs := (Tk ++ Uu)) (k := 4) rfl bW DT rfl (dx (xs := [(0 : UInt8), (0 : UInt8)]) rfl) amG rfl)) (sa rfl (SO.nil ((wc [4] [4] (by kernel_rfl) rfl (by kernel_rfl))))))
    ·have q := si h1; subst q
     exact SC.skip ((wc [1] [1] (by kernel_rfl) rfl (by kernel_rfl)))
  ·rintro SS h0
   refine sq (sr (sm rfl (sn (cB h0 rfl (fun h0 => ?_) (fun h0 => ?_)))))
   ·obtain ⟨r82, abJ, h0⟩ := ob h0; have q := si h0; subst q
    exact sr (sm rfl (cq [0] [] (IY SS _ abJ) wf rfl rfl rfl ah0 rfl rfl rfl rfl rfl rfl rfl rfl (sa rfl (sn (SC.ret (aV (Wk.trans (Wk.lX (i := 4) (x := .slc 0 1 0 r82.length none) rfl rfl (fF rfl rfl rfl)) (wc (e' := [(4, .d ((eL 1 bR) r82))]) [] [] (by kernel_rfl) rfl (by kernel_rfl))) (aI rfl aG) rfl))))))
   ·have q := si h0; subst q
    exact sk (sr (sm rfl (sa rfl (sn (SC.ret (aV (Wk.trans (Wk.lX (i := 4) (x := .slc 0 1 0 SS.length none) rfl rfl (fF rfl rfl rfl)) (wc (e' := [(4, .d ((eL 1 bR) SS))]) [] [] (by kernel_rfl) rfl (by kernel_rfl))) (aI rfl aG) rfl))))))
noncomputable def oU (p0 : List ApiValue) (p1 : List Bool) : Option ((List UInt8) × Int) :=
 bif ((p0.length : Int) != (p1.length : Int)) then
 some (([] : List UInt8), (1 : Int))
 else
 Option.bind (cu p0) fun afk =>
 bif afk then
 some (([] : List UInt8), (8 : Int))
 else
 Option.bind (α := (List UInt8))
 (Option.bind (α := (List UInt8))
 (loop (Y := (List UInt8) × Int) (W := (List UInt8)) (fun (LH, Bf) =>
 bif (decide (Bf < (p0.length : Int))) then
 Option.bind (bF p0 Bf) fun v141 =>
 Option.bind (bF p1 Bf) fun aaM =>
 Option.bind (zk v141 aaM) fun abm =>
 bif decide ((LH.length + abm.length) * 1 ≤ room) then
 some (Sum.inl ((LH ++ abm), (bD (Bf + (1 : Int)))))
 else none
 else
 some (Sum.inr LH)) (([] : List UInt8), (0 : Int)))
 (fun e => some e))
 fun EN =>
 bif (decide ((EN.length : Int) > (256 : Int))) then
 some (([] : List UInt8), (7 : Int))
 else
 some (EN, (0 : Int))
theorem I4 (p0 : List ApiValue) (p1 : List Bool) (r : (List UInt8) × Int) (h0 : oU p0 p1 = some r) : aL Tryz.prog 107 [.d ((eL 3 eApiValue) p0), .d ((eL 1 eB) p1)] [] (.tuple [.d (eS r.1), .d (eI r.2)]) [] := by
 unfold oU at h0
 refine fn0 [0, 1] Tryz.func107 rfl rfl rfl rfl rfl ?_
 refine sr (s1 (ig (v := .d (eS ([] : List UInt8))) rfl) (sa rfl (sn (sq (sr (sm rfl (s1 (len rfl rfl rfl (aZ fu)) (sm rfl (s1 (len rfl rfl rfl (aZ F3)) ?_)))))))))
 refine s1 (bi rfl rfl bA) (sn (cB h0 rfl (fun h0 => ?_) (fun h0 => ?_)))
 ·have q := si h0; subst q
  exact sr (s1 (ig (v := .d (eS ([] : List UInt8))) rfl) (sa rfl (sn (SC.ret (aV (Wk.refl _) (aI rfl (aI rfl aG)) rfl)))))
 ·obtain ⟨afk, al3, h0⟩ := ob h0
  refine sk (sq (sr (sm rfl (c0 (jF p0 _ al3) wf rfl rfl rfl ah6 rfl (fun _ => rfl) (fun _ => rfl) (sn (cB h0 rfl (fun h0 => ?_) (fun h0 => ?_)))))))
  ·have q := si h0; subst q
   exact sr (s1 (ig (v := .d (eS ([] : List UInt8))) rfl) (sa rfl (sn (SC.ret (aV (Wk.refl _) (aI rfl (aI rfl aG)) rfl)))))
  ·refine sk (sr (s1 (ig (v := .d .aA) rfl) (sn (SC.bJ h0 (fun y => ⟨mk 37 [(6, .slc 0 1 0 y.length none)], [.row 1 (List.map bR y) true]⟩) ?_ ?_))))
   ·intro alx h1
    obtain ⟨aaS, h2, h1⟩ := ob h1
    refine sr (sm rfl (s1 (len rfl rfl rfl (aZ fu)) (sm rfl (sn (SC.blk (SC.dH h2 (fun y => ⟨mk 37 [(1, .d ((eL 1 eB) p1)), (6, .slc 0 1 0 y.1.length none), (16, .d ((eL 3 eApiValue) p0)), (17, .d (eI (p0.length : Int))), (18, .d (eI y.2))], [.row 1 (List.map bR y.1) true]⟩) (Wk.trans (Wk.dD (σ' := [.row 1 (List.map bR ([] : List UInt8)) true]) (.row 1 [] true) (fun _ hh => by cases hh) rfl) (Wk.trans (Wk.env (e' := [(1, .d ((eL 1 eB) p1)), (6, .slc 0 1 0 (([] : List UInt8).length) none), (16, .d ((eL 3 eApiValue) p0)), (17, .d (eI (p0.length : Int))), (18, .d (eI (0 : Int)))]) (EW.cons (AW.refl _) (EW.cons (AW.dX _ _ _) (EW.cons (AW.refl _) (EW.cons (AW.refl _) (EW.cons (AW.refl _) EW.nil)))))) (wq rfl))) ?_))))))
    intro n146
    rintro ⟨LH, Bf⟩ ajw h3 hv3
    refine sr (s1 (bi rfl rfl aQ) (sn (sq (cB h3 rfl (fun h3 => ?_) (fun h3 => ?_)))))
    ·obtain ⟨v141, ZT, h3⟩ := ob h3; obtain ⟨aaM, ZR, h3⟩ := ob h3; obtain ⟨abm, agL, h3⟩ := ob h3; obtain ⟨ahl, h3⟩ := gd h3
     refine sk (sq (SC.blk (sr (sm rfl (s1 (j4 rfl rfl fu d9 (ak ZT).1 (aT (ak ZT).2) rfl) (s1 (aS (v := .d (eApiValue v141)) rfl (bK d9 kD rfl)) (s1 (qV (k := 1) JH rfl) (sa rfl (s0 (fJ rfl rfl (sB (d' := .d (eApiValue v141)) d9 rfl rfl rfl rfl rfl rfl rfl)) ?_)))))))))
     refine sn (SC.draws (by kernel_rfl) (t1 ([], false) (mv rfl) rfl (t1 ([1], false) (aS (v := .d (eApiValue v141)) rfl (aj d9 kD rfl rfl)) rfl (t1 ([], false) (mv rfl) rfl (t1 ([], false) (mv rfl) rfl (t1 ([], false) (j4 rfl rfl F3 jV (ak ZR).1 (aT (ak ZR).2) rfl) rfl (t1 ([], false) (aS rfl (bK jV zD rfl)) rfl (Lj (OU v141 aaM _ agL) wf rfl rfl rfl ah4 rfl (fun _ => rfl) (fun _ => rfl) (t1 ([0, 2], true) (app rfl rfl rfl rfl yX (aF (f := bR) (xs := LH) (k := 2) rfl bW DT rfl AO ahl rfl)) rfl ?_)))))))))
     refine t1 ([], false) (ig rfl) rfl (ST.nil (And.intro (by decide +kernel) ?_))
     change SC _ _ _ _ _
     have q := si h3; subst q
     exact SC.region (s1 (bi rfl rfl aR) (sm rfl (SO.nil (lf (wc [2] [2] (by kernel_rfl) rfl (by kernel_rfl))))))
    ·have q := si h3; subst q; have q : _ = _ := hv3; subst q; have q := si h1; subst q
     exact SC.exit ((wq rfl))
   ·rintro EN h0
    refine sq (sr (sm rfl (s1 (len rfl rfl rfl (dS bW)) (s1 (bi rfl rfl bP) (sn (cB h0 rfl (fun h0 => ?_) (fun h0 => ?_)))))))
    ·have q := si h0; subst q
     exact sr (s1 (ig (v := .d (eS ([] : List UInt8))) rfl) (sa rfl (sn (SC.ret (aV (wc (e' := [(4, .d (eS ([] : List UInt8))), (5, .d (eI (7 : Int)))]) [] [] (by kernel_rfl) rfl (by kernel_rfl)) (aI rfl (aI rfl aG)) rfl)))))
    ·have q := si h0; subst q
     exact sk (sr (sm rfl (s1 (tF (v := .d (eS EN)) rfl (iy bW l9 uX (dx (xs := EN) rfl) (fun _ hh => by cases hh))) (sa rfl (sa rfl (sn (SC.ret (aV (wc (e' := [(4, .d (eS EN)), (5, .d (eI (0 : Int)))]) [] [] (by kernel_rfl) rfl (by kernel_rfl)) (aI rfl (aI rfl aG)) rfl))))))))
noncomputable def kW (p0 : ApiTable) (p1 : List ApiPart) (p2 : List ApiValue) : Option ((List UInt8) × Bool × Int) :=
 Option.bind (vF p0.bq p2) fun OJ =>
 bif (OJ != (0 : Int)) then
 some (([] : List UInt8), false, OJ)
 else
 Option.bind (α := (List ApiValue) × (List Bool) × Bool)
 (Option.bind (α := (List ApiValue) × (List Bool) × Bool)
 (loop (Y := (List ApiValue) × (List Bool) × Bool × Int) (W := (List ApiValue) × (List Bool) × Bool) (fun (gK, QX, aaE, Tx) =>
 bif (decide (Tx < (p1.length : Int))) then
 Option.bind (bF p1 Tx) fun FU =>
 Option.bind (bF p2 FU.Col) fun LY =>
 bif decide ((gK.length + [LY].length) * 32 ≤ room) then
 bif decide ((QX.length + [FU.Down].length) * 1 ≤ room) then
 bif aaE then
 some (Sum.inl ((gK ++ [LY]), (QX ++ [FU.Down]), true, (bD (Tx + (1 : Int)))))
 else
 Option.bind (bF p2 FU.Col) fun v182 =>
 some (Sum.inl ((gK ++ [LY]), (QX ++ [FU.Down]), (v182.Kind == (0 : Int)), (bD (Tx + (1 : Int)))))
 else none
 else none
 else
 some (Sum.inr (gK, QX, aaE))) (([] : List ApiValue), ([] : List Bool), false, (0 : Int)))
 (fun e => some e))
 fun (Ac, EM, qW) =>
 Option.bind (oU Ac EM) fun (Rk, zG) =>
 some (Rk, qW, zG)
theorem wZ (p0 : ApiTable) (p1 : List ApiPart) (p2 : List ApiValue) (r : (List UInt8) × Bool × Int) (h0 : kW p0 p1 p2 = some r) : aL Tryz.prog 77 [.d (eApiTable p0), .d ((eL 2 eApiPart) p1), .d ((eL 3 eApiValue) p2)] [] (.tuple [.d (eS r.1), .d (eB r.2.1), .d (eI r.2.2)]) [] := by
 unfold kW at h0
 refine fn0 [0, 1, 2] Tryz.func77 rfl rfl rfl rfl rfl ?_
 obtain ⟨OJ, Vr, h0⟩ := ob h0
 refine sr (s1 (nH (k := 0) rfl rfl rfl) (s1 (ig (v := .d (eS ([] : List UInt8))) rfl) (sa rfl (sa rfl (sn (sq (sr (s1 (far (k := 1) rfl jr jB rfl) (s1 (aS rfl (aj jB vw rfl rfl)) ?_)))))))))
 refine sm rfl (c0 (Ep p0.bq p2 _ Vr) wf rfl rfl rfl ahO rfl (fun _ => rfl) (fun _ => rfl) (sa rfl (sn (sr (sm rfl (s1 (bi rfl rfl bA) (sn (cB h0 rfl (fun h0 => ?_) (fun h0 => ?_)))))))))
 ·have q := si h0; subst q
  exact sr (sm rfl (s1 (ig (v := .d (eS ([] : List UInt8))) rfl) (sa rfl (sa rfl (sn (SC.ret (aV (wc (e' := [(6, .d (eS ([] : List UInt8))), (7, .d (eB false)), (8, .d (eI OJ))]) [] [] (by kernel_rfl) rfl (by kernel_rfl)) (aI rfl (aI rfl (aI rfl aG))) rfl)))))))
 ·refine sk (sr (s1 (ig (v := .d .aA) rfl) (sn (sr (s1 (ig (v := .d .aA) rfl) (sn (sr (sa rfl (sn ?_)))))))))
  refine SC.bJ h0 (fun y => ⟨mk 63 [(10, .slc 0 3 0 y.1.length none), (11, .slc 1 1 0 y.2.1.length none), (12, .d (eB y.2.2))], [.row 3 (List.map eApiValue y.1) true, .row 1 (List.map eB y.2.1) true]⟩) ?_ ?_
  ·intro aaY h1
   obtain ⟨akE, h2, h1⟩ := ob h1
   refine sr (sm rfl (s1 (len rfl rfl rfl (aZ xP)) (sm rfl (sn (SC.blk (SC.dH h2 (fun y => ⟨mk 63 [(2, .d ((eL 3 eApiValue) p2)), (10, .slc 0 3 0 y.1.length none), (11, .slc 1 1 0 y.2.1.length none), (12, .d (eB y.2.2.1)), (24, .d ((eL 2 eApiPart) p1)), (25, .d (eI (p1.length : Int))), (26, .d (eI y.2.2.2))], [.row 3 (List.map eApiValue y.1) true, .row 1 (List.map eB y.2.1) true]⟩) (Wk.trans (Wk.dD (σ' := [.box (.d (eApiTable p0)), .row 3 (List.map eApiValue ([] : List ApiValue)) true]) (.row 3 [] true) (fun _ hh => by cases hh) rfl) (Wk.trans (Wk.env (e' := [(2, .d ((eL 3 eApiValue) p2)), (10, .slc 1 3 0 (([] : List ApiValue).length) none), (11, .d .aA), (12, .d (eB false)), (24, .d ((eL 2 eApiPart) p1)), (25, .d (eI (p1.length : Int))), (26, .d (eI (0 : Int)))]) (EW.cons (AW.refl _) (EW.cons (AW.dX _ _ _) (EW.cons (AW.refl _) (EW.cons (AW.refl _) (EW.cons (AW.refl _) (EW.cons (AW.refl _) (EW.cons (AW.refl _) EW.nil)))))))) (Wk.trans (Wk.dD (σ' := [.box (.d (eApiTable p0)), .row 3 (List.map eApiValue ([] : List ApiValue)) true, .row 1 (List.map eB ([] : List Bool)) true]) (.row 1 [] true) (fun _ hh => by cases hh) rfl) (Wk.trans (Wk.env (e' := [(2, .d ((eL 3 eApiValue) p2)), (10, .slc 1 3 0 (([] : List ApiValue).length) none), (11, .slc 2 1 0 (([] : List Bool).length) none), (12, .d (eB false)), (24, .d ((eL 2 eApiPart) p1)), (25, .d (eI (p1.length : Int))), (26, .d (eI (0 : Int)))]) (EW.cons (AW.refl _) (EW.cons (AW.refl _) (EW.cons (AW.dX _ _ _) (EW.cons (AW.refl _) (EW.cons (AW.refl _) (EW.cons (AW.refl _) (EW.cons (AW.refl _) EW.nil)))))))) (wc [1, 2] [1, 2] (by kernel_rfl) rfl (by kernel_rfl)))))) ?_))))))
   intro n183
   rintro ⟨gK, QX, aaE, Tx⟩ aju h3 hv3
   refine sr (s1 (bi rfl rfl aQ) (sn (sq (cB h3 rfl (fun h3 => ?_) (fun h3 => ?_)))))
   ·obtain ⟨FU, ZN, h3⟩ := ob h3; obtain ⟨LY, ZM, h3⟩ := ob h3; obtain ⟨ahi, h3⟩ := gd h3; obtain ⟨ahh, h3⟩ := gd h3
    refine sk (sq (SC.blk (sr (s1 (j4 rfl rfl xP JY (ak ZN).1 (aT (ak ZN).2) rfl) (s1 (aS (v := .d (eApiPart FU)) rfl (bK JY aeF rfl)) (s1 (qV (k := 2) ai7 rfl) (s0 (fJ rfl rfl (sB (d' := .d (eApiPart FU)) JY rfl rfl rfl rfl rfl rfl rfl)) (sn (sd (by kernel_rfl) ?_)))))))))
    refine t1 ([], false) (mv rfl) rfl (t1 ([], false) (mv rfl) rfl (t1 ([], false) (far (k := 0) rfl Dy bO rfl) rfl (t1 ([2], false) (aS rfl (aj bO dW rfl rfl)) rfl (t1 ([], false) (j4 rfl rfl fu d9 (ak ZM).1 (aT (ak ZM).2) rfl) rfl (t1 ([], false) (aS (v := .d (eApiValue LY)) rfl (bK d9 kD rfl)) rfl (t1 ([3], true) (tH (k := 3) (ds := List.map eApiValue [LY]) (off := 0) (l' := [LY].length) rfl fu wT rfl rfl (by rfl) rfl rfl rfl) rfl (t1 ([0, 3, 4], true) (app rfl rfl rfl rfl bc28 (aF (f := eApiValue) (xs := gK) (k := 4) rfl fu wT rfl (dx (xs := [LY]) rfl) ahi rfl)) rfl (t1 ([], false) (mv rfl) rfl (t1 ([], false) (far (k := 1) rfl Vz jV rfl) rfl ?_)))))))))
    refine t1 ([2], false) (aS rfl (aj jV zD rfl rfl)) rfl (t1 ([5], true) (tH (k := 5) (ds := List.map eB [FU.Down]) (off := 0) (l' := [FU.Down].length) rfl F3 ei4 rfl rfl (by rfl) rfl rfl rfl) rfl (t1 ([1, 5, 6], true) (app rfl rfl rfl rfl aaj (aF (f := eB) (xs := QX) (k := 6) rfl F3 ei4 rfl (dx (xs := [FU.Down]) rfl) ahh rfl)) rfl (t1 ([], false) (ig rfl) rfl (t1 ([], false) (ig rfl) rfl (tn (by decide +kernel) (SC.region (sm rfl (sm rfl (sp h3 (fun h3 => ?_) (fun h3 => ?_))))))))))
    ·refine kw rfl (kw rfl (kw rfl (kw rfl (kw rfl (kw rfl (kw rfl (s1 (pkt rfl rfl) (sa rfl (SO.nil ?_)))))))))
     change SC _ _ _ _ _
     have q := si h3; subst q
     exact SC.region (s1 (bi rfl rfl aR) (sm rfl (SO.nil (lf (wc [4, 6] [4, 6] (by kernel_rfl) rfl (by kernel_rfl))))))
    ·obtain ⟨v182, MX, h3⟩ := ob h3
     refine gw rfl (mv rfl) (gw rfl (far (k := 0) rfl Dy bO rfl) (gw rfl (aS rfl (aj bO dW rfl rfl)) (gw rfl (j4 rfl rfl fu d9 (ak MX).1 (aT (ak MX).2) rfl) (gw rfl (fap rfl fH bO rfl) (gw rfl (aS rfl (bK bO dW rfl)) (gw rfl (bi rfl rfl aP) (s1 (dB rfl rfl) (sa rfl (SO.nil ?_)))))))))
     change SC _ _ _ _ _
     have q := si h3; subst q
     exact SC.region (s1 (bi rfl rfl aR) (sm rfl (SO.nil (lf (wc [4, 6] [4, 6] (by kernel_rfl) rfl (by kernel_rfl))))))
   ·have q := si h3; subst q; have q : _ = _ := hv3; subst q; have q := si h1; subst q
    exact SC.exit ((wq rfl))
  ·rintro ⟨Ac, EM, qW⟩ h0
   obtain ⟨⟨Rk, zG⟩, Vp, h0⟩ := ob h0; have q := si h0; subst q
   refine sr (sm rfl (sm rfl (cq (args' := [.slc 0 3 0 Ac.length none, .slc 1 1 0 EM.length none]) (lT := [.row 3 (List.map eApiValue Ac) true, .row 1 (List.map eB EM) true]) [0, 1] [] (aL.lX (fM.lX (fF rfl rfl rfl) (fM.lX (fF rfl rfl rfl) (fM.nil _))) (fq [] [] (I4 Ac EM _ Vp) rfl rfl rfl rfl rfl rfl rfl rfl)) wf rfl rfl rfl aik rfl rfl rfl rfl rfl rfl rfl rfl (sm rfl (s1 (ext rfl rfl) (s1 (ext rfl rfl) (sa rfl (sa rfl (sn ?_)))))))))
   exact sr (sm rfl (sm rfl (sm rfl (sa rfl (sa rfl (sa rfl (sn (SC.ret (aV (wc (e' := [(6, .d (eS Rk)), (7, .d (eB qW)), (8, .d (eI zG))]) [] [] (by kernel_rfl) rfl (by kernel_rfl)) (aI rfl (aI rfl (aI rfl aG))) rfl)))))))))
noncomputable def gM (p0 : ApiTable) (p1 : List ApiValue) : Option ((List UInt8) × Int) :=
 Option.bind (vD p0.bB) fun r16 =>
 Option.bind (kW p0 r16 p1) fun (Ta, Kn, r20) =>
 some (Ta, r20)
theorem nN (p0 : ApiTable) (p1 : List ApiValue) (r : (List UInt8) × Int) (h0 : gM p0 p1 = some r) : aL Tryz.prog 45 [.d (eApiTable p0), .d ((eL 3 eApiValue) p1)] [] (.tuple [.d (eS r.1), .d (eI r.2)]) [] := by
 unfold gM at h0
 refine fn0 [0, 1] Tryz.func45 rfl rfl rfl rfl rfl ?_
 obtain ⟨r16, OZ, h0⟩ := ob h0; obtain ⟨⟨Ta, Kn, r20⟩, amy, h0⟩ := ob h0; have q := si h0; subst q
 refine sr (s1 (nH (k := 0) rfl rfl rfl) (s1 (ig (v := .d (eS ([] : List UInt8))) rfl) (sa rfl (sn (sd (by kernel_rfl) (t1 ([0], false) (aS (v := .d (eApiTable p0)) rfl (aj uE vk rfl rfl)) rfl (t1 ([], false) (far (k := 2) rfl sI jA rfl) rfl (t1 ([0], false) (aS rfl (aj jA vo rfl rfl)) rfl (Lj (J5 p0.bB _ OZ) wf rfl rfl rfl ana rfl (fun _ => rfl) (fun _ => rfl) ?_)))))))))
 refine t1 ([], false) (mv rfl) rfl (Lj (wZ p0 r16 p1 _ amy) wf rfl rfl rfl ahJ rfl (fun _ => rfl) (fun _ => rfl) (t1 ([], false) (mv rfl) rfl (t1 ([], false) (ext rfl rfl) rfl (t1 ([], false) (ext rfl rfl) rfl (t1 ([], false) (ext rfl rfl) rfl (t1 ([], false) (ig rfl) rfl (t1 ([], false) (ig rfl) rfl (t1 ([], false) (ig rfl) rfl (tn (by decide +kernel) ?_)))))))))
 exact sr (sm rfl (sm rfl (sa rfl (sa rfl (sn (SC.ret (aV (wc (e' := [(4, .d (eS Ta)), (5, .d (eI r20))]) [] [] (by kernel_rfl) rfl (by kernel_rfl)) (aI rfl (aI rfl aG)) rfl)))))))
noncomputable def sJ (p0 : ApiTable) (p1 : List ApiValue) : Option (Int × iY) :=
 bif ((p1.length : Int) == (0 : Int)) then
 some ((0 : Int), (iY.mk ([] : List ApiValue) ([] : List UInt8)))
 else
 Option.bind (gM p0 p1) fun (OM, r11) =>
 some (r11, (iY.mk p1 OM))
theorem EA (p0 : ApiTable) (p1 : List ApiValue) (r : Int × iY) (h0 : sJ p0 p1 = some r) : aL Tryz.prog 29 [.d (eApiTable p0), .d ((eL 3 eApiValue) p1)] [] (.tuple [.d (aC r.2), .d (eI r.1)]) [.box (.d (aC r.2))] := by
 unfold sJ at h0
 refine fn0 [0, 1] Tryz.func29 rfl rfl rfl rfl rfl ?_
 refine sr (s1 (nH (k := 0) rfl rfl rfl) (s1 (qV (k := 1) aal rfl) (sa rfl (sn (sq (sr (sm rfl (s1 (len rfl rfl rfl (aZ fu)) (s1 (bi rfl rfl aP) ?_)))))))))
 refine sn (cB h0 rfl (fun h0 => ?_) (fun h0 => ?_))
 ·have q := si h0; subst q
  exact sr (s1 (l8 rfl (ais )) (s0 (fJ rfl rfl (sB (d' := .d (.agg [.aA, (eS ([] : List UInt8))])) zA rfl rfl rfl rfl rfl rfl rfl)) (sa rfl (sn (SC.ret (aV (Wk.trans (wq (e' := [(4, .ref 1 0 0), (5, .d (eI (0 : Int)))]) rfl) (Wk.trans (Wk.jh (id := 1) (y := .d (aC (iY.mk ([] : List ApiValue) ([] : List UInt8)))) (σ' := [.box (.d (eApiTable p0)), .box (.d (aC (iY.mk ([] : List ApiValue) ([] : List UInt8))))]) rfl (dh.cons (AW.nl _) (dh.cons (AW.refl _) dh.nil)) rfl) (wc (e' := [(4, .ref 0 0 0), (5, .d (eI (0 : Int)))]) [1] [1] (by kernel_rfl) rfl (by kernel_rfl)))) (gD rfl (aj zA EU rfl rfl) (aI rfl aG)) rfl))))))
 ·obtain ⟨⟨OM, r11⟩, hq9, h0⟩ := ob h0; have q := si h0; subst q
  refine sk (sr (s1 (aS (v := .d (eApiTable p0)) rfl (aj uE vk rfl rfl)) (sm rfl (c0 (nN p0 p1 _ hq9) wf rfl rfl rfl acT rfl (fun _ => rfl) (fun _ => rfl) (sm rfl (s1 (ext rfl rfl) (s1 (ext rfl rfl) (sa rfl (sa rfl ?_)))))))))
  refine sn (sr (sm rfl (sm rfl (s1 (l8 rfl (VT p1 OM)) (sm rfl (s0 (fJ rfl rfl (sB (d' := .d (aC (iY.mk p1 OM))) zA rfl rfl rfl rfl rfl rfl rfl)) (sa rfl (sn (SC.ret ?_)))))))))
  exact aV (wc (e' := [(4, .ref 0 0 0), (5, .d (eI r11))]) [1] [1] (by kernel_rfl) rfl (by kernel_rfl)) (gD rfl (aj zA EU rfl rfl) (aI rfl aG)) rfl
noncomputable def fI (p0 : iY) : Option Unit :=
 some ()
theorem fB (p0 : iY) (r : Unit) (h0 : fI p0 = some r) : aL Tryz.prog 30 [.d (aC p0)] [] (.d (eB (decide ((p0.row.length : Int) > (0 : Int))))) [] := by
 unfold fI at h0
 refine fn0 [0] Tryz.func30 rfl rfl rfl rfl rfl ?_
 have q := si h0; subst q
 refine sr (s1 (nH (k := 0) rfl rfl rfl) (sa rfl (sn (sr (s1 (far (k := 0) rfl Hf zC rfl) (s1 (aS rfl (aj zC J3 rfl rfl)) (s1 (len rfl rfl rfl (aZ fu)) (s1 (bi rfl rfl bP) (sa rfl ?_)))))))))
 exact sn (SC.ret (aV (wc (e' := [(2, .d (eB (decide ((p0.row.length : Int) > (0 : Int)))))]) [] [] (by kernel_rfl) rfl (by kernel_rfl)) (aI rfl aG) rfl))
noncomputable def o7 (p0 : List UInt8) : Option Unit :=
 bif decide (p0.length + ([0] : List UInt8).length ≤ 9223372036854775807) then
 some ()
 else none
theorem wR (p0 : List UInt8) (r : Unit) (h0 : o7 p0 = some r) : aL Tryz.prog 6 [.d (eS p0)] [] (.d (eZ (aU.mk p0 (p0 ++ ([0] : List UInt8)) false))) [.box (.d (eZ (aU.mk p0 (p0 ++ ([0] : List UInt8)) false)))] := by
 unfold o7 at h0
 refine fn0 [0] Tryz.func6 rfl rfl rfl rfl rfl ?_
 obtain ⟨hg3, h0⟩ := gd h0; have q := si h0; subst q
 refine sr (s1 (qV (k := 0) WG rfl) (sn (sr (sm rfl (sm rfl (s1 (bi (v := .d (eS (p0 ++ ([0] : List UInt8)))) rfl rfl (fun X Y => wh _ X Y p0 ([0] : List UInt8) hg3)) (s1 (l8 rfl (Nt p0 (p0 ++ ([0] : List UInt8)))) (s0 (fJ rfl rfl (sB (d' := .d (eZ (aU.mk p0 (p0 ++ ([0] : List UInt8)) false))) Ah rfl rfl rfl rfl rfl rfl rfl)) (sn ?_)))))))))
 exact SC.ret (aV (Wk.refl _) (gD rfl (aj Ah J2 rfl rfl) aG) rfl)
noncomputable def lQ (p0 : Int) (p1 : List UInt8) : Option Unit :=
 Option.bind (o7 p1) fun _ =>
 bif decide ([(ay.mk p0 (aU.mk p1 (p1 ++ ([0] : List UInt8)) false) true)].length * 56 ≤ room) then
 some ()
 else none
theorem xJ (p0 : Int) (p1 : List UInt8) (r : Unit) (h0 : lQ p0 p1 = some r) : aL Tryz.prog 31 [.ref 0 0 0, .d (eI p0), .d (eS p1)] [.box (.d (.agg [.aA, .aA, .aA]))] (.tuple []) [.box (.agg [.d .aA, .slc 1 5 0 ([(ay.mk p0 (aU.mk p1 (p1 ++ ([0] : List UInt8)) false) true)].length) none, .d .aA]), .row 5 (List.map aK [(ay.mk p0 (aU.mk p1 (p1 ++ ([0] : List UInt8)) false) true)]) true] := by
 unfold lQ at h0
 refine fn0 [0, 1, 2] Tryz.func31 rfl rfl rfl rfl rfl ?_
 obtain ⟨_, XP, h0⟩ := ob h0; obtain ⟨hg6, h0⟩ := gd h0; have q := si h0; subst q
 refine SC.draws (by kernel_rfl) (t1 ([], false) (mv rfl) rfl (t1 ([], false) (mv rfl) rfl (t1 ([], false) (gJ rfl) rfl (t1 ([], false) (far (k := 1) rfl yR sW rfl) rfl (t1 ([0], false) (aS rfl (aj sW Ox rfl rfl)) rfl (t1 ([], false) (mv rfl) rfl (t1 ([], false) (mv rfl) rfl (tq [] [1] ([1], true) (wR p1 _ XP) wf rfl rfl rfl cb6 rfl rfl rfl rfl rfl rfl rfl rfl rfl (t1 ([], false) (l8 rfl (yV p0 (aU.mk p1 (p1 ++ ([0] : List UInt8)) false) true)) rfl ?_)))))))))
 refine t1 ([2], true) (tH (k := 2) (ds := List.map aK [(ay.mk p0 (aU.mk p1 (p1 ++ ([0] : List UInt8)) false) true)]) (off := 0) (l' := [(ay.mk p0 (aU.mk p1 (p1 ++ ([0] : List UInt8)) false) true)].length) rfl Bn EC rfl rfl (by rfl) rfl rfl rfl) rfl (t1 ([2, 3], true) (app rfl rfl rfl rfl Yf (aN (f := aK) (k := 3) Bn EC (dx (xs := [(ay.mk p0 (aU.mk p1 (p1 ++ ([0] : List UInt8)) false) true)]) rfl) hg6 rfl)) rfl (t1 ([], false) (gJ rfl) rfl (t1 ([], false) (far (k := 1) rfl yR sW rfl) rfl (t0 ([0, 3], true) (fJ rfl rfl (sB (d' := .agg [.d .aA, .slc 3 5 0 ([(ay.mk p0 (aU.mk p1 (p1 ++ ([0] : List UInt8)) false) true)].length) none, .d .aA]) sW rfl rfl rfl rfl rfl rfl rfl)) rfl (ST.nil (And.intro (by decide +kernel) ?_))))))
 exact kG (wc (e' := []) [0, 3] [0] (by kernel_rfl) rfl (by kernel_rfl)) aG rfl
noncomputable def dG (p0 : List ApiValue) (p1 : List ApiValue) : Option Bool :=
 bif ((p0.length : Int) != (p1.length : Int)) then
 some false
 else
 eH (Y := Unit) (E := Bool)
 (Option.bind (α := Unit ⊕ Bool)
 (loop (Y := Int) (W := Unit ⊕ Bool) (fun Bc =>
 bif (decide (Bc < (p0.length : Int))) then
 Option.bind (bF p0 Bc) fun v68 =>
 Option.bind (bF p1 Bc) fun v69 =>
 bif (!(eG v68 v69)) then
 some (Sum.inr (Sum.inr false))
 else
 some (Sum.inl (bD (Bc + (1 : Int))))
 else
 some (Sum.inr (Sum.inl ()))) (0 : Int))
 (Sum.elim (fun e => some (Sum.inl e)) (fun e => some (Sum.inr e))))
 (fun _ =>
 some true)
 (fun e => some e)
theorem mo (p0 : List ApiValue) (p1 : List ApiValue) (r : Bool) (h0 : dG p0 p1 = some r) : aL Tryz.prog 32 [.d ((eL 3 eApiValue) p0), .d ((eL 3 eApiValue) p1)] [] (.d (eB r)) [] := by
 unfold dG at h0
 refine fn0 [0, 1] Tryz.func32 rfl rfl rfl rfl rfl ?_
 refine sr (sa rfl (sn (sq (sr (sm rfl (s1 (len rfl rfl rfl (aZ fu)) (sm rfl (s1 (len rfl rfl rfl (aZ fu)) (s1 (bi rfl rfl bA) ?_)))))))))
 refine sn (cB h0 rfl (fun h0 => ?_) (fun h0 => ?_))
 ·have q := si h0; subst q
  exact sr (sa rfl (sn (SC.ret (aV (Wk.refl _) (aI rfl aG) rfl))))
 ·refine sk (SC.seqB h0 (fun y => ⟨mk 26 [], []⟩) ?_ ?_)
  ·intro L6 h1 h0
   obtain ⟨Qh, h2, h1⟩ := ob h1
   refine sr (sm rfl (s1 (len rfl rfl rfl (aZ fu)) (sm rfl (sn (SC.blk (SC.dH h2 (fun y => ⟨mk 26 [(0, .d ((eL 3 eApiValue) p0)), (1, .d ((eL 3 eApiValue) p1)), (12, .d (eI (p0.length : Int))), (13, .d (eI y))], []⟩) (wq rfl) ?_))))))
   intro n70
   rintro Bc Qb h3 hv3
   refine sr (s1 (bi rfl rfl aQ) (sn (sq (cB h3 rfl (fun h3 => ?_) (fun h3 => ?_)))))
   ·obtain ⟨v68, Ca, h3⟩ := ob h3; obtain ⟨v69, G6, h3⟩ := ob h3
    refine sk (sq (SC.blk (sr (sm rfl (sa rfl (sn (sd (by kernel_rfl) (t1 ([], false) (mv rfl) rfl (t1 ([], false) (mv rfl) rfl ?_)))))))))
    refine t1 ([], false) (j4 rfl rfl fu d9 (ak Ca).1 (aT (ak Ca).2) rfl) rfl (t1 ([], false) (aS (v := .d (eApiValue v68)) rfl (bK d9 kD rfl)) rfl (t1 ([], false) (mv rfl) rfl (t1 ([], false) (mv rfl) rfl (t1 ([], false) (j4 rfl rfl fu d9 (ak G6).1 (aT (ak G6).2) rfl) rfl (t1 ([], false) (aS (v := .d (eApiValue v69)) rfl (bK d9 kD rfl)) rfl (t1 ([], false) (bi (v := .d (eB (!(eG v68 v69)))) rfl rfl (fun X Y => uy X Y v68 v69)) rfl (tn (by decide +kernel) (cB h3 rfl (fun h3 => ?_) (fun h3 => ?_)))))))))
    ·have q := si h3; subst q; have q : _ = _ := hv3; subst q; have q := si h1; subst q; have q := si h0; subst q
     exact sr (sa rfl (sn (SC.ret (aV (Wk.refl _) (aI rfl aG) rfl))))
    ·refine SC.skip ?_
     change SC _ _ _ _ _
     have q := si h3; subst q
     exact SC.region (s1 (bi rfl rfl aR) (sm rfl (SO.nil (lf (wq rfl)))))
   ·have q := si h3; subst q; have q : _ = _ := hv3; subst q; have q := si h1; subst q
    exact SC.exit (lf (wq rfl))
  ·intro _ h0
   have q := si h0; subst q
   exact sr (sa rfl (sn (SC.ret (aV (Wk.refl _) (aI rfl aG) rfl))))
noncomputable def pK (p0 : UInt8) : Option Unit :=
 Option.bind (lG [p0]) fun _ =>
 some ()
theorem Dm (p0 : UInt8) (r : Unit) (h0 : pK p0 = some r) : aL Tryz.prog 65 [.ref 0 0 0, .d (bR p0)] [.box (.d (.agg [.aA]))] (.tuple []) [.box (.agg [.slc 1 1 0 ([p0].length) none]), .row 1 (List.map bR [p0]) true] := by
 unfold pK at h0
 refine fn0 [0, 1] Tryz.func65 rfl rfl rfl rfl rfl ?_
 obtain ⟨_, hq3, h0⟩ := ob h0; have q := si h0; subst q
 exact SC.region (sm rfl (sm rfl (s1 (tH (k := 1) (ds := List.map bR [p0]) (off := 0) (l' := [p0].length) rfl bW DT rfl rfl (by rfl) rfl rfl rfl) (cq (args' := [.ref 0 0 0, .slc 1 1 0 ([p0].length) none]) (lT := [.box (.d (.agg [.aA])), .row 1 (List.map bR [p0]) true]) [0, 1] [2] (aL.lX (fM.keep (fM.lX (fF rfl rfl rfl) (fM.nil _))) (fq [0] [2] (qJ [p0] _ hq3) rfl rfl rfl rfl rfl rfl rfl rfl)) wf rfl rfl rfl Py rfl rfl rfl rfl rfl rfl rfl rfl (SO.nil (kG (wc (e' := []) [0, 2] [0] (by kernel_rfl) rfl (by kernel_rfl)) aG rfl))))))
noncomputable def mJ (p0 : Bool) (p1 : List UInt8) : Option ((List UInt8)) :=
 bif p0 then
 Option.bind (gN [(1 : UInt8)] p1) fun _ =>
 some (p1 ++ [(1 : UInt8)])
 else
 Option.bind (gN [(0 : UInt8)] p1) fun _ =>
 some (p1 ++ [(0 : UInt8)])
theorem Am (p0 : Bool) (p1 : List UInt8) (r : (List UInt8)) (h0 : mJ p0 p1 = some r) : aL Tryz.prog 100 [.ref 0 0 0, .d (eB p0)] [.box (.agg [.slc 1 1 0 p1.length none]), .row 1 (List.map bR p1) true] (.tuple []) [.box (.agg [.slc 2 1 0 r.length none]), .dead, .row 1 (List.map bR r) true] := by
 unfold mJ at h0
 refine fn0 [0, 1] Tryz.func100 rfl rfl rfl rfl rfl ?_
 refine sr (sm rfl (sn (cB h0 rfl (fun h0 => ?_) (fun h0 => ?_))))
 ·obtain ⟨_, G7, h0⟩ := ob h0; have q := si h0; subst q
  exact SC.region (sm rfl (s1 (tH (k := 2) (ds := List.map bR [(1 : UInt8)]) (off := 0) (l' := [(1 : UInt8)].length) rfl bW DT rfl rfl (by rfl) rfl rfl rfl) (cq (args' := [.ref 0 0 0, .slc 1 1 0 ([(1 : UInt8)].length) none]) (lT := [.box (.agg [.slc 2 1 0 p1.length none]), .row 1 (List.map bR [(1 : UInt8)]) true, .row 1 (List.map bR p1) true]) [0, 2, 1] [3] (aL.lX (fM.keep (fM.lX (fF rfl rfl rfl) (fM.nil _))) (fq [0, 2] [3] (ku [(1 : UInt8)] p1 _ G7) rfl rfl rfl rfl rfl rfl rfl rfl)) wf rfl rfl rfl Py rfl rfl rfl rfl rfl rfl rfl rfl (SO.nil (kG (wc (e' := []) [0, 1, 3] [0, 1] (by kernel_rfl) rfl (by kernel_rfl)) aG rfl)))))
 ·obtain ⟨_, hq7, h0⟩ := ob h0; have q := si h0; subst q
  exact SC.region (sm rfl (s1 (tH (k := 2) (ds := List.map bR [(0 : UInt8)]) (off := 0) (l' := [(0 : UInt8)].length) rfl bW DT rfl rfl (by rfl) rfl rfl rfl) (cq (args' := [.ref 0 0 0, .slc 1 1 0 ([(0 : UInt8)].length) none]) (lT := [.box (.agg [.slc 2 1 0 p1.length none]), .row 1 (List.map bR [(0 : UInt8)]) true, .row 1 (List.map bR p1) true]) [0, 2, 1] [3] (aL.lX (fM.keep (fM.lX (fF rfl rfl rfl) (fM.nil _))) (fq [0, 2] [3] (ku [(0 : UInt8)] p1 _ hq7) rfl rfl rfl rfl rfl rfl rfl rfl)) wf rfl rfl rfl Py rfl rfl rfl rfl rfl rfl rfl rfl (SO.nil (kG (wc (e' := []) [0, 1, 3] [0, 1] (by kernel_rfl) rfl (by kernel_rfl)) aG rfl)))))
noncomputable def mF (p0 : List UInt8) (p1 : List UInt8) : Option (Bool × (List UInt8)) :=
 Option.bind (α := Unit)
 (some ())
 fun _ =>
 bif (decide ((p0.length : Int) > (65535 : Int))) then
 some (false, p1)
 else
 Option.bind (jJ (yc (p0.length : Int)) p1) fun _ =>
 bif decide (((p1 ++ [((dM (yc (p0.length : Int)) 8).toUInt8), ((yc (p0.length : Int)).toUInt8)]).length + p0.length) * 1 ≤ room) then
 some (true, ((p1 ++ [((dM (yc (p0.length : Int)) 8).toUInt8), ((yc (p0.length : Int)).toUInt8)]) ++ p0))
 else none
theorem Dn (p0 : List UInt8) (p1 : List UInt8) (r : Bool × (List UInt8)) (h0 : mF p0 p1 = some r) : aL Tryz.prog 102 [.ref 0 0 0, .d (eS p0)] [.box (.agg [.slc 1 1 0 p1.length none]), .row 1 (List.map bR p1) true] (.d (eB r.1)) [.box (.agg [.slc 2 1 0 r.2.length none]), .dead, .row 1 (List.map bR r.2) true] := by
 unfold mF at h0
 refine fn0 [0, 1] Tryz.func102 rfl rfl rfl rfl rfl ?_
 refine sr (sa rfl (sn (sq (SC.bJ h0 (fun y => ⟨mk 26 [(0, .ref 0 0 0), (1, .d (eS p0)), (11, .d (eB (decide ((p0.length : Int) > (65535 : Int)))))], [.box (.agg [.slc 1 1 0 p1.length none]), .row 1 (List.map bR p1) true]⟩) ?_ ?_))))
 ·intro aoe h1
  have q := si h1; subst q
  exact SC.region (sm rfl (s1 (bi (v := .d (eB false)) rfl rfl (fun _ _ => uf Qg)) (sm rfl (gw rfl (mv rfl) (gw rfl (len rfl rfl rfl (fK l9)) (gw rfl (bi rfl rfl bP) (s1 (dB rfl rfl) (SO.nil ((wq rfl))))))))))
 ·intro _ h0
  refine cB h0 rfl (fun h0 => ?_) (fun h0 => ?_)
  ·have q := si h0; subst q
   exact sr (sa rfl (sn (SC.ret (aV (Wk.trans (wq (e' := [(4, .d (eB false))]) rfl) (Wk.trans (Wk.move (e' := [(4, .d (eB false))]) (os := [.box (.agg [.slc 2 1 0 p1.length none]), .row 1 (List.map bR p1) true]) (o := .row 1 (List.map bR p1) true) (σ' := [.box (.agg [.slc 2 1 0 p1.length none]), .dead, .row 1 (List.map bR p1) true]) 1 (Nat.le_of_ble_eq_true rfl) rfl rfl rfl rfl) (wq (e' := [(4, .d (eB false))]) rfl))) (aI rfl aG) rfl))))
  ·obtain ⟨_, amB, h0⟩ := ob h0; obtain ⟨aco, h0⟩ := gd h0; have q := si h0; subst q
   refine sk (sr (sm rfl (sm rfl (s1 (len rfl rfl rfl (fK l9)) (s1 (tF rfl (Pw Im LZ (p0.length : Int))) (cq [0, 1] [2] (qL (yc (p0.length : Int)) p1 _ amB) wf rfl rfl rfl VK rfl rfl rfl rfl rfl rfl rfl rfl (sn (sr (sm rfl ?_)))))))))
   refine sm rfl (s1 (gJ rfl) (s1 (far (k := 0) rfl wP bS rfl) (s1 (aS rfl (aj bS gL rfl rfl)) (sm rfl (s1 (app rfl rfl rfl rfl bc9 (aF (f := bR) (xs := (p1 ++ [((dM (yc (p0.length : Int)) 8).toUInt8), ((yc (p0.length : Int)).toUInt8)])) (k := 3) rfl bW DT rfl Pn aco rfl)) (s1 (gJ rfl) (s1 (far (k := 0) rfl wP bS rfl) (s0 (fJ rfl rfl (sB (d' := .agg [.slc 3 1 0 (((p1 ++ [((dM (yc (p0.length : Int)) 8).toUInt8), ((yc (p0.length : Int)).toUInt8)]) ++ p0).length) none]) bS rfl rfl rfl rfl rfl rfl rfl)) (sn ?_)))))))))
   exact sr (sa rfl (sn (SC.ret (aV (Wk.trans (wq (e' := [(4, .d (eB true))]) rfl) (wc (e' := [(4, .d (eB true))]) [0, 1, 3] [0, 1] (by kernel_rfl) rfl (by kernel_rfl))) (aI rfl aG) rfl))))
noncomputable def Bz (p0 : ApiValue) (p1 : List UInt8) : Option ((List UInt8)) :=
 Option.bind (mJ (p0.Kind == (0 : Int)) p1) fun IQ =>
 Option.bind (α := Bool)
 (bif (p0.Kind == (1 : Int)) then
 some (p0.Kind == (1 : Int))
 else
 some (p0.Kind == (2 : Int)))
 fun Tt =>
 bif Tt then
 Option.bind (jI p0.N IQ) fun _ =>
 some ((((IQ ++ [((dM ((eu ((bZ p0.N 32).toUInt32) 16).toUInt16) 8).toUInt8), (((eu ((bZ p0.N 32).toUInt32) 16).toUInt16).toUInt8)]) ++ [((dM (((bZ p0.N 32).toUInt32).toUInt16) 8).toUInt8), ((((bZ p0.N 32).toUInt32).toUInt16).toUInt8)]) ++ [((dM ((eu (p0.N.toUInt32) 16).toUInt16) 8).toUInt8), (((eu (p0.N.toUInt32) 16).toUInt16).toUInt8)]) ++ [((dM ((p0.N.toUInt32).toUInt16) 8).toUInt8), (((p0.N.toUInt32).toUInt16).toUInt8)])
 else
 bif (p0.Kind == (3 : Int)) then
 Option.bind (kP (p0.N.toUInt8) IQ) fun _ =>
 some (IQ ++ [(p0.N.toUInt8)])
 else
 Option.bind (α := Bool)
 (bif (p0.Kind == (4 : Int)) then
 some (p0.Kind == (4 : Int))
 else
 some (p0.Kind == (5 : Int)))
 fun wX =>
 bif wX then
 Option.bind (mF p0.S IQ) fun (r33, r34) =>
 some r34
 else
 some IQ
theorem OA (p0 : ApiValue) (p1 : List UInt8) (r : (List UInt8)) (h0 : Bz p0 p1 = some r) : aL Tryz.prog 66 [.ref 0 0 0, .d (eApiValue p0)] [.box (.agg [.slc 1 1 0 p1.length none]), .row 1 (List.map bR p1) true] (.tuple []) [.box (.agg [.slc 2 1 0 r.length none]), .dead, .row 1 (List.map bR r) true] := by
 unfold Bz at h0
 refine fn0 [0, 1] Tryz.func66 rfl rfl rfl rfl rfl ?_
 obtain ⟨IQ, Vn, h0⟩ := ob h0
 refine sr (s1 (nH (k := 2) rfl rfl rfl) (sn (sr (sm rfl (s1 (far (k := 0) rfl fH bO rfl) (s1 (aS rfl (aj bO dW rfl rfl)) (s1 (bi rfl rfl aP) (cq [0, 1] [3] (Am (p0.Kind == (0 : Int)) p1 _ Vn) wf rfl rfl rfl aai rfl rfl rfl rfl rfl rfl rfl rfl (sn ?_)))))))))
 refine sr (s1 (far (k := 0) rfl fH bO rfl) (s1 (aS rfl (aj bO dW rfl rfl)) (sn (SC.blk (SC.bJ h0 (fun y => ⟨mk 32 [(0, .ref 0 0 0), (3, .ref 2 0 0), (10, .d (eI p0.Kind)), (11, .d (eB y))], [.box (.agg [.slc 3 1 0 IQ.length none]), .dead, .box (.d (eApiValue p0)), .row 1 (List.map bR IQ) true]⟩) ?_ ?_)))))
 ·intro Uf h1
  refine sr (s1 (bi rfl rfl aP) (sa rfl (sn (cB h1 rfl (fun h1 => ?_) (fun h1 => ?_)))))
  ·have q := si h1; subst q
   exact SC.skip ((wq rfl))
  ·have q := si h1; subst q
   exact SC.region (s1 (bi rfl rfl aP) (sa rfl (SO.nil ((wq rfl)))))
 ·rintro Tt h0
  refine cB h0 rfl (fun h0 => ?_) (fun h0 => ?_)
  ·obtain ⟨_, OX, h0⟩ := ob h0; have q := si h0; subst q
   exact SC.region (sm rfl (s1 (far (k := 1) rfl iK fU rfl) (s1 (aS rfl (aj fU lY rfl rfl)) (cq [0, 3] [4] (qK p0.N IQ _ OX) wf rfl rfl rfl VN rfl rfl rfl rfl rfl rfl rfl rfl (SO.nil (kG (wc (e' := []) [0, 1, 4] [0, 1] (by kernel_rfl) rfl (by kernel_rfl)) aG rfl))))))
  ·refine sr (s1 (bi rfl rfl aP) (sa rfl (sn (cB h0 rfl (fun h0 => ?_) (fun h0 => ?_)))))
   ·obtain ⟨_, ams, h0⟩ := ob h0; have q := si h0; subst q
    exact SC.region (sm rfl (s1 (far (k := 1) rfl iK fU rfl) (s1 (aS rfl (aj fU lY rfl rfl)) (s1 (tF rfl (o9 uD uX p0.N)) (cq [0, 3] [4] (yG (p0.N.toUInt8) IQ _ ams) wf rfl rfl rfl acO rfl rfl rfl rfl rfl rfl rfl rfl (SO.nil (kG (wc (e' := []) [0, 1, 4] [0, 1] (by kernel_rfl) rfl (by kernel_rfl)) aG rfl)))))))
   ·refine SC.bJ h0 (fun y => ⟨mk 32 [(0, .ref 0 0 0), (3, .ref 2 0 0), (25, .d (eB y))], [.box (.agg [.slc 3 1 0 IQ.length none]), .dead, .box (.d (eApiValue p0)), .row 1 (List.map bR IQ) true]⟩) ?_ ?_
    ·intro Ue h1
     refine sr (s1 (bi rfl rfl aP) (sa rfl (sn (cB h1 rfl (fun h1 => ?_) (fun h1 => ?_)))))
     ·have q := si h1; subst q
      exact SC.skip ((wq rfl))
     ·have q := si h1; subst q
      exact SC.region (s1 (bi rfl rfl aP) (sa rfl (SO.nil ((wq rfl)))))
    ·rintro wX h0
     refine cB h0 rfl (fun h0 => ?_) (fun h0 => ?_)
     ·obtain ⟨⟨r33, r34⟩, abR, h0⟩ := ob h0; have q := si h0; subst q
      exact SC.region (sm rfl (s1 (far (k := 2) rfl iO eT rfl) (s1 (aS rfl (aj eT jy rfl rfl)) (cq [0, 3] [4] (Dn p0.S IQ _ abR) wf rfl rfl rfl aip rfl rfl rfl rfl rfl rfl rfl rfl (SO.nil (kG (wc (e' := []) [0, 1, 4] [0, 1] (by kernel_rfl) rfl (by kernel_rfl)) aG rfl))))))
     ·have q := si h0; subst q
      exact SC.skip (kG (wc (e' := []) [0, 1, 3] [0, 1] (by kernel_rfl) rfl (by kernel_rfl)) aG rfl)
noncomputable def mP (p0 : List ApiColumn) (p1 : List ApiValue) : Option ((List UInt8) × Int) :=
 Option.bind (vF p0 p1) fun S9 =>
 bif (S9 != (0 : Int)) then
 some (([] : List UInt8), S9)
 else
 Option.bind (pK (Ei (p1.length : Int))) fun _ =>
 Option.bind (α := (List UInt8))
 (Option.bind (α := (List UInt8))
 (loop (Y := Int × (List UInt8)) (W := (List UInt8)) (fun (WW, y104) =>
 bif (decide (WW < (p1.length : Int))) then
 Option.bind (bF p1 WW) fun Q5 =>
 Option.bind (Bz Q5 y104) fun afi =>
 some (Sum.inl ((bD (WW + (1 : Int))), afi))
 else
 some (Sum.inr y104)) ((0 : Int), [(Ei (p1.length : Int))]))
 (fun e => some e))
 fun y98 =>
 Option.bind (gP y98) fun _ =>
 bif (decide ((y98.length : Int) > (512 : Int))) then
 some (([] : List UInt8), (7 : Int))
 else
 some (y98, (0 : Int))
theorem uG (p0 : List ApiColumn) (p1 : List ApiValue) (r : (List UInt8) × Int) (h0 : mP p0 p1 = some r) : aL Tryz.prog 33 [.d ((eL 7 eApiColumn) p0), .d ((eL 3 eApiValue) p1)] [] (.tuple [.d (eS r.1), .d (eI r.2)]) [] := by
 unfold mP at h0
 refine fn0 [0, 1] Tryz.func33 rfl rfl rfl rfl rfl ?_
 obtain ⟨S9, al7, h0⟩ := ob h0
 refine sr (s1 (ig (v := .d (eS ([] : List UInt8))) rfl) (sa rfl (sn (sq (sr (sm rfl (sm rfl (c0 (Ep p0 p1 _ al7) wf rfl rfl rfl ahO rfl (fun _ => rfl) (fun _ => rfl) (sa rfl ?_)))))))))
 refine sn (sr (sm rfl (s1 (bi rfl rfl bA) (sn (cB h0 rfl (fun h0 => ?_) (fun h0 => ?_))))))
 ·have q := si h0; subst q
  exact sr (sm rfl (s1 (ig (v := .d (eS ([] : List UInt8))) rfl) (sa rfl (sn (SC.ret (aV (Wk.refl _) (aI rfl (aI rfl aG)) rfl))))))
 ·obtain ⟨_, abJ, h0⟩ := ob h0
  refine sk (sr (s1 (qV (k := 0) Yx rfl) (sn (sr (sm rfl (s1 (len rfl rfl rfl (aZ fu)) (s1 (tF rfl (DU Im uX (p1.length : Int))) (cq [0] [1] (Dm (Ei (p1.length : Int)) _ abJ) wf rfl rfl rfl acO rfl rfl rfl rfl rfl rfl rfl rfl (sn ?_)))))))))
  refine SC.bJ h0 (fun y => ⟨mk 36 [(7, .ref 0 0 0)], [.box (.agg [.slc 1 1 0 y.length none]), .row 1 (List.map bR y) true]⟩) ?_ ?_
  ·intro aew h1
   obtain ⟨akT, h2, h1⟩ := ob h1
   refine sr (sm rfl (s1 (len rfl rfl rfl (aZ fu)) (sm rfl (sn (SC.blk (SC.dH h2 (fun y => ⟨mk 36 [(7, .ref 0 0 0), (21, .d ((eL 3 eApiValue) p1)), (22, .d (eI (p1.length : Int))), (23, .d (eI y.1))], [.box (.agg [.slc 1 1 0 y.2.length none]), .row 1 (List.map bR y.2) true]⟩) (wq rfl) ?_))))))
   intro n115
   rintro ⟨WW, y104⟩ ajD h3 hv3
   refine sr (s1 (bi rfl rfl aQ) (sn (sq (cB h3 rfl (fun h3 => ?_) (fun h3 => ?_)))))
   ·obtain ⟨Q5, hv112, h3⟩ := ob h3; obtain ⟨afi, agS, h3⟩ := ob h3
    refine sk (sq (SC.blk (sr (s1 (j4 rfl rfl fu d9 (ak hv112).1 (aT (ak hv112).2) rfl) (s1 (aS (v := .d (eApiValue Q5)) rfl (bK d9 kD rfl)) (s1 (qV (k := 2) JH rfl) (s0 (fJ rfl rfl (sB (d' := .d (eApiValue Q5)) d9 rfl rfl rfl rfl rfl rfl rfl)) (sn (SC.region ?_)))))))))
    refine s1 (aS (v := .d (eApiValue Q5)) rfl (aj d9 kD rfl rfl)) (cq [0, 1] [3] (OA Q5 y104 _ agS) wf rfl rfl rfl ane rfl rfl rfl rfl rfl rfl rfl rfl (SO.nil ?_))
    change SC _ _ _ _ _
    have q := si h3; subst q
    exact SC.region (s1 (bi rfl rfl aR) (sm rfl (SO.nil (lf (wc [0, 3] [0] (by kernel_rfl) rfl (by kernel_rfl))))))
   ·have q := si h3; subst q; have q : _ = _ := hv3; subst q; have q := si h1; subst q
    exact SC.exit ((wq rfl))
  ·rintro y98 h0
   obtain ⟨_, agR, h0⟩ := ob h0
   refine sr (cq [0, 1] [2] (tV y98 _ agR) wf rfl rfl rfl ahN rfl rfl rfl rfl rfl rfl rfl rfl (sa rfl (sn (sq (sr (sm rfl (s1 (len rfl rfl rfl (dS bW)) (s1 (bi rfl rfl bP) (sn ?_)))))))))
   refine cB h0 rfl (fun h0 => ?_) (fun h0 => ?_)
   ·have q := si h0; subst q
    exact sr (s1 (ig (v := .d (eS ([] : List UInt8))) rfl) (sa rfl (sn (SC.ret (aV (wc (e' := [(4, .d (eS ([] : List UInt8))), (5, .d (eI (7 : Int)))]) [] [] (by kernel_rfl) rfl (by kernel_rfl)) (aI rfl (aI rfl aG)) rfl)))))
   ·have q := si h0; subst q
    exact sk (sr (sm rfl (s1 (tF (v := .d (eS y98)) rfl (iy bW l9 uX (dx (xs := y98) rfl) (fun _ hh => by cases hh))) (sa rfl (sa rfl (sn (SC.ret (aV (wc (e' := [(4, .d (eS y98)), (5, .d (eI (0 : Int)))]) [] [] (by kernel_rfl) rfl (by kernel_rfl)) (aI rfl (aI rfl aG)) rfl))))))))
noncomputable def jE (p0 : Int) (p1 : bL) (p2 : List ay) : Option Unit :=
 bif decide ([(au.mk (1 : Int) p0 p1)].length * 88 ≤ room) then
 some ()
 else none
theorem sK (p0 : Int) (p1 : bL) (p2 : List ay) (r : Unit) (h0 : jE p0 p1 p2 = some r) : aL Tryz.prog 34 [.ref 0 0 0, .d (eI p0), .d (bX p1)] [.box (.agg [.d .aA, .slc 1 5 0 p2.length none, .d .aA]), .row 5 (List.map aK p2) true] (.tuple []) [.box (.agg [.slc 2 9 0 ([(au.mk (1 : Int) p0 p1)].length) none, .slc 1 5 0 p2.length none, .d .aA]), .row 5 (List.map aK p2) true, .row 9 (List.map aJ [(au.mk (1 : Int) p0 p1)]) true] := by
 unfold jE at h0
 refine fn0 [0, 1, 2] Tryz.func34 rfl rfl rfl rfl rfl ?_
 obtain ⟨hg3, h0⟩ := gd h0; have q := si h0; subst q
 refine sr (s1 (nH (k := 2) rfl rfl rfl) (sn (SC.draws (by kernel_rfl) (t1 ([], false) (mv rfl) rfl (t1 ([], false) (mv rfl) rfl (t1 ([], false) (gJ rfl) rfl (t1 ([], false) (far (k := 0) rfl oh oz rfl) rfl (t1 ([0], false) (aS rfl (aj oz EX rfl rfl)) rfl (t1 ([], false) (mv rfl) rfl ?_)))))))))
 refine t1 ([2], false) (aS (v := .d (bX p1)) rfl (aj xQ CS rfl rfl)) rfl (t1 ([], false) (l8 rfl (H6 (1 : Int) p0 p1)) rfl (t1 ([3], true) (tH (k := 3) (ds := List.map aJ [(au.mk (1 : Int) p0 p1)]) (off := 0) (l' := [(au.mk (1 : Int) p0 p1)].length) rfl Bo X8 rfl rfl (by rfl) rfl rfl rfl) rfl (t1 ([3, 4], true) (app rfl rfl rfl rfl aiv (aN (f := aJ) (k := 4) Bo X8 (dx (xs := [(au.mk (1 : Int) p0 p1)]) rfl) hg3 rfl)) rfl (t1 ([], false) (gJ rfl) rfl (t1 ([], false) (far (k := 0) rfl oh oz rfl) rfl (t0 ([0, 4], true) (fJ rfl rfl (sB (d' := .agg [.slc 4 9 0 ([(au.mk (1 : Int) p0 p1)].length) none, .slc 1 5 0 p2.length none, .d .aA]) oz rfl rfl rfl rfl rfl rfl rfl)) rfl (ST.nil (And.intro (by decide +kernel) ?_))))))))
 exact kG (wc (e' := []) [0, 1, 4] [0, 1] (by kernel_rfl) rfl (by kernel_rfl)) aG rfl
noncomputable def iq (p0 : ApiTable) (p1 : ApiIndex) (p2 : List ApiValue) : Option ((List UInt8) × Bool × Int) :=
 Option.bind (kW p0 p1.Parts p2) fun (r13, r14, r15) =>
 some (r13, r14, r15)
theorem qD (p0 : ApiTable) (p1 : ApiIndex) (p2 : List ApiValue) (r : (List UInt8) × Bool × Int) (h0 : iq p0 p1 p2 = some r) : aL Tryz.prog 69 [.d (eApiTable p0), .d (eApiIndex p1), .d ((eL 3 eApiValue) p2)] [] (.tuple [.d (eS r.1), .d (eB r.2.1), .d (eI r.2.2)]) [] := by
 unfold iq at h0
 refine fn0 [0, 1, 2] Tryz.func69 rfl rfl rfl rfl rfl ?_
 obtain ⟨⟨r13, r14, r15⟩, hq12, h0⟩ := ob h0; have q := si h0; subst q
 refine sr (s1 (nH (k := 0) rfl rfl rfl) (s1 (nH (k := 1) rfl rfl rfl) (s1 (ig (v := .d (eS ([] : List UInt8))) rfl) (sa rfl (sa rfl (sn (sr (s1 (aS (v := .d (eApiTable p0)) rfl (aj uE vk rfl rfl)) (s1 (far (k := 1) rfl yP zB rfl) ?_)))))))))
 refine s1 (aS rfl (aj zB L8 rfl rfl)) (sm rfl (c0 (wZ p0 p1.Parts p2 _ hq12) wf rfl rfl rfl ahJ rfl (fun _ => rfl) (fun _ => rfl) (s1 (ext rfl rfl) (s1 (ext rfl rfl) (s1 (ext rfl rfl) (sa rfl (sa rfl (sa rfl (sn ?_)))))))))
 exact SC.ret (aV (wc (e' := [(6, .d (eS r13)), (7, .d (eB r14)), (8, .d (eI r15))]) [] [] (by kernel_rfl) rfl (by kernel_rfl)) (aI rfl (aI rfl (aI rfl aG))) rfl)
noncomputable def mD (p0 : ApiTable) (p1 : ApiIndex) : Option ((List ApiColumn)) :=
 Option.bind (α := (List ApiColumn))
 (Option.bind (α := (List ApiColumn))
 (loop (Y := (List ApiColumn) × Int) (W := (List ApiColumn)) (fun (y91, Li) =>
 bif (decide (Li < (p1.Extra.length : Int))) then
 Option.bind (bF p1.Extra Li) fun Oq =>
 Option.bind (bF p0.bq Oq) fun Oo =>
 bif decide ((y91.length + [Oo].length) * 72 ≤ room) then
 some (Sum.inl ((y91 ++ [Oo]), (bD (Li + (1 : Int)))))
 else none
 else
 some (Sum.inr y91)) (([] : List ApiColumn), (0 : Int)))
 (fun e => some e))
 fun QK =>
 some QK
theorem CY (p0 : ApiTable) (p1 : ApiIndex) (r : (List ApiColumn)) (h0 : mD p0 p1 = some r) : aL Tryz.prog 103 [.d (eApiTable p0), .d (eApiIndex p1)] [] (.d ((eL 7 eApiColumn) r)) [] := by
 unfold mD at h0
 refine fn0 [0, 1] Tryz.func103 rfl rfl rfl rfl rfl ?_
 refine sr (s1 (nH (k := 0) rfl rfl rfl) (s1 (nH (k := 1) rfl rfl rfl) (s1 (ig (v := .d .aA) rfl) (sn (sr (s1 (ig (v := .d .aA) rfl) (sn (SC.bJ h0 (fun y => ⟨mk 25 [(5, .slc 0 7 0 y.length none)], [.row 7 (List.map eApiColumn y) true]⟩) ?_ ?_))))))))
 ·intro Ua h1
  obtain ⟨aeu, h2, h1⟩ := ob h1
  refine sr (s1 (far (k := 2) rfl wN jA rfl) (s1 (aS rfl (aj jA vo rfl rfl)) (s1 (len rfl rfl rfl (aZ mO)) (sm rfl (sn (SC.blk (SC.dH h2 (fun y => ⟨mk 25 [(2, .ref 0 0 0), (5, .slc 1 7 0 y.1.length none), (9, .d ((eL 1 eI) p1.Extra)), (10, .d (eI (p1.Extra.length : Int))), (11, .d (eI y.2))], [.box (.d (eApiTable p0)), .row 7 (List.map eApiColumn y.1) true]⟩) (Wk.trans (Wk.dD (σ' := [.box (.d (eApiTable p0)), .box (.d (eApiIndex p1)), .row 7 (List.map eApiColumn ([] : List ApiColumn)) true]) (.row 7 [] true) (fun _ hh => by cases hh) rfl) (Wk.trans (Wk.env (e' := [(2, .ref 0 0 0), (5, .slc 2 7 0 (([] : List ApiColumn).length) none), (9, .d ((eL 1 eI) p1.Extra)), (10, .d (eI (p1.Extra.length : Int))), (11, .d (eI (0 : Int)))]) (EW.cons (AW.refl _) (EW.cons (AW.dX _ _ _) (EW.cons (AW.refl _) (EW.cons (AW.refl _) (EW.cons (AW.refl _) EW.nil)))))) (wc [0, 2] [0, 2] (by kernel_rfl) rfl (by kernel_rfl)))) ?_)))))))
  intro n103
  rintro ⟨y91, Li⟩ ad5 h3 hv3
  refine sr (s1 (bi rfl rfl aQ) (sn (sq (cB h3 rfl (fun h3 => ?_) (fun h3 => ?_)))))
  ·obtain ⟨Oq, M6, h3⟩ := ob h3; obtain ⟨Oo, hv101, h3⟩ := ob h3; obtain ⟨aht, h3⟩ := gd h3
   refine sk (sq (SC.blk (sr (s1 (j4 rfl rfl mO bO (ak M6).1 (aT (ak M6).2) rfl) (s1 (aS rfl (bK bO dW rfl)) (sa rfl (sn (SC.region (sm rfl ?_)))))))))
   refine s1 (far (k := 1) rfl jr jB rfl) (s1 (aS rfl (aj jB vw rfl rfl)) (sm rfl (s1 (j4 rfl rfl iF jl (ak hv101).1 (aT (ak hv101).2) rfl) (s1 (aS (v := .d (eApiColumn Oo)) rfl (bK jl yg rfl)) (s1 (tH (k := 2) (ds := List.map eApiColumn [Oo]) (off := 0) (l' := [Oo].length) rfl iF acG rfl rfl (by rfl) rfl rfl rfl) (s1 (app rfl rfl rfl rfl anE (aF (f := eApiColumn) (xs := y91) (k := 3) rfl iF acG rfl (dx (xs := [Oo]) rfl) aht rfl)) (sa rfl (SO.nil ?_))))))))
   change SC _ _ _ _ _
   have q := si h3; subst q
   exact SC.region (s1 (bi rfl rfl aR) (sm rfl (SO.nil (lf (wc [0, 3] [0, 3] (by kernel_rfl) rfl (by kernel_rfl))))))
  ·have q := si h3; subst q; have q : _ = _ := hv3; subst q; have q := si h1; subst q
   exact SC.exit ((wc [1] [1] (by kernel_rfl) rfl (by kernel_rfl)))
 ·rintro QK h0
  have q := si h0; subst q
  exact sr (sm rfl (sa rfl (sn (SC.ret (aV (Wk.trans (Wk.lX (i := 4) (x := .slc 0 7 0 QK.length none) rfl rfl (fF rfl rfl rfl)) (wc (e' := [(4, .d ((eL 7 eApiColumn) QK))]) [] [] (by kernel_rfl) rfl (by kernel_rfl))) (aI rfl aG) rfl)))))
noncomputable def kX (p0 : ApiTable) (p1 : ApiIndex) (p2 : List ApiValue) : Option (Int × dN) :=
 Option.bind (iq p0 p1 p2) fun (Fg, alU, UA) =>
 bif (UA != (0 : Int)) then
 some (UA, (dN.mk ([] : List UInt8) ([] : List UInt8)))
 else
 Option.bind (gM p0 p2) fun (zG, Xy) =>
 bif decide (Fg.length + zG.length ≤ 9223372036854775807) then
 Option.bind (α := Int × dN)
 (bif (decide ((p1.Extra.length : Int) > (0 : Int))) then
 Option.bind (α := (List ApiValue))
 (Option.bind (α := (List ApiValue))
 (loop (Y := (List ApiValue) × Int) (W := (List ApiValue)) (fun (Tv, WR) =>
 bif (decide (WR < (p1.Extra.length : Int))) then
 Option.bind (bF p1.Extra WR) fun ael =>
 Option.bind (bF p2 ael) fun Oj =>
 bif decide ((Tv.length + [Oj].length) * 32 ≤ room) then
 some (Sum.inl ((Tv ++ [Oj]), (bD (WR + (1 : Int)))))
 else none
 else
 some (Sum.inr Tv)) (([] : List ApiValue), (0 : Int)))
 (fun e => some e))
 fun Tw =>
 Option.bind (mD p0 p1) fun Xx =>
 Option.bind (mP Xx Tw) fun (abd, ae2) =>
 some (ae2, (dN.mk (Fg ++ zG) abd))
 else
 some (UA, (dN.mk (Fg ++ zG) ([] : List UInt8))))
 fun (FL, WS) =>
 some (FL, WS)
 else none
theorem xg (p0 : ApiTable) (p1 : ApiIndex) (p2 : List ApiValue) (r : Int × dN) (h0 : kX p0 p1 p2 = some r) : aL Tryz.prog 68 [.d (eApiTable p0), .d (eApiIndex p1), .d ((eL 3 eApiValue) p2)] [] (.tuple [.d (bG r.2), .d (eI r.1)]) [.box (.d (bG r.2))] := by
 unfold kX at h0
 refine fn0 [0, 1, 2] Tryz.func68 rfl rfl rfl rfl rfl ?_
 obtain ⟨⟨Fg, alU, UA⟩, agB, h0⟩ := ob h0
 refine sr (s1 (nH (k := 0) rfl rfl rfl) (s1 (nH (k := 1) rfl rfl rfl) (s1 (qV (k := 2) P6 rfl) (sa rfl (sn (sr (s1 (aS (v := .d (eApiTable p0)) rfl (aj uE vk rfl rfl)) (s1 (aS (v := .d (eApiIndex p1)) rfl (aj wu F8 rfl rfl)) (sm rfl ?_)))))))))
 refine c0 (qD p0 p1 p2 _ agB) wf rfl rfl rfl acN rfl (fun _ => rfl) (fun _ => rfl) (sm rfl (s1 (ext rfl rfl) (s1 (ext rfl rfl) (s1 (ext rfl rfl) (sa rfl (sa rfl (sa rfl (sn (sq ?_)))))))))
 refine sr (sm rfl (s1 (bi rfl rfl bA) (sn (cB h0 rfl (fun h0 => ?_) (fun h0 => ?_)))))
 ·have q := si h0; subst q
  exact sr (s1 (l8 rfl (acZ )) (sm rfl (s0 (fJ rfl rfl (sB (d' := .d (bG (dN.mk ([] : List UInt8) ([] : List UInt8)))) zO rfl rfl rfl rfl rfl rfl rfl)) (sa rfl (sn (SC.ret (aV (wc (e' := [(6, .ref 0 0 0), (7, .d (eI UA))]) [2] [2] (by kernel_rfl) rfl (by kernel_rfl)) (gD rfl (aj zO L9 rfl rfl) (aI rfl aG)) rfl)))))))
 ·obtain ⟨⟨zG, Xy⟩, Vo, h0⟩ := ob h0; obtain ⟨ahg, h0⟩ := gd h0
  refine sk (sr (s1 (aS (v := .d (eApiTable p0)) rfl (aj uE vk rfl rfl)) (sm rfl (c0 (nN p0 p2 _ Vo) wf rfl rfl rfl acT rfl (fun _ => rfl) (fun _ => rfl) (sm rfl (s1 (ext rfl rfl) (s1 (ext rfl rfl) (sa rfl (sa rfl ?_)))))))))
  refine sn (sr (sm rfl (sm rfl (s1 (bi (v := .d (eS (Fg ++ zG))) rfl rfl (fun X Y => wh _ X Y Fg zG ahg)) (s1 (l8 rfl (Ye (Fg ++ zG))) (s1 (qV (k := 3) P6 rfl) (s0 (fJ rfl rfl (sB (d' := .d (bG (dN.mk (Fg ++ zG) ([] : List UInt8)))) zO rfl rfl rfl rfl rfl rfl rfl)) (sn (SC.bJ h0 (fun y => ⟨mk 69 [(6, .ref 0 0 0), (10, .d (eI y.1)), (13, .ref 1 0 0)], [.box (.d (bG (dN.mk ([] : List UInt8) ([] : List UInt8)))), .box (.d (bG y.2))]⟩) ?_ ?_)))))))))
  ·intro alj h1
   refine sr (s1 (far (k := 2) rfl wN jA rfl) (s1 (aS rfl (aj jA vo rfl rfl)) (s1 (len rfl rfl rfl (aZ mO)) (s1 (bi rfl rfl bP) (sn (cB h1 rfl (fun h1 => ?_) (fun h1 => ?_)))))))
   ·refine sr (s1 (ig (v := .d .aA) rfl) (sn (SC.bJ h1 (fun y => ⟨mk 69 [(3, .ref 0 0 0), (4, .ref 1 0 0), (6, .ref 2 0 0), (13, .ref 3 0 0), (14, .slc 4 3 0 y.length none)], [.box (.d (eApiTable p0)), .box (.d (eApiIndex p1)), .box (.d (bG (dN.mk ([] : List UInt8) ([] : List UInt8)))), .box (.d (bG (dN.mk (Fg ++ zG) ([] : List UInt8)))), .row 3 (List.map eApiValue y) true]⟩) ?_ ?_)))
    ·intro akA h2
     obtain ⟨akj, h3, h2⟩ := ob h2
     refine sr (s1 (far (k := 2) rfl wN jA rfl) (s1 (aS rfl (aj jA vo rfl rfl)) (s1 (len rfl rfl rfl (aZ mO)) (sm rfl (sn (SC.blk (SC.dH h3 (fun y => ⟨mk 69 [(2, .d ((eL 3 eApiValue) p2)), (3, .ref 0 0 0), (4, .ref 1 0 0), (6, .ref 2 0 0), (13, .ref 3 0 0), (14, .slc 4 3 0 y.1.length none), (44, .d ((eL 1 eI) p1.Extra)), (45, .d (eI (p1.Extra.length : Int))), (46, .d (eI y.2))], [.box (.d (eApiTable p0)), .box (.d (eApiIndex p1)), .box (.d (bG (dN.mk ([] : List UInt8) ([] : List UInt8)))), .box (.d (bG (dN.mk (Fg ++ zG) ([] : List UInt8)))), .row 3 (List.map eApiValue y.1) true]⟩) (Wk.trans (Wk.dD (σ' := [.box (.d (eApiTable p0)), .box (.d (eApiIndex p1)), .box (.d (bG (dN.mk ([] : List UInt8) ([] : List UInt8)))), .box (.d (bG (dN.mk (Fg ++ zG) ([] : List UInt8)))), .row 3 (List.map eApiValue ([] : List ApiValue)) true]) (.row 3 [] true) (fun _ hh => by cases hh) rfl) (Wk.trans (Wk.env (e' := [(2, .d ((eL 3 eApiValue) p2)), (3, .ref 0 0 0), (4, .ref 1 0 0), (6, .ref 2 0 0), (13, .ref 3 0 0), (14, .slc 4 3 0 (([] : List ApiValue).length) none), (44, .d ((eL 1 eI) p1.Extra)), (45, .d (eI (p1.Extra.length : Int))), (46, .d (eI (0 : Int)))]) (EW.cons (AW.refl _) (EW.cons (AW.refl _) (EW.cons (AW.refl _) (EW.cons (AW.refl _) (EW.cons (AW.refl _) (EW.cons (AW.dX _ _ _) (EW.cons (AW.refl _) (EW.cons (AW.refl _) (EW.cons (AW.refl _) EW.nil)))))))))) (wq rfl))) ?_)))))))
     intro n264
     rintro ⟨Tv, WR⟩ ajh h4 hv4
     refine sr (s1 (bi rfl rfl aQ) (sn (sq (cB h4 rfl (fun h4 => ?_) (fun h4 => ?_)))))
     ·obtain ⟨ael, ZI, h4⟩ := ob h4; obtain ⟨Oj, ZH, h4⟩ := ob h4; obtain ⟨ahc, h4⟩ := gd h4
      refine sk (sq (SC.blk (sr (s1 (j4 rfl rfl mO bO (ak ZI).1 (aT (ak ZI).2) rfl) (s1 (aS rfl (bK bO dW rfl)) (sa rfl (sn (SC.region (sm rfl ?_)))))))))
      refine sm rfl (sm rfl (s1 (j4 rfl rfl fu d9 (ak ZH).1 (aT (ak ZH).2) rfl) (s1 (aS (v := .d (eApiValue Oj)) rfl (bK d9 kD rfl)) (s1 (tH (k := 5) (ds := List.map eApiValue [Oj]) (off := 0) (l' := [Oj].length) rfl fu wT rfl rfl (by rfl) rfl rfl rfl) (s1 (app rfl rfl rfl rfl bc28 (aF (f := eApiValue) (xs := Tv) (k := 6) rfl fu wT rfl (dx (xs := [Oj]) rfl) ahc rfl)) (sa rfl (SO.nil ?_)))))))
      change SC _ _ _ _ _
      have q := si h4; subst q
      exact SC.region (s1 (bi rfl rfl aR) (sm rfl (SO.nil (lf (wc [0, 1, 2, 3, 6] [0, 1, 2, 3, 6] (by kernel_rfl) rfl (by kernel_rfl))))))
     ·have q := si h4; subst q; have q : _ = _ := hv4; subst q; have q := si h2; subst q
      exact SC.exit ((wq rfl))
    ·rintro Tw h1
     obtain ⟨Xx, agn, h1⟩ := ob h1; obtain ⟨⟨abd, ae2⟩, agm, h1⟩ := ob h1; have q := si h1; subst q
     refine SC.region (s1 (aS (v := .d (eApiTable p0)) rfl (aj uE vk rfl rfl)) (s1 (aS (v := .d (eApiIndex p1)) rfl (aj wu F8 rfl rfl)) (c0 (CY p0 p1 _ agn) wf rfl rfl rfl aio rfl (fun _ => rfl) (fun _ => rfl) (sm rfl (cq (args' := [.d ((eL 7 eApiColumn) Xx), .slc 0 3 0 Tw.length none]) (lT := [.row 3 (List.map eApiValue Tw) true]) [4] [] (aL.lX (fM.keep (fM.lX (fF rfl rfl rfl) (fM.nil _))) (fq [] [] (uG Xx Tw _ agm) rfl rfl rfl rfl rfl rfl rfl rfl)) wf rfl rfl rfl acU rfl rfl rfl rfl rfl rfl rfl rfl (sm rfl (s1 (ext rfl rfl) (s1 (ext rfl rfl) (s1 (far (k := 1) rfl Qw eT rfl) ?_)))))))))
     exact s0 (fJ rfl rfl (sB (d' := .d (bG (dN.mk (Fg ++ zG) abd))) eT rfl rfl rfl rfl rfl rfl rfl)) (sa rfl (SO.nil ((wc [2, 3] [2, 3] (by kernel_rfl) rfl (by kernel_rfl)))))
   ·have q := si h1; subst q
    exact SC.skip ((wc [2, 3] [2, 3] (by kernel_rfl) rfl (by kernel_rfl)))
  ·rintro ⟨FL, WS⟩ h0
   have q := si h0; subst q
   exact sr (s1 (aS (v := .d (bG WS)) rfl (aj zO L9 rfl rfl)) (sm rfl (s0 (fJ rfl rfl (sB (d' := .d (bG WS)) zO rfl rfl rfl rfl rfl rfl rfl)) (sa rfl (sn (SC.ret (aV (wc (e' := [(6, .ref 0 0 0), (7, .d (eI FL))]) [0] [0] (by kernel_rfl) rfl (by kernel_rfl)) (gD rfl (aj zO L9 rfl rfl) (aI rfl aG)) rfl)))))))
noncomputable def vQ (p0 : List UInt8) : Option ((List UInt8) × Bool) :=
 Option.bind (α := Nat)
 (Option.bind (α := Nat)
 (loop (Y := Nat) (W := Nat) (fun Ae =>
 Option.bind (α := Bool)
 (bif (decide ((Ae : Int) > (0 : Int))) then
 Option.bind (qY p0 0 Ae (bD ((Ae : Int) - (1 : Int)))) fun aen =>
 some (aen == (255 : UInt8))
 else
 some false)
 fun LH =>
 bif LH then
 bif decide (0 ≤ (bD ((Ae : Int) - (1 : Int))) ∧ (bD ((Ae : Int) - (1 : Int))) ≤ (Ae : Int)) then
 some (Sum.inl ((bD ((Ae : Int) - (1 : Int))).toNat))
 else none
 else
 some (Sum.inr Ae)) p0.length)
 (fun e => some e))
 fun y113 =>
 bif ((y113 : Int) == (0 : Int)) then
 some (([] : List UInt8), false)
 else
 Option.bind (qY p0 0 y113 (bD ((y113 : Int) - (1 : Int)))) fun ES =>
 Option.bind (qY p0 0 y113 (bD ((y113 : Int) - (1 : Int)))) fun ajM =>
 bif decide (0 + y113 ≤ (List.set p0 ((bD ((y113 : Int) - (1 : Int))).toNat) (ES + (1 : UInt8))).length) then
 some ((List.take y113 (List.drop 0 (List.set p0 ((bD ((y113 : Int) - (1 : Int))).toNat) (ES + (1 : UInt8))))), true)
 else none
theorem KG (p0 : List UInt8) (r : (List UInt8) × Bool) (h0 : vQ p0 = some r) : aL Tryz.prog 104 [.d (eS p0)] [] (.tuple [.d (eS r.1), .d (eB r.2)]) [] := by
 unfold vQ at h0
 refine fn0 [0] Tryz.func104 rfl rfl rfl rfl rfl ?_
 refine sr (s1 (ig (v := .d (eS ([] : List UInt8))) rfl) (sa rfl (sn (sr (sm rfl (s1 (cvs (s := p0) (k := 0) rfl l9 bW uX qQ rfl) (sa rfl (sn (SC.bJ h0 (fun y => ⟨mk 37 [(4, .slc 0 1 0 y none)], [.row 1 (List.map bR p0) true]⟩) ?_ ?_)))))))))
 ·intro alA h1
  obtain ⟨akN, h2, h1⟩ := ob h1
  refine SC.blk (SC.dH h2 (fun y => ⟨mk 37 [(4, .slc 0 1 0 y none)], [.row 1 (List.map bR p0) true]⟩) (wq rfl) ?_)
  intro n134
  rintro Ae ajy h3 hv3
  refine sq (SC.bJ h3 (fun y => ⟨mk 37 [(4, .slc 0 1 0 Ae none), (18, .d (eB y))], [.row 1 (List.map bR p0) true]⟩) ?_ ?_)
  ·intro ake h4
   refine SC.region (sm rfl (s1 (len rfl rfl rfl (dS bW)) (s1 (bi rfl rfl bP) (sm rfl (sp h4 (fun h4 => ?_) (fun h4 => ?_))))))
   ·obtain ⟨aen, ZW, h4⟩ := ob h4; have q := si h4; subst q
    exact gw rfl (mv rfl) (gw rfl (mv rfl) (gw rfl (len rfl rfl rfl (dS bW)) (gw rfl (bi rfl rfl fD) (gw rfl (CB rfl rfl bW qQ (gu ZW).1) (gw rfl (aS rfl (gH qQ Ov rfl (aT (by have q := (gu ZW).2; simpa using q)) rfl)) (gw rfl (bi rfl rfl (Gw (b := (255 : UInt8)))) (s1 (pkt rfl rfl) (SO.nil ((wq rfl))))))))))
   ·have q := si h4; subst q
    exact kw rfl (kw rfl (kw rfl (kw rfl (kw rfl (kw rfl (kw rfl (s1 (dB rfl rfl) (SO.nil ((wq rfl))))))))))
  ·rintro LH h3
   refine cB h3 rfl (fun h3 => ?_) (fun h3 => ?_)
   ·obtain ⟨aho, h3⟩ := gd h3; have q := si h3; subst q
    refine sk (SC.blk (SC.region (sm rfl (sm rfl (s1 (len rfl rfl rfl (dS bW)) (s1 (bi rfl rfl fD) (s1 (SV rfl rfl rfl rfl (CW bW qQ aho)) (sa rfl (SO.nil ?_)))))))))
    exact lf (wq rfl)
   ·have q := si h3; subst q; have q : _ = _ := hv3; subst q; have q := si h1; subst q
    exact SC.exit ((wq rfl))
 ·rintro y113 h0
  refine sq (sr (sm rfl (s1 (len rfl rfl rfl (dS bW)) (s1 (bi rfl rfl aP) (sn (cB h0 rfl (fun h0 => ?_) (fun h0 => ?_)))))))
  ·have q := si h0; subst q
   exact sr (s1 (ig (v := .d (eS ([] : List UInt8))) rfl) (sa rfl (sn (SC.ret (aV (wc (e' := [(2, .d (eS ([] : List UInt8))), (3, .d (eB false))]) [] [] (by kernel_rfl) rfl (by kernel_rfl)) (aI rfl (aI rfl aG)) rfl)))))
  ·obtain ⟨ES, MZ, h0⟩ := ob h0; obtain ⟨ajM, ZU, h0⟩ := ob h0; obtain ⟨ahn, h0⟩ := gd h0; have q := si h0; subst q
   refine sk (sr (sm rfl (sm rfl (s1 (len rfl rfl rfl (dS bW)) (s1 (bi rfl rfl fD) (s1 (CB rfl rfl bW qQ (gu MZ).1) (s1 (aS rfl (gH qQ Ov rfl (aT (by have q := (gu MZ).2; simpa using q)) rfl)) (s1 (bi rfl rfl (UN (b := (1 : UInt8)))) (s1 (CB rfl rfl bW qQ (gu ZU).1) ?_)))))))))
   exact s0 (fJ (b := .d (bR (ES + (1 : UInt8)))) rfl rfl (sR (f := bR) (v := (ES + (1 : UInt8))) qQ rfl rfl rfl rfl (by have q := (gu ZU).2; simpa using q) rfl rfl)) (sn (sr (sm rfl (s1 (tF (v := .d (eS (List.take y113 (List.drop 0 (List.set p0 ((bD ((y113 : Int) - (1 : Int))).toNat) (ES + (1 : UInt8))))))) rfl (iy bW l9 uX (Po (xs := (List.set p0 ((bD ((y113 : Int) - (1 : Int))).toNat) (ES + (1 : UInt8)))) rfl ahn) (fun _ hh => by cases hh))) (sa rfl (sa rfl (sn (SC.ret (aV (wc (e' := [(2, .d (eS (List.take y113 (List.drop 0 (List.set p0 ((bD ((y113 : Int) - (1 : Int))).toNat) (ES + (1 : UInt8))))))), (3, .d (eB true))]) [] [] (by kernel_rfl) rfl (by kernel_rfl)) (aI rfl (aI rfl aG)) rfl)))))))))
noncomputable def vP (p0 : List UInt8) : Option aU :=
 Option.bind (vQ p0) fun (r9, OM) =>
 some (aU.mk p0 r9 (!OM))
theorem KF (p0 : List UInt8) (r : aU) (h0 : vP p0 = some r) : aL Tryz.prog 71 [.d (eS p0)] [] (.d (eZ r)) [.box (.d (eZ r))] := by
 unfold vP at h0
 refine fn0 [0] Tryz.func71 rfl rfl rfl rfl rfl ?_
 obtain ⟨⟨r9, OM⟩, hq8, h0⟩ := ob h0; have q := si h0; subst q
 refine sr (s1 (qV (k := 0) WG rfl) (sn (sr (sm rfl (c0 (KG p0 _ hq8) wf rfl rfl rfl ain rfl (fun _ => rfl) (fun _ => rfl) (sm rfl (s1 (ext rfl rfl) (s1 (ext rfl rfl) (sa rfl ?_)))))))))
 refine sa rfl (sn (sr (sm rfl (sm rfl (sm rfl (s1 (nt rfl) (s1 (l8 rfl (PK p0 r9 (!OM))) (s0 (fJ rfl rfl (sB (d' := .d (eZ (aU.mk p0 r9 (!OM)))) Ah rfl rfl rfl rfl rfl rfl rfl)) (sn ?_)))))))))
 exact SC.ret (aV (Wk.refl _) (gD rfl (aj Ah J2 rfl rfl) aG) rfl)
noncomputable def pR (p0 : Int) (p1 : bL) (p2 : List au) (p3 : List ay) (p4 : List aX) : Option Unit :=
 bif decide ((p2.length + [(au.mk (1 : Int) p0 p1)].length) * 88 ≤ room) then
 some ()
 else none
theorem DC (p0 : Int) (p1 : bL) (p2 : List au) (p3 : List ay) (p4 : List aX) (r : Unit) (h0 : pR p0 p1 p2 p3 p4 = some r) : aL Tryz.prog 34 [.ref 0 0 0, .d (eI p0), .d (bX p1)] [.box (.agg [.slc 1 9 0 p2.length none, .slc 2 5 0 p3.length none, .slc 3 4 0 p4.length none]), .row 9 (List.map aJ p2) true, .row 5 (List.map aK p3) true, .row 4 (List.map bg p4) true] (.tuple []) [.box (.agg [.slc 4 9 0 ((p2 ++ [(au.mk (1 : Int) p0 p1)]).length) none, .slc 2 5 0 p3.length none, .slc 3 4 0 p4.length none]), .dead, .row 5 (List.map aK p3) true, .row 4 (List.map bg p4) true, .row 9 (List.map aJ (p2 ++ [(au.mk (1 : Int) p0 p1)])) true] := by
 unfold pR at h0
 refine fn0 [0, 1, 2] Tryz.func34 rfl rfl rfl rfl rfl ?_
 obtain ⟨hg3, h0⟩ := gd h0; have q := si h0; subst q
 refine sr (s1 (nH (k := 4) rfl rfl rfl) (sn (SC.draws (by kernel_rfl) (t1 ([], false) (mv rfl) rfl (t1 ([], false) (mv rfl) rfl (t1 ([], false) (gJ rfl) rfl (t1 ([], false) (far (k := 0) rfl oh oz rfl) rfl (t1 ([0], false) (aS rfl (aj oz EX rfl rfl)) rfl (t1 ([], false) (mv rfl) rfl ?_)))))))))
 refine t1 ([4], false) (aS (v := .d (bX p1)) rfl (aj xQ CS rfl rfl)) rfl (t1 ([], false) (l8 rfl (H6 (1 : Int) p0 p1)) rfl (t1 ([5], true) (tH (k := 5) (ds := List.map aJ [(au.mk (1 : Int) p0 p1)]) (off := 0) (l' := [(au.mk (1 : Int) p0 p1)].length) rfl Bo X8 rfl rfl (by rfl) rfl rfl rfl) rfl (t1 ([1, 5, 6], true) (app rfl rfl rfl rfl aiv (aF (f := aJ) (xs := p2) (k := 6) rfl Bo X8 rfl (dx (xs := [(au.mk (1 : Int) p0 p1)]) rfl) hg3 rfl)) rfl (t1 ([], false) (gJ rfl) rfl (t1 ([], false) (far (k := 0) rfl oh oz rfl) rfl (t0 ([0, 6], true) (fJ rfl rfl (sB (d' := .agg [.slc 6 9 0 ((p2 ++ [(au.mk (1 : Int) p0 p1)]).length) none, .slc 2 5 0 p3.length none, .slc 3 4 0 p4.length none]) oz rfl rfl rfl rfl rfl rfl rfl)) rfl (ST.nil (And.intro (by decide +kernel) ?_))))))))
 exact kG (wc (e' := []) [0, 1, 2, 3, 6] [0, 1, 2, 3] (by kernel_rfl) rfl (by kernel_rfl)) aG rfl
noncomputable def om (p0 : Int) (p1 : List UInt8) (p2 : List au) (p3 : List ay) (p4 : List aX) : Option Unit :=
 Option.bind (o7 p1) fun _ =>
 bif decide ((p3.length + [(ay.mk p0 (aU.mk p1 (p1 ++ ([0] : List UInt8)) false) true)].length) * 56 ≤ room) then
 some ()
 else none
theorem Cg (p0 : Int) (p1 : List UInt8) (p2 : List au) (p3 : List ay) (p4 : List aX) (r : Unit) (h0 : om p0 p1 p2 p3 p4 = some r) : aL Tryz.prog 31 [.ref 0 0 0, .d (eI p0), .d (eS p1)] [.box (.agg [.slc 1 9 0 p2.length none, .slc 2 5 0 p3.length none, .slc 3 4 0 p4.length none]), .row 9 (List.map aJ p2) true, .row 5 (List.map aK p3) true, .row 4 (List.map bg p4) true] (.tuple []) [.box (.agg [.slc 1 9 0 p2.length none, .slc 4 5 0 ((p3 ++ [(ay.mk p0 (aU.mk p1 (p1 ++ ([0] : List UInt8)) false) true)]).length) none, .slc 3 4 0 p4.length none]), .row 9 (List.map aJ p2) true, .dead, .row 4 (List.map bg p4) true, .row 5 (List.map aK (p3 ++ [(ay.mk p0 (aU.mk p1 (p1 ++ ([0] : List UInt8)) false) true)])) true] := by
 unfold om at h0
 refine fn0 [0, 1, 2] Tryz.func31 rfl rfl rfl rfl rfl ?_
 obtain ⟨_, XP, h0⟩ := ob h0; obtain ⟨hg6, h0⟩ := gd h0; have q := si h0; subst q
 refine SC.draws (by kernel_rfl) (t1 ([], false) (mv rfl) rfl (t1 ([], false) (mv rfl) rfl (t1 ([], false) (gJ rfl) rfl (t1 ([], false) (far (k := 1) rfl yR sW rfl) rfl (t1 ([0], false) (aS rfl (aj sW Ox rfl rfl)) rfl (t1 ([], false) (mv rfl) rfl (t1 ([], false) (mv rfl) rfl (tq [] [4] ([4], true) (wR p1 _ XP) wf rfl rfl rfl cb6 rfl rfl rfl rfl rfl rfl rfl rfl rfl (t1 ([], false) (l8 rfl (yV p0 (aU.mk p1 (p1 ++ ([0] : List UInt8)) false) true)) rfl ?_)))))))))
 refine t1 ([5], true) (tH (k := 5) (ds := List.map aK [(ay.mk p0 (aU.mk p1 (p1 ++ ([0] : List UInt8)) false) true)]) (off := 0) (l' := [(ay.mk p0 (aU.mk p1 (p1 ++ ([0] : List UInt8)) false) true)].length) rfl Bn EC rfl rfl (by rfl) rfl rfl rfl) rfl (t1 ([2, 5, 6], true) (app rfl rfl rfl rfl Yf (aF (f := aK) (xs := p3) (k := 6) rfl Bn EC rfl (dx (xs := [(ay.mk p0 (aU.mk p1 (p1 ++ ([0] : List UInt8)) false) true)]) rfl) hg6 rfl)) rfl (t1 ([], false) (gJ rfl) rfl (t1 ([], false) (far (k := 1) rfl yR sW rfl) rfl (t0 ([0, 6], true) (fJ rfl rfl (sB (d' := .agg [.slc 1 9 0 p2.length none, .slc 6 5 0 ((p3 ++ [(ay.mk p0 (aU.mk p1 (p1 ++ ([0] : List UInt8)) false) true)]).length) none, .slc 3 4 0 p4.length none]) sW rfl rfl rfl rfl rfl rfl rfl)) rfl (ST.nil (And.intro (by decide +kernel) ?_))))))
 exact kG (wc (e' := []) [0, 1, 2, 3, 6] [0, 1, 2, 3] (by kernel_rfl) rfl (by kernel_rfl)) aG rfl
end Lv
