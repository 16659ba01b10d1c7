/- Part of the proof of a law: functions and their walks. -/
import Derived.Test.YtjnpmmiacggffaaGreatDoorXFn1
namespace Lv
open Go Go.Proofs
set_option linter.unusedVariables false
set_option linter.unusedSimpArgs false
set_option linter.unusedSectionVars false
set_option maxRecDepth 100000
variable [bJ] [uO]
noncomputable def ug (p0 : List UInt8) : Option Bool :=
 eu (Y := Unit) (E := Bool)
 (Option.bind (α := Unit ⊕ Bool)
 (loop (Y := Int) (W := Unit ⊕ Bool) (fun Dy =>
 bif (decide (Dy < (p0.length : Int))) then
 Option.bind (bG p0 Dy) fun BI =>
 eu (Y := Int × Int × Int) (E := Bool)
 (bif (decide ((BI.toNat : Int) < (128 : Int))) then
 some (Sum.inl ((1 : Int), (0 : Int), (BI.toNat : Int)))
 else
 Option.bind (α := Bool)
 (bif (decide ((BI.toNat : Int) ≥ (194 : Int))) then
 some (decide ((BI.toNat : Int) < (224 : Int)))
 else
 some false)
 fun Fe =>
 bif Fe then
 some (Sum.inl ((2 : Int), (128 : Int), (bF ((BI.toNat : Int) - (192 : Int)))))
 else
 Option.bind (α := Bool)
 (bif (decide ((BI.toNat : Int) ≥ (224 : Int))) then
 some (decide ((BI.toNat : Int) < (240 : Int)))
 else
 some false)
 fun aga =>
 bif aga then
 some (Sum.inl ((3 : Int), (2048 : Int), (bF ((BI.toNat : Int) - (224 : Int)))))
 else
 Option.bind (α := Bool)
 (bif (decide ((BI.toNat : Int) ≥ (240 : Int))) then
 some (decide ((BI.toNat : Int) < (245 : Int)))
 else
 some false)
 fun af9 =>
 bif af9 then
 some (Sum.inl ((4 : Int), (65536 : Int), (bF ((BI.toNat : Int) - (240 : Int)))))
 else
 some (Sum.inr false))
 (fun (Ov, Ve, agb) =>
 bif (decide ((bF (Dy + Ov)) > (p0.length : Int))) then
 some (Sum.inr (Sum.inr false))
 else
 eu (Y := Int) (E := Bool)
 (Option.bind (α := Int ⊕ Bool)
 (loop (Y := Int × Int) (W := Int ⊕ Bool) (fun (YG, Vb) =>
 bif (decide (Vb < Ov)) then
 Option.bind (bG p0 (bF (Dy + Vb))) fun Mw =>
 Option.bind (α := Bool)
 (bif (decide ((Mw.toNat : Int) < (128 : Int))) then
 some true
 else
 some (decide ((Mw.toNat : Int) ≥ (192 : Int))))
 fun af6 =>
 bif af6 then
 some (Sum.inr (Sum.inr false))
 else
 some (Sum.inl ((bF ((bF ((bF (YG * (64 : Int))) + (Mw.toNat : Int))) - (128 : Int))), (bF (Vb + (1 : Int)))))
 else
 some (Sum.inr (Sum.inl YG))) (agb, (1 : Int)))
 (Sum.elim (fun e => some (Sum.inl e)) (fun e => some (Sum.inr e))))
 (fun Vd =>
 Option.bind (α := Bool)
 (bif (decide (Vd < Ve)) then
 some true
 else
 bif (decide (Vd > (1114111 : Int))) then
 some true
 else
 bif (decide (Vd ≥ (55296 : Int))) then
 some (decide (Vd < (57344 : Int)))
 else
 some false)
 fun af5 =>
 bif af5 then
 some (Sum.inr (Sum.inr false))
 else
 some (Sum.inl (bF (Dy + Ov))))
 (fun e => some (Sum.inr (Sum.inr e))))
 (fun e => some (Sum.inr (Sum.inr e)))
 else
 some (Sum.inr (Sum.inl ()))) (0 : Int))
 (Sum.elim (fun e => some (Sum.inl e)) (fun e => some (Sum.inr e))))
 (fun _ =>
 some true)
 (fun e => some e)
theorem KU (p0 : List UInt8) (r : Bool) (h0 : ug p0 = some r) : aO Tryz.prog 116 [.d (eS p0)] [] (.d (eB r)) [] := by
 unfold ug at h0
 refine fn0 [0] Tryz.func116 rfl rfl rfl rfl rfl ?_
 refine sr (sa rfl (sn (SC.seqB h0 (fun y => ⟨mk 95 [], []⟩) ?_ ?_)))
 ·intro an7 h1 h0
  obtain ⟨anx, h2, h1⟩ := ob h1
  refine sr (sa rfl (sn (SC.blk (SC.dL h2 (fun y => ⟨mk 95 [(0, .d (eS p0)), (3, .d (eI y))], []⟩) (wq rfl) ?_))))
  intro arv
  rintro Dy al8 h3 hv3
  refine sq (sr (sm rfl (sm rfl (s1 (len rfl rfl rfl (ny uR)) (s1 (bi rfl rfl aJ) (sn (cB h3 rfl (fun h3 => ?_) (fun h3 => ?_))))))))
  ·obtain ⟨BI, abZ, h3⟩ := ob h3
   refine sk (SC.blk (sr (sm rfl (sm rfl (s1 (ixs rfl rfl rfl rfl (lH uR (aj abZ).1 (aj abZ).2)) (s1 (Qw rfl (Mc TI QJ BI)) (sa rfl (sn (sr ?_)))))))))
   refine sa rfl (sn (sr (sa rfl (sn (sr (sm rfl (sa rfl (sn (SC.seqB h3 (fun y => ⟨mk 95 [(0, .d (eS p0)), (3, .d (eI Dy)), (5, .d (eI y.1)), (6, .d (eI y.2.1)), (7, .d (eI y.2.2))], []⟩) ?_ ?_)))))))))
   ·intro anb h4 h3
    refine SC.blk (sr (sm rfl (s1 (bi rfl rfl aJ) (sa rfl (sn (cB h4 rfl (fun h4 => ?_) (fun h4 => ?_)))))))
    ·have q := si h4; subst q
     exact SC.skip (lf (wq rfl))
    ·refine SC.bV h4 (fun y => ⟨mk 95 [(0, .d (eS p0)), (3, .d (eI Dy)), (4, .d (eI (BI.toNat : Int))), (22, .d (eB y))], []⟩) ?_ ?_
     ·intro adz h5
      refine SC.region (sm rfl (s1 (bi rfl rfl dW) (sm rfl (sp h5 (fun h5 => ?_) (fun h5 => ?_)))))
      ·have q := si h5; subst q
       exact gw rfl (mv rfl) (gw rfl (bi rfl rfl aJ) (s1 (pkt rfl rfl) (sa rfl (SO.nil ((wq rfl))))))
      ·have q := si h5; subst q
       exact kw rfl (kw rfl (s1 (dx rfl rfl) (sa rfl (SO.nil ((wq rfl))))))
     ·rintro Fe h4
      refine cB h4 rfl (fun h4 => ?_) (fun h4 => ?_)
      ·have q := si h4; subst q
       exact SC.region (sm rfl (s1 (bi rfl rfl dK) (sa rfl (sa rfl (sa rfl (SO.nil (lf (wq rfl))))))))
      ·refine SC.bV h4 (fun y => ⟨mk 95 [(0, .d (eS p0)), (3, .d (eI Dy)), (4, .d (eI (BI.toNat : Int))), (31, .d (eB y))], []⟩) ?_ ?_
       ·intro amX h5
        refine SC.region (sm rfl (s1 (bi rfl rfl dW) (sm rfl (sp h5 (fun h5 => ?_) (fun h5 => ?_)))))
        ·have q := si h5; subst q
         exact gw rfl (mv rfl) (gw rfl (bi rfl rfl aJ) (s1 (pkt rfl rfl) (sa rfl (SO.nil ((wq rfl))))))
        ·have q := si h5; subst q
         exact kw rfl (kw rfl (s1 (dx rfl rfl) (sa rfl (SO.nil ((wq rfl))))))
       ·rintro aga h4
        refine cB h4 rfl (fun h4 => ?_) (fun h4 => ?_)
        ·have q := si h4; subst q
         exact SC.region (sm rfl (s1 (bi rfl rfl dK) (sa rfl (sa rfl (sa rfl (SO.nil (lf (wq rfl))))))))
        ·refine SC.bV h4 (fun y => ⟨mk 95 [(0, .d (eS p0)), (3, .d (eI Dy)), (4, .d (eI (BI.toNat : Int))), (40, .d (eB y))], []⟩) ?_ ?_
         ·intro amW h5
          refine SC.region (sm rfl (s1 (bi rfl rfl dW) (sm rfl (sp h5 (fun h5 => ?_) (fun h5 => ?_)))))
          ·have q := si h5; subst q
           exact gw rfl (mv rfl) (gw rfl (bi rfl rfl aJ) (s1 (pkt rfl rfl) (sa rfl (SO.nil ((wq rfl))))))
          ·have q := si h5; subst q
           exact kw rfl (kw rfl (s1 (dx rfl rfl) (sa rfl (SO.nil ((wq rfl))))))
         ·rintro af9 h4
          refine cB h4 rfl (fun h4 => ?_) (fun h4 => ?_)
          ·have q := si h4; subst q
           exact SC.region (sm rfl (s1 (bi rfl rfl dK) (sa rfl (sa rfl (sa rfl (SO.nil (lf (wq rfl))))))))
          ·have q := si h4; subst q; have q := si h3; subst q; have q : _ = _ := hv3; subst q; have q := si h1; subst q; have q := si h0; subst q
           exact sr (sa rfl (sn (SC.ret (bQ (Wk.refl _) (aZ rfl aX) rfl))))
   ·rintro ⟨Ov, Ve, agb⟩ h3
    refine sq (sr (sm rfl (sm rfl (s1 (bi rfl rfl aT) (sm rfl (s1 (len rfl rfl rfl (ny uR)) (s1 (bi rfl rfl bM) (sn (cB h3 rfl (fun h3 => ?_) (fun h3 => ?_))))))))))
    ·have q := si h3; subst q; have q : _ = _ := hv3; subst q; have q := si h1; subst q; have q := si h0; subst q
     exact sr (sa rfl (sn (SC.ret (bQ (Wk.refl _) (aZ rfl aX) rfl))))
    ·refine sk (SC.seqB h3 (fun y => ⟨mk 95 [(0, .d (eS p0)), (3, .d (eI Dy)), (5, .d (eI Ov)), (6, .d (eI Ve)), (7, .d (eI y))], []⟩) ?_ ?_)
     ·intro ana h4 h3
      obtain ⟨amU, h5, h4⟩ := ob h4
      refine sr (sa rfl (sn (SC.blk (SC.dL h5 (fun y => ⟨mk 95 [(0, .d (eS p0)), (3, .d (eI Dy)), (5, .d (eI Ov)), (6, .d (eI Ve)), (7, .d (eI y.1)), (8, .d (eI y.2))], []⟩) (wq rfl) ?_))))
      intro arx
      rintro ⟨YG, Vb⟩ al4 h6 hv6
      refine sq (sr (sm rfl (sm rfl (s1 (bi rfl rfl aJ) (sn (cB h6 rfl (fun h6 => ?_) (fun h6 => ?_)))))))
      ·obtain ⟨Mw, PI, h6⟩ := ob h6
       refine sk (sq (SC.blk (sr (sm rfl (sm rfl (sm rfl (s1 (bi rfl rfl aT) (s1 (ixs rfl rfl rfl rfl (lH uR (aj PI).1 (aj PI).2)) (s1 (Qw rfl (Mc TI QJ Mw)) ?_)))))))))
       refine sa rfl (sn (sq (SC.bV h6 (fun y => ⟨mk 95 [(0, .d (eS p0)), (3, .d (eI Dy)), (5, .d (eI Ov)), (6, .d (eI Ve)), (7, .d (eI YG)), (8, .d (eI Vb)), (9, .d (eI (Mw.toNat : Int))), (71, .d (eB y))], []⟩) ?_ ?_)))
       ·intro amT h7
        refine SC.region (sm rfl (s1 (bi rfl rfl aJ) (sm rfl (sp h7 (fun h7 => ?_) (fun h7 => ?_)))))
        ·have q := si h7; subst q
         exact kw rfl (kw rfl (s1 (pkt rfl rfl) (SO.nil ((wq rfl)))))
        ·have q := si h7; subst q
         exact gw rfl (mv rfl) (gw rfl (bi rfl rfl dW) (s1 (dx rfl rfl) (SO.nil ((wq rfl)))))
       ·rintro af6 h6
        refine cB h6 rfl (fun h6 => ?_) (fun h6 => ?_)
        ·have q := si h6; subst q; have q : _ = _ := hv6; subst q; have q := si h4; subst q; have q := si h3; subst q; have q : _ = _ := hv3; subst q; have q := si h1; subst q; have q := si h0; subst q
         exact sr (sa rfl (sn (SC.ret (bQ (Wk.refl _) (aZ rfl aX) rfl))))
        ·refine sk (SC.region (sm rfl (s1 (bi rfl rfl ng) (sm rfl (s1 (bi rfl rfl aT) (s1 (bi rfl rfl dK) (sa rfl (SO.nil ?_))))))))
         change SC _ _ _ _ _
         have q := si h6; subst q
         exact SC.region (sm rfl (s1 (bi rfl rfl aT) (sa rfl (SO.nil (lf (wq rfl))))))
      ·have q := si h6; subst q; have q : _ = _ := hv6; subst q; have q := si h4; subst q
       exact SC.exit (lf (wq rfl))
     ·rintro Vd h3
      refine sq (SC.bV h3 (fun y => ⟨mk 95 [(0, .d (eS p0)), (3, .d (eI Dy)), (5, .d (eI Ov)), (91, .d (eB y))], []⟩) ?_ ?_)
      ·intro am8 h4
       refine SC.region (sm rfl (sm rfl (s1 (bi rfl rfl aJ) (sm rfl (sp h4 (fun h4 => ?_) (fun h4 => ?_))))))
       ·have q := si h4; subst q
        refine kw rfl (kw rfl (s1 (pkt rfl rfl) (sm rfl (kw rfl (kw rfl (kw rfl (kw rfl (kw rfl (kw rfl ?_)))))))))
        exact s1 (pkt rfl rfl) (SO.nil ((wq rfl)))
       ·refine gw rfl (mv rfl) (gw rfl (bi rfl rfl bM) (s1 (dx rfl rfl) (sm rfl (sp h4 (fun h4 => ?_) (fun h4 => ?_)))))
        ·have q := si h4; subst q
         exact kw rfl (kw rfl (kw rfl (kw rfl (kw rfl (kw rfl (s1 (pkt rfl rfl) (SO.nil ((wq rfl)))))))))
        ·refine gw rfl (mv rfl) (gw rfl (bi rfl rfl dW) (gw rfl (mv rfl) (sp h4 (fun h4 => ?_) (fun h4 => ?_))))
         ·have q := si h4; subst q
          exact gw rfl (mv rfl) (gw rfl (bi rfl rfl aJ) (gw rfl (pkt rfl rfl) (s1 (dx rfl rfl) (SO.nil ((wq rfl))))))
         ·have q := si h4; subst q
          exact kw rfl (kw rfl (gw rfl (dx rfl rfl) (s1 (dx rfl rfl) (SO.nil ((wq rfl))))))
      ·rintro af5 h3
       refine cB h3 rfl (fun h3 => ?_) (fun h3 => ?_)
       ·have q := si h3; subst q; have q : _ = _ := hv3; subst q; have q := si h1; subst q; have q := si h0; subst q
        exact sr (sa rfl (sn (SC.ret (bQ (Wk.refl _) (aZ rfl aX) rfl))))
       ·have q := si h3; subst q
        exact sk (SC.region (sm rfl (sm rfl (s1 (bi rfl rfl aT) (sa rfl (SO.nil (lf (wq rfl))))))))
  ·have q := si h3; subst q; have q : _ = _ := hv3; subst q; have q := si h1; subst q
   exact SC.exit (lf (wq rfl))
 ·intro _ h0
  have q := si h0; subst q
  exact sr (sa rfl (sn (SC.ret (bQ (Wk.refl _) (aZ rfl aX) rfl))))
noncomputable def j5 (p0 : ak) : Option Bool :=
 bif (p0.Kind == (0 : Int)) then
 Option.bind (α := Bool)
 (bif (p0.N == (0 : UInt64)) then
 some (p0.S == ([] : List UInt8))
 else
 some false)
 fun BS =>
 some BS
 else
 Option.bind (α := Bool)
 (bif (p0.Kind == (1 : Int)) then
 some (p0.Kind == (1 : Int))
 else
 some (p0.Kind == (2 : Int)))
 fun y32 =>
 bif y32 then
 some (p0.S == ([] : List UInt8))
 else
 bif (p0.Kind == (3 : Int)) then
 Option.bind (α := Bool)
 (bif (decide (p0.N < (2 : UInt64))) then
 some (p0.S == ([] : List UInt8))
 else
 some false)
 fun y34 =>
 some y34
 else
 bif (p0.Kind == (4 : Int)) then
 Option.bind (α := Bool)
 (bif (p0.N == (0 : UInt64)) then
 some (decide ((p0.S.length : Int) ≤ (64 : Int)))
 else
 some false)
 fun y36 =>
 some y36
 else
 bif (p0.Kind == (5 : Int)) then
 Option.bind (α := Bool)
 (bif (p0.N == (0 : UInt64)) then
 bif (decide ((p0.S.length : Int) ≤ (64 : Int))) then
 Option.bind (ug p0.S) fun YB =>
 some YB
 else
 some false
 else
 some false)
 fun y40 =>
 some y40
 else
 some false
theorem Ab (p0 : ak) (r : Bool) (h0 : j5 p0 = some r) : aO Tryz.prog 71 [.d (bA p0)] [] (.d (eB r)) [] := by
 unfold j5 at h0
 refine fn0 [0] Tryz.func71 rfl rfl rfl rfl rfl ?_
 refine sr (s1 (tH (k := 0) rfl rfl rfl) (sa rfl (sn (sq (sr (s1 (far (k := 0) rfl kN bD rfl) (s1 (bg rfl (ah bD dH rfl rfl)) (sn (SC.blk ?_)))))))))
 refine sr (s1 (bi rfl rfl aM) (sa rfl (sn (cB h0 rfl (fun h0 => ?_) (fun h0 => ?_)))))
 ·refine SC.bV h0 (fun y => ⟨mk 58 [(2, .d (eB y))], []⟩) ?_ ?_
  ·intro ag3 h1
   refine SC.region (s1 (far (k := 1) rfl qI rA rfl) (s1 (bg rfl (ah rA CF rfl rfl)) (s1 (bi rfl rfl (xg (b := (0 : UInt64)))) (sm rfl (sp h1 (fun h1 => ?_) (fun h1 => ?_))))))
   ·have q := si h1; subst q
    exact gw rfl (far (k := 2) rfl mO lY rfl) (gw rfl (bg rfl (ah lY xG rfl rfl)) (gw rfl (bi rfl rfl (qB (b := ([] : List UInt8)))) (s1 (pkt rfl rfl) (sa rfl (SO.nil ((wc [] [] (by kernel_rfl) rfl (by kernel_rfl))))))))
   ·have q := si h1; subst q
    exact kw rfl (kw rfl (kw rfl (s1 (dx rfl rfl) (sa rfl (SO.nil ((wc [] [] (by kernel_rfl) rfl (by kernel_rfl))))))))
  ·rintro BS h0
   have q := si h0; subst q
   exact SC.ret (bQ (Wk.refl _) (aZ rfl aX) rfl)
 ·refine SC.bV h0 (fun y => ⟨mk 58 [(1, .ref 0 0 0), (4, .d (eI p0.Kind)), (15, .d (eB y))], [.box (.d (bA p0))]⟩) ?_ ?_
  ·intro ag2 h1
   refine sr (s1 (bi rfl rfl aM) (sa rfl (sn (cB h1 rfl (fun h1 => ?_) (fun h1 => ?_)))))
   ·have q := si h1; subst q
    exact SC.skip ((wq rfl))
   ·have q := si h1; subst q
    exact SC.region (s1 (bi rfl rfl aM) (sa rfl (SO.nil ((wq rfl)))))
  ·rintro y32 h0
   refine cB h0 rfl (fun h0 => ?_) (fun h0 => ?_)
   ·have q := si h0; subst q
    exact sr (s1 (far (k := 2) rfl mO lY rfl) (s1 (bg rfl (ah lY xG rfl rfl)) (s1 (bi rfl rfl (qB (b := ([] : List UInt8)))) (sa rfl (sn (SC.ret (bQ (wc (e' := [(2, .d (eB (p0.S == ([] : List UInt8))))]) [] [] (by kernel_rfl) rfl (by kernel_rfl)) (aZ rfl aX) rfl)))))))
   ·refine sr (s1 (bi rfl rfl aM) (sa rfl (sn (cB h0 rfl (fun h0 => ?_) (fun h0 => ?_)))))
    ·refine SC.bV h0 (fun y => ⟨mk 58 [(2, .d (eB y))], []⟩) ?_ ?_
     ·intro ag1 h1
      refine SC.region (s1 (far (k := 1) rfl qI rA rfl) (s1 (bg rfl (ah rA CF rfl rfl)) (s1 (bi rfl rfl (Uc (b := (2 : UInt64)))) (sm rfl (sp h1 (fun h1 => ?_) (fun h1 => ?_))))))
      ·have q := si h1; subst q
       exact gw rfl (far (k := 2) rfl mO lY rfl) (gw rfl (bg rfl (ah lY xG rfl rfl)) (gw rfl (bi rfl rfl (qB (b := ([] : List UInt8)))) (s1 (pkt rfl rfl) (sa rfl (SO.nil ((wc [] [] (by kernel_rfl) rfl (by kernel_rfl))))))))
      ·have q := si h1; subst q
       exact kw rfl (kw rfl (kw rfl (s1 (dx rfl rfl) (sa rfl (SO.nil ((wc [] [] (by kernel_rfl) rfl (by kernel_rfl))))))))
     ·rintro y34 h0
      have q := si h0; subst q
      exact SC.ret (bQ (Wk.refl _) (aZ rfl aX) rfl)
    ·refine sr (s1 (bi rfl rfl aM) (sa rfl (sn (cB h0 rfl (fun h0 => ?_) (fun h0 => ?_)))))
     ·refine SC.bV h0 (fun y => ⟨mk 58 [(2, .d (eB y))], []⟩) ?_ ?_
      ·intro abh h1
       refine SC.region (s1 (far (k := 1) rfl qI rA rfl) (s1 (bg rfl (ah rA CF rfl rfl)) (s1 (bi rfl rfl (xg (b := (0 : UInt64)))) (sm rfl (sp h1 (fun h1 => ?_) (fun h1 => ?_))))))
       ·have q := si h1; subst q
        exact gw rfl (far (k := 2) rfl mO lY rfl) (gw rfl (bg rfl (ah lY xG rfl rfl)) (gw rfl (len rfl rfl rfl (ny uR)) (gw rfl (bi rfl rfl xq) (s1 (pkt rfl rfl) (sa rfl (SO.nil ((wc [] [] (by kernel_rfl) rfl (by kernel_rfl)))))))))
       ·have q := si h1; subst q
        exact kw rfl (kw rfl (kw rfl (kw rfl (s1 (dx rfl rfl) (sa rfl (SO.nil ((wc [] [] (by kernel_rfl) rfl (by kernel_rfl)))))))))
      ·rintro y36 h0
       have q := si h0; subst q
       exact SC.ret (bQ (Wk.refl _) (aZ rfl aX) rfl)
     ·refine sr (s1 (bi rfl rfl aM) (sa rfl (sn (cB h0 rfl (fun h0 => ?_) (fun h0 => ?_)))))
      ·refine SC.bV h0 (fun y => ⟨mk 58 [(2, .d (eB y))], []⟩) ?_ ?_
       ·intro aqX h1
        refine SC.region (s1 (far (k := 1) rfl qI rA rfl) (s1 (bg rfl (ah rA CF rfl rfl)) (s1 (bi rfl rfl (xg (b := (0 : UInt64)))) (sm rfl (sp h1 (fun h1 => ?_) (fun h1 => ?_))))))
        ·refine gw rfl (far (k := 2) rfl mO lY rfl) (gw rfl (bg rfl (ah lY xG rfl rfl)) (gw rfl (len rfl rfl rfl (ny uR)) (gw rfl (bi rfl rfl xq) (s1 (pkt rfl rfl) (sm rfl (sp h1 (fun h1 => ?_) (fun h1 => ?_)))))))
         ·obtain ⟨YB, aem, h1⟩ := ob h1; have q := si h1; subst q
          exact gw rfl (far (k := 2) rfl mO lY rfl) (gw rfl (bg rfl (ah lY xG rfl rfl)) (c0 (KU p0.S _ aem) (ww rfl) rfl rfl rfl akg rfl (fun _ => rfl) (fun _ => rfl) (s1 (pkt rfl rfl) (sa rfl (SO.nil ((wc [] [] (by kernel_rfl) rfl (by kernel_rfl))))))))
         ·have q := si h1; subst q
          exact kw rfl (kw rfl (kw rfl (s1 (dx rfl rfl) (sa rfl (SO.nil ((wc [] [] (by kernel_rfl) rfl (by kernel_rfl))))))))
        ·have q := si h1; subst q
         refine kw rfl (kw rfl (kw rfl (kw rfl (s1 (dx rfl rfl) (sm rfl (kw rfl (kw rfl (kw rfl (s1 (dx rfl rfl) ?_)))))))))
         exact sa rfl (SO.nil ((wc [] [] (by kernel_rfl) rfl (by kernel_rfl))))
       ·rintro y40 h0
        have q := si h0; subst q
        exact SC.ret (bQ (Wk.refl _) (aZ rfl aX) rfl)
      ·refine SC.skip ?_
       change SC _ _ _ _ _
       have q := si h0; subst q
       exact sr (sa rfl (sn (SC.ret (bQ (wc (e' := [(2, .d (eB false))]) [] [] (by kernel_rfl) rfl (by kernel_rfl)) (aZ rfl aX) rfl))))
noncomputable def uh (p0 : aB) (p1 : ak) : Option Int :=
 Option.bind (α := Bool)
 (Option.bind (j5 p1) fun QX =>
 bif (!QX) then
 some true
 else
 bif (p1.Kind == (0 : Int)) then
 bif (!p0.vN) then
 some true
 else
 bif (p1.Kind != (0 : Int)) then
 some (p1.Kind != p0.Kind)
 else
 some false
 else
 bif (p1.Kind != (0 : Int)) then
 some (p1.Kind != p0.Kind)
 else
 some false)
 fun y20 =>
 bif y20 then
 some (8 : Int)
 else
 Option.bind (α := Bool)
 (bif (p1.Kind == (4 : Int)) then
 some (decide ((p1.S.length : Int) > p0.Max))
 else
 bif (p1.Kind == (5 : Int)) then
 some (decide ((p1.S.length : Int) > p0.Max))
 else
 some false)
 fun y24 =>
 bif y24 then
 some (7 : Int)
 else
 some (0 : Int)
theorem KW (p0 : aB) (p1 : ak) (r : Int) (h0 : uh p0 p1 = some r) : aO Tryz.prog 63 [.d (bI p0), .d (bA p1)] [] (.d (eI r)) [] := by
 unfold uh at h0
 refine fn0 [0, 1] Tryz.func63 rfl rfl rfl rfl rfl ?_
 refine sr (s1 (tH (k := 0) rfl rfl rfl) (s1 (tH (k := 1) rfl rfl rfl) (sa rfl (sn (sq (SC.bV h0 (fun y => ⟨mk 46 [(2, .ref 0 0 0), (3, .ref 1 0 0), (29, .d (eB y))], [.box (.d (bI p0)), .box (.d (bA p1))]⟩) ?_ ?_))))))
 ·intro abj h1
  obtain ⟨QX, Xy, h1⟩ := ob h1
  refine SC.region (s1 (bg (v := .d (bA p1)) rfl (ah iC o8 rfl rfl)) (c0 (Ab p1 _ Xy) wf rfl rfl rfl ajP rfl (fun _ => rfl) (fun _ => rfl) (s1 (nt rfl) (sm rfl (sp h1 (fun h1 => ?_) (fun h1 => ?_))))))
  ·have q := si h1; subst q
   refine kw rfl (kw rfl (kw rfl (kw rfl (kw rfl (kw rfl (kw rfl (kw rfl (s1 (pkt rfl rfl) (sm rfl ?_)))))))))
   refine kw rfl (kw rfl (kw rfl (kw rfl (kw rfl (kw rfl (kw rfl (kw rfl (kw rfl (kw rfl ?_)))))))))
   exact s1 (pkt rfl rfl) (SO.nil ((wq rfl)))
  ·refine gw rfl (far (k := 0) rfl kN bD rfl) (gw rfl (bg rfl (ah bD dH rfl rfl)) (gw rfl (bi rfl rfl aM) (gw rfl (mv rfl) (sp h1 (fun h1 => ?_) (fun h1 => ?_)))))
   ·refine gw rfl (far (k := 3) rfl XM jZ rfl) (gw rfl (bg rfl (ah jZ wS rfl rfl)) (gw rfl (nt rfl) (gw rfl (pkt rfl rfl) (s1 (dx rfl rfl) (sm rfl (sp h1 (fun h1 => ?_) (fun h1 => ?_)))))))
    ·have q := si h1; subst q
     refine kw rfl (kw rfl (kw rfl (kw rfl (kw rfl (kw rfl (kw rfl (kw rfl (kw rfl (kw rfl ?_)))))))))
     exact s1 (pkt rfl rfl) (SO.nil ((wq rfl)))
    ·refine gw rfl (far (k := 0) rfl kN bD rfl) (gw rfl (bg rfl (ah bD dH rfl rfl)) (gw rfl (bi rfl rfl bS) (gw rfl (mv rfl) (sp h1 (fun h1 => ?_) (fun h1 => ?_)))))
     ·have q := si h1; subst q
      exact gw rfl (far (k := 0) rfl kN bD rfl) (gw rfl (bg rfl (ah bD dH rfl rfl)) (gw rfl (far (k := 1) rfl wD bD rfl) (gw rfl (bg rfl (ah bD dH rfl rfl)) (gw rfl (bi rfl rfl bS) (gw rfl (pkt rfl rfl) (s1 (dx rfl rfl) (SO.nil ((wq rfl)))))))))
     ·have q := si h1; subst q
      exact kw rfl (kw rfl (kw rfl (kw rfl (kw rfl (gw rfl (dx rfl rfl) (s1 (dx rfl rfl) (SO.nil ((wq rfl)))))))))
   ·refine kw rfl (kw rfl (kw rfl (gw rfl (dx rfl rfl) (s1 (dx rfl rfl) (sm rfl (gw rfl (far (k := 0) rfl kN bD rfl) (gw rfl (bg rfl (ah bD dH rfl rfl)) (gw rfl (bi rfl rfl bS) (gw rfl (mv rfl) ?_)))))))))
    refine sp h1 (fun h1 => ?_) (fun h1 => ?_)
    ·have q := si h1; subst q
     exact gw rfl (far (k := 0) rfl kN bD rfl) (gw rfl (bg rfl (ah bD dH rfl rfl)) (gw rfl (far (k := 1) rfl wD bD rfl) (gw rfl (bg rfl (ah bD dH rfl rfl)) (gw rfl (bi rfl rfl bS) (gw rfl (pkt rfl rfl) (s1 (dx rfl rfl) (SO.nil ((wq rfl)))))))))
    ·have q := si h1; subst q
     exact kw rfl (kw rfl (kw rfl (kw rfl (kw rfl (gw rfl (dx rfl rfl) (s1 (dx rfl rfl) (SO.nil ((wq rfl)))))))))
 ·rintro y20 h0
  refine cB h0 rfl (fun h0 => ?_) (fun h0 => ?_)
  ·have q := si h0; subst q
   exact sr (sa rfl (sn (SC.ret (bQ (wc (e' := [(4, .d (eI (8 : Int)))]) [] [] (by kernel_rfl) rfl (by kernel_rfl)) (aZ rfl aX) rfl))))
  ·refine sk (sq (SC.bV h0 (fun y => ⟨mk 46 [(45, .d (eB y))], []⟩) ?_ ?_))
   ·intro aq0 h1
    refine SC.region (s1 (far (k := 0) rfl kN bD rfl) (s1 (bg rfl (ah bD dH rfl rfl)) (s1 (bi rfl rfl aM) (sm rfl (sp h1 (fun h1 => ?_) (fun h1 => ?_))))))
    ·have q := si h1; subst q
     refine kw rfl (kw rfl (kw rfl (s1 (pkt rfl rfl) (sm rfl (gw rfl (far (k := 2) rfl mO lY rfl) (gw rfl (bg rfl (ah lY xG rfl rfl)) (gw rfl (len rfl rfl rfl (ny uR)) (gw rfl (far (k := 2) rfl AX bD rfl) (gw rfl (bg rfl (ah bD dH rfl rfl)) ?_)))))))))
     exact gw rfl (bi rfl rfl bM) (s1 (pkt rfl rfl) (SO.nil ((wc [] [] (by kernel_rfl) rfl (by kernel_rfl)))))
    ·refine gw rfl (far (k := 0) rfl kN bD rfl) (gw rfl (bg rfl (ah bD dH rfl rfl)) (gw rfl (bi rfl rfl aM) (s1 (dx rfl rfl) (sm rfl (sp h1 (fun h1 => ?_) (fun h1 => ?_))))))
     ·have q := si h1; subst q
      exact gw rfl (far (k := 2) rfl mO lY rfl) (gw rfl (bg rfl (ah lY xG rfl rfl)) (gw rfl (len rfl rfl rfl (ny uR)) (gw rfl (far (k := 2) rfl AX bD rfl) (gw rfl (bg rfl (ah bD dH rfl rfl)) (gw rfl (bi rfl rfl bM) (s1 (pkt rfl rfl) (SO.nil ((wc [] [] (by kernel_rfl) rfl (by kernel_rfl))))))))))
     ·have q := si h1; subst q
      exact kw rfl (kw rfl (kw rfl (kw rfl (kw rfl (kw rfl (s1 (dx rfl rfl) (SO.nil ((wc [] [] (by kernel_rfl) rfl (by kernel_rfl))))))))))
   ·rintro y24 h0
    refine cB h0 rfl (fun h0 => ?_) (fun h0 => ?_)
    ·have q := si h0; subst q
     exact sr (sa rfl (sn (SC.ret (bQ (Wk.refl _) (aZ rfl aX) rfl))))
    ·have q := si h0; subst q
     exact sk (sr (sa rfl (sn (SC.ret (bQ (Wk.refl _) (aZ rfl aX) rfl)))))
noncomputable def pU (p0 : aB) : Option Int :=
 Option.bind (oh p0.Name) fun r19 =>
 bif (!r19) then
 some (1 : Int)
 else
 Option.bind (α := Bool)
 (bif (decide (p0.Kind < (1 : Int))) then
 some true
 else
 some (decide (p0.Kind > (5 : Int))))
 fun y20 =>
 bif y20 then
 some (8 : Int)
 else
 Option.bind (α := Bool)
 (bif (decide (p0.Kind < (4 : Int))) then
 bif (p0.Max != (0 : Int)) then
 some true
 else
 bif (decide (p0.Kind > (3 : Int))) then
 bif (decide (p0.Max < (1 : Int))) then
 some true
 else
 some (decide (p0.Max > (64 : Int)))
 else
 some false
 else
 bif (decide (p0.Kind > (3 : Int))) then
 bif (decide (p0.Max < (1 : Int))) then
 some true
 else
 some (decide (p0.Max > (64 : Int)))
 else
 some false)
 fun y22 =>
 bif y22 then
 some (7 : Int)
 else
 Option.bind (uh p0 p0.Default) fun T9 =>
 some T9
theorem G9 (p0 : aB) (r : Int) (h0 : pU p0 = some r) : aO Tryz.prog 27 [.d (bI p0)] [] (.d (eI r)) [] := by
 unfold pU at h0
 refine fn0 [0] Tryz.func27 rfl rfl rfl rfl rfl ?_
 obtain ⟨r19, apA, h0⟩ := ob h0
 refine sr (s1 (tH (k := 0) rfl rfl rfl) (sa rfl (sn (sq (sr (s1 (far (k := 0) rfl Rk lY rfl) (s1 (bg rfl (ah lY xG rfl rfl)) (c0 (vW p0.Name _ apA) wf rfl rfl rfl afG rfl (fun _ => rfl) (fun _ => rfl) (s1 (nt rfl) ?_)))))))))
 refine sn (cB h0 rfl (fun h0 => ?_) (fun h0 => ?_))
 ·have q := si h0; subst q
  exact sr (sa rfl (sn (SC.ret (bQ (wc (e' := [(2, .d (eI (1 : Int)))]) [] [] (by kernel_rfl) rfl (by kernel_rfl)) (aZ rfl aX) rfl))))
 ·refine sk (sq (SC.bV h0 (fun y => ⟨mk 42 [(1, .ref 0 0 0), (14, .d (eB y))], [.box (.d (bI p0))]⟩) ?_ ?_))
  ·intro abj h1
   refine SC.region (s1 (far (k := 1) rfl wD bD rfl) (s1 (bg rfl (ah bD dH rfl rfl)) (s1 (bi rfl rfl aJ) (sm rfl (sp h1 (fun h1 => ?_) (fun h1 => ?_))))))
   ·have q := si h1; subst q
    exact kw rfl (kw rfl (kw rfl (s1 (pkt rfl rfl) (SO.nil ((wq rfl))))))
   ·have q := si h1; subst q
    exact gw rfl (far (k := 1) rfl wD bD rfl) (gw rfl (bg rfl (ah bD dH rfl rfl)) (gw rfl (bi rfl rfl bM) (s1 (dx rfl rfl) (SO.nil ((wq rfl))))))
  ·rintro y20 h0
   refine cB h0 rfl (fun h0 => ?_) (fun h0 => ?_)
   ·have q := si h0; subst q
    exact sr (sa rfl (sn (SC.ret (bQ (wc (e' := [(2, .d (eI (8 : Int)))]) [] [] (by kernel_rfl) rfl (by kernel_rfl)) (aZ rfl aX) rfl))))
   ·refine sk (sq (SC.bV h0 (fun y => ⟨mk 42 [(1, .ref 0 0 0), (37, .d (eB y))], [.box (.d (bI p0))]⟩) ?_ ?_))
    ·intro aq1 h1
     refine SC.region (s1 (far (k := 1) rfl wD bD rfl) (s1 (bg rfl (ah bD dH rfl rfl)) (s1 (bi rfl rfl aJ) (sm rfl (sp h1 (fun h1 => ?_) (fun h1 => ?_))))))
     ·refine gw rfl (far (k := 2) rfl AX bD rfl) (gw rfl (bg rfl (ah bD dH rfl rfl)) (gw rfl (bi rfl rfl bS) (s1 (pkt rfl rfl) (sm rfl (sp h1 (fun h1 => ?_) (fun h1 => ?_))))))
      ·have q := si h1; subst q
       refine kw rfl (kw rfl (kw rfl (kw rfl (kw rfl (kw rfl (kw rfl (kw rfl (kw rfl (kw rfl ?_)))))))))
       exact kw rfl (kw rfl (kw rfl (s1 (pkt rfl rfl) (SO.nil ((wq rfl))))))
      ·refine gw rfl (far (k := 1) rfl wD bD rfl) (gw rfl (bg rfl (ah bD dH rfl rfl)) (gw rfl (bi rfl rfl bM) (gw rfl (mv rfl) (sp h1 (fun h1 => ?_) (fun h1 => ?_)))))
       ·refine gw rfl (far (k := 2) rfl AX bD rfl) (gw rfl (bg rfl (ah bD dH rfl rfl)) (gw rfl (bi rfl rfl aJ) (gw rfl (mv rfl) (sp h1 (fun h1 => ?_) (fun h1 => ?_)))))
        ·have q := si h1; subst q
         exact kw rfl (kw rfl (kw rfl (gw rfl (pkt rfl rfl) (gw rfl (pkt rfl rfl) (s1 (dx rfl rfl) (SO.nil ((wq rfl))))))))
        ·have q := si h1; subst q
         exact gw rfl (far (k := 2) rfl AX bD rfl) (gw rfl (bg rfl (ah bD dH rfl rfl)) (gw rfl (bi rfl rfl bM) (gw rfl (dx rfl rfl) (gw rfl (pkt rfl rfl) (s1 (dx rfl rfl) (SO.nil ((wq rfl))))))))
       ·have q := si h1; subst q
        refine kw rfl (kw rfl (kw rfl (kw rfl (kw rfl (kw rfl (kw rfl (kw rfl (gw rfl (dx rfl rfl) (s1 (dx rfl rfl) ?_)))))))))
        exact SO.nil ((wq rfl))
     ·refine kw rfl (kw rfl (kw rfl (s1 (dx rfl rfl) (sm rfl (gw rfl (far (k := 1) rfl wD bD rfl) (gw rfl (bg rfl (ah bD dH rfl rfl)) (gw rfl (bi rfl rfl bM) (gw rfl (mv rfl) (sp h1 (fun h1 => ?_) (fun h1 => ?_))))))))))
      ·refine gw rfl (far (k := 2) rfl AX bD rfl) (gw rfl (bg rfl (ah bD dH rfl rfl)) (gw rfl (bi rfl rfl aJ) (gw rfl (mv rfl) (sp h1 (fun h1 => ?_) (fun h1 => ?_)))))
       ·have q := si h1; subst q
        exact kw rfl (kw rfl (kw rfl (gw rfl (pkt rfl rfl) (gw rfl (pkt rfl rfl) (s1 (dx rfl rfl) (SO.nil ((wq rfl))))))))
       ·have q := si h1; subst q
        exact gw rfl (far (k := 2) rfl AX bD rfl) (gw rfl (bg rfl (ah bD dH rfl rfl)) (gw rfl (bi rfl rfl bM) (gw rfl (dx rfl rfl) (gw rfl (pkt rfl rfl) (s1 (dx rfl rfl) (SO.nil ((wq rfl))))))))
      ·have q := si h1; subst q
       refine kw rfl (kw rfl (kw rfl (kw rfl (kw rfl (kw rfl (kw rfl (kw rfl (gw rfl (dx rfl rfl) (s1 (dx rfl rfl) ?_)))))))))
       exact SO.nil ((wq rfl))
    ·rintro y22 h0
     refine cB h0 rfl (fun h0 => ?_) (fun h0 => ?_)
     ·have q := si h0; subst q
      exact sr (sa rfl (sn (SC.ret (bQ (wc (e' := [(2, .d (eI (7 : Int)))]) [] [] (by kernel_rfl) rfl (by kernel_rfl)) (aZ rfl aX) rfl))))
     ·obtain ⟨T9, aeL, h0⟩ := ob h0; have q := si h0; subst q
      exact sk (sr (s1 (bg (v := .d (bI p0)) rfl (ah BJ TK rfl rfl)) (s1 (far (k := 4) rfl afj iC rfl) (s1 (bg (v := .d (bA p0.Default)) rfl (ah iC o8 rfl rfl)) (c0 (KW p0 p0.Default _ aeL) wf rfl rfl rfl aqh rfl (fun _ => rfl) (fun _ => rfl) (sa rfl (sn (SC.ret (bQ (wc (e' := [(2, .d (eI T9))]) [] [] (by kernel_rfl) rfl (by kernel_rfl)) (aZ rfl aX) rfl)))))))))
noncomputable def gM (p0 : List Int) (p1 : Int) : Option Bool :=
 eu (Y := Unit) (E := Bool)
 (Option.bind (α := Unit ⊕ Bool)
 (loop (Y := Int) (W := Unit ⊕ Bool) (fun KC =>
 bif (decide (KC < (p0.length : Int))) then
 Option.bind (bG p0 KC) fun v51 =>
 bif (v51 == p1) then
 some (Sum.inr (Sum.inr true))
 else
 some (Sum.inl (bF (KC + (1 : Int))))
 else
 some (Sum.inr (Sum.inl ()))) (0 : Int))
 (Sum.elim (fun e => some (Sum.inl e)) (fun e => some (Sum.inr e))))
 (fun _ =>
 some false)
 (fun e => some e)
theorem jC (p0 : List Int) (p1 : Int) (r : Bool) (h0 : gM p0 p1 = some r) : aO Tryz.prog 40 [.d ((eL 1 eI) p0), .d (eI p1)] [] (.d (eB r)) [] := by
 unfold gM at h0
 refine fn0 [0, 1] Tryz.func40 rfl rfl rfl rfl rfl ?_
 refine sr (sa rfl (sn (SC.seqB h0 (fun y => ⟨mk 18 [], []⟩) ?_ ?_)))
 ·intro abg h1 h0
  obtain ⟨abf, h2, h1⟩ := ob h1
  refine sr (sa rfl (sn (SC.blk (SC.dL h2 (fun y => ⟨mk 18 [(0, .d ((eL 1 eI) p0)), (1, .d (eI p1)), (5, .d (eI y))], []⟩) (wq rfl) ?_))))
  intro n52
  rintro KC aaR h3 hv3
  refine sq (sr (sm rfl (sm rfl (s1 (len rfl rfl rfl (bC bZ)) (s1 (bi rfl rfl aJ) (sn (cB h3 rfl (fun h3 => ?_) (fun h3 => ?_))))))))
  ·obtain ⟨v51, PK, h3⟩ := ob h3
   refine sk (sq (SC.blk (sr (sm rfl (sm rfl (s1 (jo rfl rfl bZ bD (aj PK).1 (aY (aj PK).2) rfl) (s1 (bg rfl (bN bD dH rfl)) (sm rfl (s1 (bi rfl rfl aM) ?_)))))))))
   refine sn (cB h3 rfl (fun h3 => ?_) (fun h3 => ?_))
   ·have q := si h3; subst q; have q : _ = _ := hv3; subst q; have q := si h1; subst q; have q := si h0; subst q
    exact sr (sa rfl (sn (SC.ret (bQ (Wk.refl _) (aZ rfl aX) rfl))))
   ·refine SC.skip ?_
    change SC _ _ _ _ _
    have q := si h3; subst q
    exact SC.region (sm rfl (s1 (bi rfl rfl aT) (sa rfl (SO.nil (lf (wq rfl))))))
  ·have q := si h3; subst q; have q : _ = _ := hv3; subst q; have q := si h1; subst q
   exact SC.exit (lf (wq rfl))
 ·intro _ h0
  have q := si h0; subst q
  exact sr (sa rfl (sn (SC.ret (bQ (Wk.refl _) (aZ rfl aX) rfl))))
noncomputable def kE (p0 : Int) (p1 : List Int) : Option Bool :=
 eu (Y := Unit) (E := Bool)
 (Option.bind (α := Unit ⊕ Bool)
 (loop (Y := Int) (W := Unit ⊕ Bool) (fun Il =>
 bif (decide (Il < (p1.length : Int))) then
 Option.bind (α := Bool)
 (Option.bind (bG p1 Il) fun agS =>
 bif (decide (agS < (0 : Int))) then
 some true
 else
 Option.bind (bG p1 Il) fun agR =>
 bif (decide (agR ≥ p0)) then
 some true
 else
 bif decide (0 ≤ Il ∧ Il ≤ (p1.length : Int)) then
 Option.bind (bG p1 Il) fun adv =>
 Option.bind (gM (List.take Il.toNat p1) adv) fun V9 =>
 some V9
 else none)
 fun Vn =>
 bif Vn then
 some (Sum.inr (Sum.inr false))
 else
 some (Sum.inl (bF (Il + (1 : Int))))
 else
 some (Sum.inr (Sum.inl ()))) (0 : Int))
 (Sum.elim (fun e => some (Sum.inl e)) (fun e => some (Sum.inr e))))
 (fun _ =>
 some true)
 (fun e => some e)
theorem rY (p0 : Int) (p1 : List Int) (r : Bool) (h0 : kE p0 p1 = some r) : aO Tryz.prog 28 [.d (eI p0), .d ((eL 1 eI) p1)] [] (.d (eB r)) [] := by
 unfold kE at h0
 refine fn0 [0, 1] Tryz.func28 rfl rfl rfl rfl rfl ?_
 refine sr (sa rfl (sn (SC.seqB h0 (fun y => ⟨mk 35 [], []⟩) ?_ ?_)))
 ·intro aou h1 h0
  obtain ⟨anQ, h2, h1⟩ := ob h1
  refine sr (sa rfl (sn (SC.blk (SC.dL h2 (fun y => ⟨mk 35 [(0, .d (eI p0)), (1, .d ((eL 1 eI) p1)), (5, .d (eI y))], []⟩) (wq rfl) ?_))))
  intro n286
  rintro Il amm h3 hv3
  refine sq (sr (sm rfl (sm rfl (s1 (len rfl rfl rfl (bC bZ)) (s1 (bi rfl rfl aJ) (sn (cB h3 rfl (fun h3 => ?_) (fun h3 => ?_))))))))
  ·refine sk (sq (SC.blk (SC.bV h3 (fun y => ⟨mk 35 [(0, .d (eI p0)), (1, .d ((eL 1 eI) p1)), (5, .d (eI Il)), (34, .d (eB y))], []⟩) ?_ ?_)))
   ·intro anp h4
    obtain ⟨agS, acJ, h4⟩ := ob h4
    refine SC.draws (by kernel_rfl) (t1 ([], false) (mv rfl) rfl (t1 ([], false) (mv rfl) rfl (t1 ([], false) (jo rfl rfl bZ bD (aj acJ).1 (aY (aj acJ).2) rfl) rfl (t1 ([], false) (bg rfl (bN bD dH rfl)) rfl (t1 ([], false) (bi rfl rfl aJ) rfl (t1 ([], false) (mv rfl) rfl (tp h4 (fun h4 => ?_) (fun h4 => ?_))))))))
    ·have q := si h4; subst q
     refine jw rfl (jw rfl (jw rfl (jw rfl (jw rfl (jw rfl (t1 ([], false) (pkt rfl rfl) rfl (t1 ([], false) (mv rfl) rfl (jw rfl (jw rfl ?_)))))))))
     refine jw rfl (jw rfl (jw rfl (jw rfl (jw rfl (jw rfl (t1 ([], false) (pkt rfl rfl) rfl (ST.nil (And.intro (by decide +kernel) ?_))))))))
     exact (wq rfl)
    ·obtain ⟨agR, acI, h4⟩ := ob h4
     refine u1 ([], false) (ww rfl) (mv rfl) rfl (u1 ([], false) (ww rfl) (mv rfl) rfl (u1 ([], false) (ww rfl) (jo rfl rfl bZ bD (aj acI).1 (aY (aj acI).2) rfl) rfl (u1 ([], false) (ww rfl) (bg rfl (bN bD dH rfl)) rfl (u1 ([], false) (ww rfl) (mv rfl) rfl (u1 ([], false) (ww rfl) (bi rfl rfl dW) rfl (t1 ([], false) (dx rfl rfl) rfl (t1 ([], false) (mv rfl) rfl (tp h4 (fun h4 => ?_) (fun h4 => ?_)))))))))
     ·have q := si h4; subst q
      refine jw rfl (jw rfl (jw rfl (jw rfl (jw rfl (jw rfl (jw rfl (jw rfl (t1 ([], false) (pkt rfl rfl) rfl (ST.nil (And.intro (by decide +kernel) ?_))))))))))
      exact (wq rfl)
     ·obtain ⟨aji, h4⟩ := gd h4; obtain ⟨adv, acH, h4⟩ := ob h4; obtain ⟨V9, Xv, h4⟩ := ob h4; have q := si h4; subst q
      refine u1 ([], false) (ww rfl) (mv rfl) rfl (u1 ([], false) (ww rfl) (mv rfl) rfl (u1 ([], false) (ww rfl) (VU rfl rfl rfl rfl (LA bZ bD aji)) rfl (u1 ([], false) (ww rfl) (mv rfl) rfl (u1 ([], false) (ww rfl) (mv rfl) rfl (u1 ([], false) (ww rfl) (jo rfl rfl bZ bD (aj acH).1 (aY (aj acH).2) rfl) rfl (u1 ([], false) (ww rfl) (bg rfl (bN bD dH rfl)) rfl (Fa (jC (List.take Il.toNat p1) adv _ Xv) (ww rfl) rfl rfl rfl NQ rfl (fun _ => rfl) (fun _ => rfl) (t1 ([], false) (dx rfl rfl) rfl (ST.nil (And.intro (by decide +kernel) ?_))))))))))
      exact (wq rfl)
   ·rintro Vn h3
    refine cB h3 rfl (fun h3 => ?_) (fun h3 => ?_)
    ·have q := si h3; subst q; have q : _ = _ := hv3; subst q; have q := si h1; subst q; have q := si h0; subst q
     exact sr (sa rfl (sn (SC.ret (bQ (Wk.refl _) (aZ rfl aX) rfl))))
    ·refine SC.skip ?_
     change SC _ _ _ _ _
     have q := si h3; subst q
     exact SC.region (sm rfl (s1 (bi rfl rfl aT) (sa rfl (SO.nil (lf (wq rfl))))))
  ·have q := si h3; subst q; have q : _ = _ := hv3; subst q; have q := si h1; subst q
   exact SC.exit (lf (wq rfl))
 ·intro _ h0
  have q := si h0; subst q
  exact sr (sa rfl (sn (SC.ret (bQ (Wk.refl _) (aZ rfl aX) rfl))))
noncomputable def qy (p0 : aB) (p1 : Int) : Option Int :=
 Option.bind (α := Bool)
 (bif (p0.Kind == (1 : Int)) then
 some (p0.Kind == (1 : Int))
 else
 some (p0.Kind == (2 : Int)))
 fun y6 =>
 bif y6 then
 some (9 : Int)
 else
 bif (p0.Kind == (3 : Int)) then
 some (2 : Int)
 else
 some (bF ((3 : Int) + (bF (p1 * p0.Max))))
theorem Cg (p0 : aB) (p1 : Int) (r : Int) (h0 : qy p0 p1 = some r) : aO Tryz.prog 64 [.d (bI p0), .d (eI p1)] [] (.d (eI r)) [] := by
 unfold qy at h0
 refine fn0 [0, 1] Tryz.func64 rfl rfl rfl rfl rfl ?_
 refine sr (s1 (tH (k := 0) rfl rfl rfl) (sa rfl (sn (sq (sr (s1 (far (k := 1) rfl wD bD rfl) (s1 (bg rfl (ah bD dH rfl rfl)) (sn (SC.blk ?_)))))))))
 refine SC.bV h0 (fun y => ⟨mk 17 [(1, .d (eI p1)), (2, .ref 0 0 0), (6, .d (eI p0.Kind)), (7, .d (eB y))], [.box (.d (bI p0))]⟩) ?_ ?_
 ·intro Zd h1
  refine sr (s1 (bi rfl rfl aM) (sa rfl (sn (cB h1 rfl (fun h1 => ?_) (fun h1 => ?_)))))
  ·have q := si h1; subst q
   exact SC.skip ((wq rfl))
  ·have q := si h1; subst q
   exact SC.region (s1 (bi rfl rfl aM) (sa rfl (SO.nil ((wq rfl)))))
 ·rintro y6 h0
  refine cB h0 rfl (fun h0 => ?_) (fun h0 => ?_)
  ·have q := si h0; subst q
   exact sr (sa rfl (sn (SC.ret (bQ (wc (e' := [(4, .d (eI (9 : Int)))]) [] [] (by kernel_rfl) rfl (by kernel_rfl)) (aZ rfl aX) rfl))))
  ·refine sr (s1 (bi rfl rfl aM) (sa rfl (sn (cB h0 rfl (fun h0 => ?_) (fun h0 => ?_)))))
   ·have q := si h0; subst q
    exact sr (sa rfl (sn (SC.ret (bQ (wc (e' := [(4, .d (eI (2 : Int)))]) [] [] (by kernel_rfl) rfl (by kernel_rfl)) (aZ rfl aX) rfl))))
   ·refine SC.skip ?_
    change SC _ _ _ _ _
    have q := si h0; subst q
    exact sr (sm rfl (s1 (far (k := 2) rfl AX bD rfl) (s1 (bg rfl (ah bD dH rfl rfl)) (s1 (bi rfl rfl ng) (s1 (bi rfl rfl aT) (sa rfl (sn (SC.ret (bQ (wc (e' := [(4, .d (eI (bF ((3 : Int) + (bF (p1 * p0.Max))))))]) [] [] (by kernel_rfl) rfl (by kernel_rfl)) (aZ rfl aX) rfl)))))))))
noncomputable def pQ (p0 : List aB) : Option Int :=
 Option.bind (α := Int)
 (Option.bind (α := Int)
 (loop (Y := Int × Int) (W := Int) (fun (y91, y92) =>
 bif (decide (y92 < (p0.length : Int))) then
 Option.bind (bG p0 y92) fun Zb =>
 Option.bind (qy Zb (1 : Int)) fun ahx =>
 some (Sum.inl ((bF (y91 + ahx)), (bF (y92 + (1 : Int)))))
 else
 some (Sum.inr y91)) ((1 : Int), (0 : Int)))
 (fun e => some e))
 fun y86 =>
 some y86
theorem G5 (p0 : List aB) (r : Int) (h0 : pQ p0 = some r) : aO Tryz.prog 29 [.d ((eL 7 bI) p0)] [] (.d (eI r)) [] := by
 unfold pQ at h0
 refine fn0 [0] Tryz.func29 rfl rfl rfl rfl rfl ?_
 refine sr (sa rfl (sn (sr (sa rfl (sn (SC.bV h0 (fun y => ⟨mk 19 [(3, .d (eI y))], []⟩) ?_ ?_))))))
 ·intro aqR h1
  obtain ⟨aqO, h2, h1⟩ := ob h1
  refine sr (sa rfl (sn (SC.blk (SC.dL h2 (fun y => ⟨mk 19 [(0, .d ((eL 7 bI) p0)), (3, .d (eI y.1)), (4, .d (eI y.2))], []⟩) (wq rfl) ?_))))
  intro n103
  rintro ⟨y91, y92⟩ aqL h3 hv3
  refine sq (sr (sm rfl (sm rfl (s1 (len rfl rfl rfl (bC qp)) (s1 (bi rfl rfl aJ) (sn (cB h3 rfl (fun h3 => ?_) (fun h3 => ?_))))))))
  ·obtain ⟨Zb, ac7, h3⟩ := ob h3; obtain ⟨ahx, aiY, h3⟩ := ob h3
   refine sk (sq (SC.blk (SC.region (sm rfl (sm rfl (sm rfl (s1 (jo rfl rfl qp BJ (aj ac7).1 (aY (aj ac7).2) rfl) (s1 (bg (v := .d (bI Zb)) rfl (bN BJ TK rfl)) (c0 (Cg Zb (1 : Int) _ aiY) wf rfl rfl rfl ajR rfl (fun _ => rfl) (fun _ => rfl) ?_)))))))))
   refine s1 (bi rfl rfl aT) (sa rfl (SO.nil ?_))
   change SC _ _ _ _ _
   have q := si h3; subst q
   exact SC.region (sm rfl (s1 (bi rfl rfl aT) (sa rfl (SO.nil (lf (wq rfl))))))
  ·have q := si h3; subst q; have q : _ = _ := hv3; subst q; have q := si h1; subst q
   exact SC.exit ((wq rfl))
 ·rintro y86 h0
  have q := si h0; subst q
  exact sr (sm rfl (sa rfl (sn (SC.ret (bQ (Wk.refl _) (aZ rfl aX) rfl)))))
noncomputable def wY (p0 : List Int) : Option ((List aI)) :=
 Option.bind (α := (List aI))
 (Option.bind (α := (List aI))
 (loop (Y := (List aI) × Int) (W := (List aI)) (fun (xJ, BQ) =>
 bif (decide (BQ < (p0.length : Int))) then
 Option.bind (bG p0 BQ) fun v83 =>
 bif decide ((xJ.length + [(aI.mk v83 false)].length) * 16 ≤ room) then
 some (Sum.inl ((xJ ++ [(aI.mk v83 false)]), (bF (BQ + (1 : Int)))))
 else none
 else
 some (Sum.inr xJ)) (([] : List aI), (0 : Int)))
 (fun e => some e))
 fun HV =>
 some HV
theorem Gq (p0 : List Int) (r : (List aI)) (h0 : wY p0 = some r) : aO Tryz.prog 31 [.d ((eL 1 eI) p0)] [] (.d ((eL 2 aR) r)) [] := by
 unfold wY at h0
 refine fn0 [0] Tryz.func31 rfl rfl rfl rfl rfl ?_
 refine sr (s1 (lX (v := .d .dn) rfl) (sn (sr (s1 (lX (v := .d .dn) rfl) (sn (SC.bV h0 (fun y => ⟨mk 20 [(3, .slc 0 2 0 y.length none)], [.row 2 (List.map aR y) true]⟩) ?_ ?_))))))
 ·intro Sz h1
  obtain ⟨Sy, h2, h1⟩ := ob h1
  refine sr (sa rfl (sn (SC.blk (SC.dL h2 (fun y => ⟨mk 20 [(0, .d ((eL 1 eI) p0)), (3, .slc 0 2 0 y.1.length none), (4, .d (eI y.2))], [.row 2 (List.map aR y.1) true]⟩) (Wk.trans (Wk.mo (σ' := [.row 2 (List.map aR ([] : List aI)) true]) (.row 2 [] true) (fun _ hh => by cases hh) rfl) (Wk.trans (Wk.env (e' := [(0, .d ((eL 1 eI) p0)), (3, .slc 0 2 0 (([] : List aI).length) none), (4, .d (eI (0 : Int)))]) (EW.cons (AW.refl _) (EW.cons (AW.mg _ _ _) (EW.cons (AW.refl _) EW.nil)))) (wq rfl))) ?_))))
  intro n85
  rintro ⟨xJ, BQ⟩ Sk h3 hv3
  refine sq (sr (sm rfl (sm rfl (s1 (len rfl rfl rfl (bC bZ)) (s1 (bi rfl rfl aJ) (sn (cB h3 rfl (fun h3 => ?_) (fun h3 => ?_))))))))
  ·obtain ⟨v83, AP, h3⟩ := ob h3; obtain ⟨Rh, h3⟩ := gd h3
   refine sk (sq (SC.blk (SC.region (sm rfl (sm rfl (sm rfl (s1 (jo rfl rfl bZ bD (aj AP).1 (aY (aj AP).2) rfl) (s1 (bg rfl (bN bD dH rfl)) (s1 (xI rfl (Ry v83)) ?_)))))))))
   refine s1 (sM (k := 1) (ds := List.map aR [(aI.mk v83 false)]) (off := 0) (l' := [(aI.mk v83 false)].length) rfl jO Rq rfl rfl (by rfl) rfl rfl rfl) (s1 (app rfl rfl rfl rfl bc28 (aF (f := aR) (xs := xJ) (k := 2) rfl jO Rq rfl (eY (xs := [(aI.mk v83 false)]) rfl) Rh rfl)) (sa rfl (SO.nil ?_)))
   change SC _ _ _ _ _
   have q := si h3; subst q
   exact SC.region (sm rfl (s1 (bi rfl rfl aT) (sa rfl (SO.nil (lf (wc [2] [2] (by kernel_rfl) rfl (by kernel_rfl)))))))
  ·have q := si h3; subst q; have q : _ = _ := hv3; subst q; have q := si h1; subst q
   exact SC.exit ((wq rfl))
 ·rintro HV h0
  have q := si h0; subst q
  exact sr (sm rfl (sa rfl (sn (SC.ret (bQ (Wk.trans (Wk.mM (i := 2) (x := .slc 0 2 0 HV.length none) rfl rfl (fF rfl rfl rfl)) (wc (e' := [(2, .d ((eL 2 aR) HV))]) [] [] (by kernel_rfl) rfl (by kernel_rfl))) (aZ rfl aX) rfl)))))
noncomputable def mZ (p0 : List aB) (p1 : List aI) : Option Int :=
 Option.bind (α := Int)
 (Option.bind (α := Int)
 (loop (Y := Int × Int) (W := Int) (fun (Mt, Y4) =>
 bif (decide (Y4 < (p1.length : Int))) then
 Option.bind (bG p1 Y4) fun v117 =>
 Option.bind (bG p0 v117.Col) fun Za =>
 Option.bind (qy Za (2 : Int)) fun ahv =>
 some (Sum.inl ((bF (Mt + ahv)), (bF (Y4 + (1 : Int)))))
 else
 some (Sum.inr Mt)) ((0 : Int), (0 : Int)))
 (fun e => some e))
 fun y101 =>
 some y101
theorem y5 (p0 : List aB) (p1 : List aI) (r : Int) (h0 : mZ p0 p1 = some r) : aO Tryz.prog 30 [.d ((eL 7 bI) p0), .d ((eL 2 aR) p1)] [] (.d (eI r)) [] := by
 unfold mZ at h0
 refine fn0 [0, 1] Tryz.func30 rfl rfl rfl rfl rfl ?_
 refine sr (sa rfl (sn (sr (sa rfl (sn (SC.bV h0 (fun y => ⟨mk 25 [(5, .d (eI y))], []⟩) ?_ ?_))))))
 ·intro aoI h1
  obtain ⟨an2, h2, h1⟩ := ob h1
  refine sr (sa rfl (sn (SC.blk (SC.dL h2 (fun y => ⟨mk 25 [(0, .d ((eL 7 bI) p0)), (1, .d ((eL 2 aR) p1)), (5, .d (eI y.1)), (6, .d (eI y.2))], []⟩) (wq rfl) ?_))))
  intro n121
  rintro ⟨Mt, Y4⟩ amA h3 hv3
  refine sq (sr (sm rfl (sm rfl (s1 (len rfl rfl rfl (bC jO)) (s1 (bi rfl rfl aJ) (sn (cB h3 rfl (fun h3 => ?_) (fun h3 => ?_))))))))
  ·obtain ⟨v117, ac4, h3⟩ := ob h3; obtain ⟨Za, ac3, h3⟩ := ob h3; obtain ⟨ahv, aiX, h3⟩ := ob h3
   refine sk (sq (SC.blk (SC.region (sm rfl (sm rfl (sm rfl (sm rfl (s1 (jo rfl rfl jO rz (aj ac4).1 (aY (aj ac4).2) rfl) (s1 (fap rfl wC bD rfl) ?_)))))))))
   refine s1 (bg rfl (bN bD dH rfl)) (s1 (jo rfl rfl qp BJ (aj ac3).1 (aY (aj ac3).2) rfl) (s1 (bg (v := .d (bI Za)) rfl (bN BJ TK rfl)) (c0 (Cg Za (2 : Int) _ aiX) wf rfl rfl rfl ajR rfl (fun _ => rfl) (fun _ => rfl) (s1 (bi rfl rfl aT) (sa rfl (SO.nil ?_))))))
   change SC _ _ _ _ _
   have q := si h3; subst q
   exact SC.region (sm rfl (s1 (bi rfl rfl aT) (sa rfl (SO.nil (lf (wq rfl))))))
  ·have q := si h3; subst q; have q : _ = _ := hv3; subst q; have q := si h1; subst q
   exact SC.exit ((wq rfl))
 ·rintro y101 h0
  have q := si h0; subst q
  exact sr (sm rfl (sa rfl (sn (SC.ret (bQ (Wk.refl _) (aZ rfl aX) rfl)))))
noncomputable def jI (p0 : List aI) : Option ((List Int)) :=
 Option.bind (α := (List Int))
 (Option.bind (α := (List Int))
 (loop (Y := (List Int) × Int) (W := (List Int)) (fun (xJ, BQ) =>
 bif (decide (BQ < (p0.length : Int))) then
 Option.bind (bG p0 BQ) fun v83 =>
 bif decide ((xJ.length + [v83.Col].length) * 8 ≤ room) then
 some (Sum.inl ((xJ ++ [v83.Col]), (bF (BQ + (1 : Int)))))
 else none
 else
 some (Sum.inr xJ)) (([] : List Int), (0 : Int)))
 (fun e => some e))
 fun HV =>
 some HV
theorem nN (p0 : List aI) (r : (List Int)) (h0 : jI p0 = some r) : aO Tryz.prog 41 [.d ((eL 2 aR) p0)] [] (.d ((eL 1 eI) r)) [] := by
 unfold jI at h0
 refine fn0 [0] Tryz.func41 rfl rfl rfl rfl rfl ?_
 refine sr (s1 (lX (v := .d .dn) rfl) (sn (sr (s1 (lX (v := .d .dn) rfl) (sn (SC.bV h0 (fun y => ⟨mk 20 [(3, .slc 0 1 0 y.length none)], [.row 1 (List.map eI y) true]⟩) ?_ ?_))))))
 ·intro Sz h1
  obtain ⟨Sy, h2, h1⟩ := ob h1
  refine sr (sa rfl (sn (SC.blk (SC.dL h2 (fun y => ⟨mk 20 [(0, .d ((eL 2 aR) p0)), (3, .slc 0 1 0 y.1.length none), (4, .d (eI y.2))], [.row 1 (List.map eI y.1) true]⟩) (Wk.trans (Wk.mo (σ' := [.row 1 (List.map eI ([] : List Int)) true]) (.row 1 [] true) (fun _ hh => by cases hh) rfl) (Wk.trans (Wk.env (e' := [(0, .d ((eL 2 aR) p0)), (3, .slc 0 1 0 (([] : List Int).length) none), (4, .d (eI (0 : Int)))]) (EW.cons (AW.refl _) (EW.cons (AW.mg _ _ _) (EW.cons (AW.refl _) EW.nil)))) (wq rfl))) ?_))))
  intro n85
  rintro ⟨xJ, BQ⟩ Sk h3 hv3
  refine sq (sr (sm rfl (sm rfl (s1 (len rfl rfl rfl (bC jO)) (s1 (bi rfl rfl aJ) (sn (cB h3 rfl (fun h3 => ?_) (fun h3 => ?_))))))))
  ·obtain ⟨v83, AP, h3⟩ := ob h3; obtain ⟨Rh, h3⟩ := gd h3
   refine sk (sq (SC.blk (SC.region (sm rfl (sm rfl (sm rfl (s1 (jo rfl rfl jO rz (aj AP).1 (aY (aj AP).2) rfl) (s1 (fap rfl wC bD rfl) (s1 (bg rfl (bN bD dH rfl)) ?_)))))))))
   refine s1 (sM (k := 1) (ds := List.map eI [v83.Col]) (off := 0) (l' := [v83.Col].length) rfl bZ xH rfl rfl (by rfl) rfl rfl rfl) (s1 (app rfl rfl rfl rfl yR (aF (f := eI) (xs := xJ) (k := 2) rfl bZ xH rfl (eY (xs := [v83.Col]) rfl) Rh rfl)) (sa rfl (SO.nil ?_)))
   change SC _ _ _ _ _
   have q := si h3; subst q
   exact SC.region (sm rfl (s1 (bi rfl rfl aT) (sa rfl (SO.nil (lf (wc [2] [2] (by kernel_rfl) rfl (by kernel_rfl)))))))
  ·have q := si h3; subst q; have q : _ = _ := hv3; subst q; have q := si h1; subst q
   exact SC.exit ((wq rfl))
 ·rintro HV h0
  have q := si h0; subst q
  exact sr (sm rfl (sa rfl (sn (SC.ret (bQ (Wk.trans (Wk.mM (i := 2) (x := .slc 0 1 0 HV.length none) rfl rfl (fF rfl rfl rfl)) (wc (e' := [(2, .d ((eL 1 eI) HV))]) [] [] (by kernel_rfl) rfl (by kernel_rfl))) (aZ rfl aX) rfl)))))
noncomputable def rJ (p0 : aP) (p1 : bE) : Option Int :=
 Option.bind (α := Bool)
 (bif (decide ((p1.Parts.length : Int) < (1 : Int))) then
 some true
 else
 bif (decide ((p1.Parts.length : Int) > (4 : Int))) then
 some true
 else
 Option.bind (jI p1.Parts) fun I6 =>
 Option.bind (kE (p0.aV.length : Int) I6) fun QW =>
 bif (!QW) then
 some true
 else
 Option.bind (kE (p0.aV.length : Int) p1.Extra) fun V9 =>
 some (!V9))
 fun Vn =>
 bif Vn then
 some (1 : Int)
 else
 eu (Y := Unit) (E := Int)
 (Option.bind (α := Unit ⊕ Int)
 (loop (Y := Int) (W := Unit ⊕ Int) (fun Tv =>
 bif (decide (Tv < (p1.Extra.length : Int))) then
 Option.bind (α := Bool)
 (Option.bind (jI p1.Parts) fun adJ =>
 Option.bind (bG p1.Extra Tv) fun adu =>
 Option.bind (gM adJ adu) fun r400 =>
 bif r400 then
 some true
 else
 Option.bind (bG p1.Extra Tv) fun adt =>
 Option.bind (gM p0.aH adt) fun ahp =>
 some ahp)
 fun agp =>
 bif agp then
 some (Sum.inr (Sum.inr (1 : Int)))
 else
 some (Sum.inl (bF (Tv + (1 : Int))))
 else
 some (Sum.inr (Sum.inl ()))) (0 : Int))
 (Sum.elim (fun e => some (Sum.inl e)) (fun e => some (Sum.inr e))))
 (fun _ =>
 Option.bind (mZ p0.aV p1.Parts) fun aho =>
 bif (decide (aho > (128 : Int))) then
 some (7 : Int)
 else
 some (0 : Int))
 (fun e => some e)
theorem IU (p0 : aP) (p1 : bE) (r : Int) (h0 : rJ p0 p1 = some r) : aO Tryz.prog 32 [.d (aK p0), .d (bH p1)] [] (.d (eI r)) [] := by
 unfold rJ at h0
 refine fn0 [0, 1] Tryz.func32 rfl rfl rfl rfl rfl ?_
 refine sr (s1 (tH (k := 0) rfl rfl rfl) (s1 (tH (k := 1) rfl rfl rfl) (sa rfl (sn (sr (s1 (far (k := 1) rfl iT iY rfl) (s1 (bg rfl (ah iY tN rfl rfl)) (s1 (len rfl rfl rfl (bC qp)) (sa rfl ?_)))))))))
 refine sn (sq (SC.bV h0 (fun y => ⟨mk 67 [(2, .ref 0 0 0), (3, .ref 1 0 0), (34, .d (eB y))], [.box (.d (aK p0)), .box (.d (bH p1))]⟩) ?_ ?_))
 ·intro aor h1
  refine SC.region (s1 (far (k := 1) rfl lI iG rfl) (s1 (bg rfl (ah iG rC rfl rfl)) (s1 (len rfl rfl rfl (bC jO)) (s1 (bi rfl rfl aJ) (sm rfl (sp h1 (fun h1 => ?_) (fun h1 => ?_)))))))
  ·have q := si h1; subst q
   refine kw rfl (kw rfl (kw rfl (kw rfl (s1 (pkt rfl rfl) (sm rfl (kw rfl (kw rfl (kw rfl (kw rfl ?_)))))))))
   refine kw rfl (kw rfl (s1 (pkt rfl rfl) (sm rfl (kw rfl (kw rfl (kw rfl (kw rfl (kw rfl (s1 (pkt rfl rfl) ?_)))))))))
   exact SO.nil ((wq rfl))
  ·refine gw rfl (far (k := 1) rfl lI iG rfl) (gw rfl (bg rfl (ah iG rC rfl rfl)) (gw rfl (len rfl rfl rfl (bC jO)) (gw rfl (bi rfl rfl bM) (s1 (dx rfl rfl) (sm rfl (sp h1 (fun h1 => ?_) (fun h1 => ?_)))))))
   ·have q := si h1; subst q
    refine kw rfl (kw rfl (kw rfl (kw rfl (kw rfl (kw rfl (s1 (pkt rfl rfl) (sm rfl (kw rfl (kw rfl ?_)))))))))
    exact kw rfl (kw rfl (kw rfl (s1 (pkt rfl rfl) (SO.nil ((wq rfl))))))
   ·obtain ⟨I6, Xx, h1⟩ := ob h1; obtain ⟨QW, Xw, h1⟩ := ob h1
    refine gw rfl (mv rfl) (gw rfl (far (k := 1) rfl lI iG rfl) (gw rfl (bg rfl (ah iG rC rfl rfl)) (c0 (nN p1.Parts _ Xx) (ww rfl) rfl rfl rfl X7 rfl (fun _ => rfl) (fun _ => rfl) (c0 (rY (p0.aV.length : Int) I6 _ Xw) (ww rfl) rfl rfl rfl afF rfl (fun _ => rfl) (fun _ => rfl) (gw rfl (nt rfl) (s1 (dx rfl rfl) (sm rfl (sp h1 (fun h1 => ?_) (fun h1 => ?_)))))))))
    ·have q := si h1; subst q
     exact kw rfl (kw rfl (kw rfl (kw rfl (kw rfl (s1 (pkt rfl rfl) (SO.nil ((wq rfl))))))))
    ·obtain ⟨V9, Xv, h1⟩ := ob h1; have q := si h1; subst q
     exact gw rfl (mv rfl) (gw rfl (far (k := 2) rfl wE dQ rfl) (gw rfl (bg rfl (ah dQ iZ rfl rfl)) (c0 (rY (p0.aV.length : Int) p1.Extra _ Xv) (ww rfl) rfl rfl rfl afF rfl (fun _ => rfl) (fun _ => rfl) (gw rfl (nt rfl) (s1 (dx rfl rfl) (SO.nil ((wq rfl))))))))
 ·rintro Vn h0
  refine cB h0 rfl (fun h0 => ?_) (fun h0 => ?_)
  ·have q := si h0; subst q
   exact sr (sa rfl (sn (SC.ret (bQ (wc (e' := [(4, .d (eI (1 : Int)))]) [] [] (by kernel_rfl) rfl (by kernel_rfl)) (aZ rfl aX) rfl))))
  ·refine sk (SC.seqB h0 (fun y => ⟨mk 67 [(2, .ref 0 0 0), (3, .ref 1 0 0)], [.box (.d (aK p0)), .box (.d (bH p1))]⟩) ?_ ?_)
   ·intro aol h1 h0
    obtain ⟨anM, h2, h1⟩ := ob h1
    refine sr (sa rfl (sn (SC.blk (SC.dL h2 (fun y => ⟨mk 67 [(2, .ref 0 0 0), (3, .ref 1 0 0), (6, .d (eI y))], [.box (.d (aK p0)), .box (.d (bH p1))]⟩) (wq rfl) ?_))))
    intro arL
    rintro Tv amj h3 hv3
    refine sq (sr (sm rfl (s1 (far (k := 2) rfl wE dQ rfl) (s1 (bg rfl (ah dQ iZ rfl rfl)) (s1 (len rfl rfl rfl (bC bZ)) (s1 (bi rfl rfl aJ) (sn (cB h3 rfl (fun h3 => ?_) (fun h3 => ?_)))))))))
    ·refine sk (sq (SC.blk (SC.bV h3 (fun y => ⟨mk 67 [(2, .ref 0 0 0), (3, .ref 1 0 0), (6, .d (eI Tv)), (60, .d (eB y))], [.box (.d (aK p0)), .box (.d (bH p1))]⟩) ?_ ?_)))
     ·intro anl h4
      obtain ⟨adJ, aiv, h4⟩ := ob h4; obtain ⟨adu, acC, h4⟩ := ob h4; obtain ⟨r400, aiu, h4⟩ := ob h4
      refine SC.draws (by kernel_rfl) (t1 ([], false) (far (k := 1) rfl lI iG rfl) rfl (t1 ([1], false) (bg rfl (ah iG rC rfl rfl)) rfl (Fa (nN p1.Parts _ aiv) wf rfl rfl rfl X7 rfl (fun _ => rfl) (fun _ => rfl) (t1 ([], false) (far (k := 2) rfl wE dQ rfl) rfl (t1 ([1], false) (bg rfl (ah dQ iZ rfl rfl)) rfl (t1 ([], false) (mv rfl) rfl (t1 ([], false) (jo rfl rfl bZ bD (aj acC).1 (aY (aj acC).2) rfl) rfl (t1 ([], false) (bg rfl (bN bD dH rfl)) rfl (Fa (jC adJ adu _ aiu) wf rfl rfl rfl NQ rfl (fun _ => rfl) (fun _ => rfl) ?_)))))))))
      refine t1 ([], false) (mv rfl) rfl (tp h4 (fun h4 => ?_) (fun h4 => ?_))
      ·have q := si h4; subst q
       refine jw rfl (jw rfl (jw rfl (jw rfl (jw rfl (jw rfl (jw rfl (jw rfl (t1 ([], false) (pkt rfl rfl) rfl (ST.nil (And.intro (by decide +kernel) ?_))))))))))
       exact (wq rfl)
      ·obtain ⟨adt, acB, h4⟩ := ob h4; obtain ⟨ahp, ait, h4⟩ := ob h4; have q := si h4; subst q
       refine u1 ([], false) (ww rfl) (far (k := 2) rfl nI dQ rfl) rfl (u1 ([0], false) (ww rfl) (bg rfl (ah dQ iZ rfl rfl)) rfl (u1 ([], false) (ww rfl) (far (k := 2) rfl wE dQ rfl) rfl (u1 ([1], false) (ww rfl) (bg rfl (ah dQ iZ rfl rfl)) rfl (u1 ([], false) (ww rfl) (mv rfl) rfl (u1 ([], false) (ww rfl) (jo rfl rfl bZ bD (aj acB).1 (aY (aj acB).2) rfl) rfl (u1 ([], false) (ww rfl) (bg rfl (bN bD dH rfl)) rfl (Fa (jC p0.aH adt _ ait) (ww rfl) rfl rfl rfl NQ rfl (fun _ => rfl) (fun _ => rfl) (t1 ([], false) (dx rfl rfl) rfl (ST.nil (And.intro (by decide +kernel) ?_))))))))))
       exact (wq rfl)
     ·rintro agp h3
      refine cB h3 rfl (fun h3 => ?_) (fun h3 => ?_)
      ·have q := si h3; subst q; have q : _ = _ := hv3; subst q; have q := si h1; subst q; have q := si h0; subst q
       exact sr (sa rfl (sn (SC.ret (bQ (wc (e' := [(4, .d (eI (1 : Int)))]) [] [] (by kernel_rfl) rfl (by kernel_rfl)) (aZ rfl aX) rfl))))
      ·refine SC.skip ?_
       change SC _ _ _ _ _
       have q := si h3; subst q
       exact SC.region (sm rfl (s1 (bi rfl rfl aT) (sa rfl (SO.nil (lf (wq rfl))))))
    ·have q := si h3; subst q; have q : _ = _ := hv3; subst q; have q := si h1; subst q
     exact SC.exit (lf (wq rfl))
   ·intro _ h0
    obtain ⟨aho, ais, h0⟩ := ob h0
    refine sq (sr (s1 (far (k := 1) rfl iT iY rfl) (s1 (bg rfl (ah iY tN rfl rfl)) (s1 (far (k := 1) rfl lI iG rfl) (s1 (bg rfl (ah iG rC rfl rfl)) (c0 (y5 p0.aV p1.Parts _ ais) wf rfl rfl rfl ajY rfl (fun _ => rfl) (fun _ => rfl) (s1 (bi rfl rfl bM) (sn (cB h0 rfl (fun h0 => ?_) (fun h0 => ?_))))))))))
    ·have q := si h0; subst q
     exact sr (sa rfl (sn (SC.ret (bQ (wc (e' := [(4, .d (eI (7 : Int)))]) [] [] (by kernel_rfl) rfl (by kernel_rfl)) (aZ rfl aX) rfl))))
    ·have q := si h0; subst q
     exact sk (sr (sa rfl (sn (SC.ret (bQ (wc (e' := [(4, .d (eI (0 : Int)))]) [] [] (by kernel_rfl) rfl (by kernel_rfl)) (aZ rfl aX) rfl)))))
noncomputable def rM (p0 : aP) : Option Int :=
 Option.bind (oh p0.Name) fun ahe =>
 bif (!ahe) then
 some (1 : Int)
 else
 Option.bind (α := Bool)
 (bif (decide ((p0.aV.length : Int) < (1 : Int))) then
 some true
 else
 some (decide ((p0.aV.length : Int) > (24 : Int))))
 fun agc =>
 bif agc then
 some (7 : Int)
 else
 eu (Y := Unit) (E := Int)
 (Option.bind (α := Unit ⊕ Int)
 (loop (Y := Int) (W := Unit ⊕ Int) (fun Ou =>
 bif (decide (Ou < (p0.aV.length : Int))) then
 eu (Y := Unit) (E := Int)
 (Option.bind (bG p0.aV Ou) fun Sn =>
 Option.bind (pU Sn) fun SK =>
 bif (SK != (0 : Int)) then
 some (Sum.inr SK)
 else
 Option.bind (α := Unit ⊕ Int)
 (loop (Y := Int) (W := Unit ⊕ Int) (fun Si =>
 bif (decide (Si < Ou)) then
 Option.bind (bG p0.aV Si) fun abe =>
 Option.bind (bG p0.aV Ou) fun abd =>
 bif (abe.Name == abd.Name) then
 some (Sum.inr (Sum.inr (6 : Int)))
 else
 some (Sum.inl (bF (Si + (1 : Int))))
 else
 some (Sum.inr (Sum.inl ()))) (0 : Int))
 (Sum.elim (fun e => some (Sum.inl e)) (fun e => some (Sum.inr e))))
 (fun _ =>
 some (Sum.inl (bF (Ou + (1 : Int)))))
 (fun e => some (Sum.inr (Sum.inr e)))
 else
 some (Sum.inr (Sum.inl ()))) (0 : Int))
 (Sum.elim (fun e => some (Sum.inl e)) (fun e => some (Sum.inr e))))
 (fun _ =>
 Option.bind (α := Bool)
 (bif (decide ((p0.aH.length : Int) < (1 : Int))) then
 some true
 else
 bif (decide ((p0.aH.length : Int) > (4 : Int))) then
 some true
 else
 Option.bind (kE (p0.aV.length : Int) p0.aH) fun abR =>
 some (!abR))
 fun aaQ =>
 bif aaQ then
 some (1 : Int)
 else
 eu (Y := Unit) (E := Int)
 (Option.bind (α := Unit ⊕ Int)
 (loop (Y := Int) (W := Unit ⊕ Int) (fun Sc =>
 bif (decide (Sc < (p0.aH.length : Int))) then
 Option.bind (bG p0.aH Sc) fun abb =>
 Option.bind (bG p0.aV abb) fun aa9 =>
 bif aa9.vN then
 some (Sum.inr (Sum.inr (1 : Int)))
 else
 some (Sum.inl (bF (Sc + (1 : Int))))
 else
 some (Sum.inr (Sum.inl ()))) (0 : Int))
 (Sum.elim (fun e => some (Sum.inl e)) (fun e => some (Sum.inr e))))
 (fun _ =>
 Option.bind (α := Bool)
 (Option.bind (pQ p0.aV) fun abQ =>
 bif (decide (abQ > (512 : Int))) then
 some true
 else
 Option.bind (wY p0.aH) fun Wm =>
 Option.bind (mZ p0.aV Wm) fun abP =>
 bif (decide (abP > (128 : Int))) then
 some true
 else
 some (decide ((p0.bn.length : Int) > (6 : Int))))
 fun aaP =>
 bif aaP then
 some (7 : Int)
 else
 eu (Y := Unit) (E := Int)
 (Option.bind (α := Unit ⊕ Int)
 (loop (Y := Int) (W := Unit ⊕ Int) (fun y1230 =>
 bif (decide (y1230 < (p0.bn.length : Int))) then
 eu (Y := Unit) (E := Int)
 (Option.bind (bG p0.bn y1230) fun zP =>
 Option.bind (oh zP.Name) fun abO =>
 bif (!abO) then
 some (Sum.inr (1 : Int))
 else
 eu (Y := Unit) (E := Int)
 (Option.bind (α := Unit ⊕ Int)
 (loop (Y := Int) (W := Unit ⊕ Int) (fun R9 =>
 bif (decide (R9 < y1230)) then
 Option.bind (bG p0.bn R9) fun aa5 =>
 bif (aa5.Name == zP.Name) then
 some (Sum.inr (Sum.inr (6 : Int)))
 else
 some (Sum.inl (bF (R9 + (1 : Int))))
 else
 some (Sum.inr (Sum.inl ()))) (0 : Int))
 (Sum.elim (fun e => some (Sum.inl e)) (fun e => some (Sum.inr e))))
 (fun _ =>
 Option.bind (rJ p0 zP) fun SH =>
 bif (SH != (0 : Int)) then
 some (Sum.inr SH)
 else
 some (Sum.inl ()))
 (fun e => some (Sum.inr e)))
 (fun _ =>
 some (Sum.inl (bF (y1230 + (1 : Int)))))
 (fun e => some (Sum.inr (Sum.inr e)))
 else
 some (Sum.inr (Sum.inl ()))) (0 : Int))
 (Sum.elim (fun e => some (Sum.inl e)) (fun e => some (Sum.inr e))))
 (fun _ =>
 some (0 : Int))
 (fun e => some e))
 (fun e => some e))
 (fun e => some e)
theorem IW (p0 : aP) (r : Int) (h0 : rM p0 = some r) : aO Tryz.prog 8 [.d (aK p0)] [] (.d (eI r)) [] := by
 unfold rM at h0
 refine fn0 [0] Tryz.func8 rfl rfl rfl rfl rfl ?_
 obtain ⟨ahe, ah0, h0⟩ := ob h0
 refine sr (s1 (tH (k := 0) rfl rfl rfl) (sa rfl (sn (sq (sr (s1 (far (k := 0) rfl Rn lY rfl) (s1 (bg rfl (ah lY xG rfl rfl)) (c0 (vW p0.Name _ ah0) wf rfl rfl rfl afG rfl (fun _ => rfl) (fun _ => rfl) (s1 (nt rfl) ?_)))))))))
 refine sn (cB h0 rfl (fun h0 => ?_) (fun h0 => ?_))
 ·have q := si h0; subst q
  exact sr (sa rfl (sn (SC.ret (bQ (wc (e' := [(2, .d (eI (1 : Int)))]) [] [] (by kernel_rfl) rfl (by kernel_rfl)) (aZ rfl aX) rfl))))
 ·refine sk (sq (SC.bV h0 (fun y => ⟨mk 150 [(1, .ref 0 0 0), (24, .d (eB y))], [.box (.d (aK p0))]⟩) ?_ ?_))
  ·intro an6 h1
   refine SC.region (s1 (far (k := 1) rfl iT iY rfl) (s1 (bg rfl (ah iY tN rfl rfl)) (s1 (len rfl rfl rfl (bC qp)) (s1 (bi rfl rfl aJ) (sm rfl (sp h1 (fun h1 => ?_) (fun h1 => ?_)))))))
   ·have q := si h1; subst q
    exact kw rfl (kw rfl (kw rfl (kw rfl (s1 (pkt rfl rfl) (SO.nil ((wq rfl)))))))
   ·have q := si h1; subst q
    exact gw rfl (far (k := 1) rfl iT iY rfl) (gw rfl (bg rfl (ah iY tN rfl rfl)) (gw rfl (len rfl rfl rfl (bC qp)) (gw rfl (bi rfl rfl bM) (s1 (dx rfl rfl) (SO.nil ((wq rfl)))))))
  ·rintro agc h0
   refine cB h0 rfl (fun h0 => ?_) (fun h0 => ?_)
   ·have q := si h0; subst q
    exact sr (sa rfl (sn (SC.ret (bQ (wc (e' := [(2, .d (eI (7 : Int)))]) [] [] (by kernel_rfl) rfl (by kernel_rfl)) (aZ rfl aX) rfl))))
   ·refine sk (SC.seqB h0 (fun y => ⟨mk 150 [(1, .ref 0 0 0)], [.box (.d (aK p0))]⟩) ?_ ?_)
    ·intro an4 h1 h0
     obtain ⟨alM, h2, h1⟩ := ob h1
     refine sr (sa rfl (sn (SC.blk (SC.dL h2 (fun y => ⟨mk 150 [(1, .ref 0 0 0), (3, .d (eI y))], [.box (.d (aK p0))]⟩) (wq rfl) ?_))))
     intro arp
     rintro Ou akQ h3 hv3
     refine sq (sr (sm rfl (s1 (far (k := 1) rfl iT iY rfl) (s1 (bg rfl (ah iY tN rfl rfl)) (s1 (len rfl rfl rfl (bC qp)) (s1 (bi rfl rfl aJ) (sn (cB h3 rfl (fun h3 => ?_) (fun h3 => ?_)))))))))
     ·refine sk (SC.seqB h3 (fun y => ⟨mk 150 [(1, .ref 0 0 0), (3, .d (eI Ou))], [.box (.d (aK p0))]⟩) ?_ ?_)
      ·intro alA h4 h3
       obtain ⟨Sn, Xt, h4⟩ := ob h4; obtain ⟨SK, aeW, h4⟩ := ob h4
       refine SC.blk (sr (s1 (far (k := 1) rfl iT iY rfl) (s1 (bg rfl (ah iY tN rfl rfl)) (sm rfl (s1 (jo rfl rfl qp BJ (aj Xt).1 (aY (aj Xt).2) rfl) (s1 (bg (v := .d (bI Sn)) rfl (bN BJ TK rfl)) (c0 (G9 Sn _ aeW) wf rfl rfl rfl aqt rfl (fun _ => rfl) (fun _ => rfl) (sa rfl (sn ?_)))))))))
       refine sq (sr (sm rfl (s1 (bi rfl rfl bS) (sn (cB h4 rfl (fun h4 => ?_) (fun h4 => ?_))))))
       ·have q := si h4; subst q; have q := si h3; subst q; have q : _ = _ := hv3; subst q; have q := si h1; subst q; have q := si h0; subst q
        exact sr (sm rfl (sa rfl (sn (SC.ret (bQ (wc (e' := [(2, .d (eI SK))]) [] [] (by kernel_rfl) rfl (by kernel_rfl)) (aZ rfl aX) rfl)))))
       ·obtain ⟨aln, h5, h4⟩ := ob h4
        refine sk (sr (sa rfl (sn (SC.blk (SC.dL h5 (fun y => ⟨mk 150 [(1, .ref 0 0 0), (3, .d (eI Ou)), (5, .d (eI y))], [.box (.d (aK p0))]⟩) (wq rfl) ?_)))))
        intro arq
        rintro Si akF h6 hv6
        refine sq (sr (sm rfl (sm rfl (s1 (bi rfl rfl aJ) (sn (cB h6 rfl (fun h6 => ?_) (fun h6 => ?_)))))))
        ·obtain ⟨abe, Xr, h6⟩ := ob h6; obtain ⟨abd, Xq, h6⟩ := ob h6
         refine sk (sq (SC.blk (sd (by kernel_rfl) (t1 ([], false) (far (k := 1) rfl iT iY rfl) rfl (t1 ([0], false) (bg rfl (ah iY tN rfl rfl)) rfl (t1 ([], false) (mv rfl) rfl (t1 ([], false) (jo rfl rfl qp BJ (aj Xr).1 (aY (aj Xr).2) rfl) rfl (t1 ([], false) (fap rfl Rk lY rfl) rfl (t1 ([], false) (bg rfl (bN lY xG rfl)) rfl ?_)))))))))
         refine t1 ([], false) (far (k := 1) rfl iT iY rfl) rfl (t1 ([0], false) (bg rfl (ah iY tN rfl rfl)) rfl (t1 ([], false) (mv rfl) rfl (t1 ([], false) (jo rfl rfl qp BJ (aj Xq).1 (aY (aj Xq).2) rfl) rfl (t1 ([], false) (fap rfl Rk lY rfl) rfl (t1 ([], false) (bg rfl (bN lY xG rfl)) rfl (t1 ([], false) (bi rfl rfl qB) rfl (tn (by decide +kernel) (cB h6 rfl (fun h6 => ?_) (fun h6 => ?_)))))))))
         ·have q := si h6; subst q; have q : _ = _ := hv6; subst q; have q := si h4; subst q; have q := si h3; subst q; have q : _ = _ := hv3; subst q; have q := si h1; subst q; have q := si h0; subst q
          exact sr (sa rfl (sn (SC.ret (bQ (wc (e' := [(2, .d (eI (6 : Int)))]) [] [] (by kernel_rfl) rfl (by kernel_rfl)) (aZ rfl aX) rfl))))
         ·refine SC.skip ?_
          change SC _ _ _ _ _
          have q := si h6; subst q
          exact SC.region (sm rfl (s1 (bi rfl rfl aT) (sa rfl (SO.nil (lf (wq rfl))))))
        ·have q := si h6; subst q; have q : _ = _ := hv6; subst q; have q := si h4; subst q
         exact SC.exit (lf (wq rfl))
      ·intro _ h3
       have q := si h3; subst q
       exact SC.region (sm rfl (s1 (bi rfl rfl aT) (sa rfl (SO.nil (lf (wq rfl))))))
     ·have q := si h3; subst q; have q : _ = _ := hv3; subst q; have q := si h1; subst q
      exact SC.exit (lf (wq rfl))
    ·intro _ h0
     refine sq (SC.bV h0 (fun y => ⟨mk 150 [(1, .ref 0 0 0), (77, .d (eB y))], [.box (.d (aK p0))]⟩) ?_ ?_)
     ·intro al0 h1
      refine SC.region (s1 (far (k := 2) rfl nI dQ rfl) (s1 (bg rfl (ah dQ iZ rfl rfl)) (s1 (len rfl rfl rfl (bC bZ)) (s1 (bi rfl rfl aJ) (sm rfl (sp h1 (fun h1 => ?_) (fun h1 => ?_)))))))
      ·have q := si h1; subst q
       refine kw rfl (kw rfl (kw rfl (kw rfl (s1 (pkt rfl rfl) (sm rfl (kw rfl (kw rfl (kw rfl (kw rfl ?_)))))))))
       exact kw rfl (kw rfl (kw rfl (s1 (pkt rfl rfl) (SO.nil ((wq rfl))))))
      ·refine gw rfl (far (k := 2) rfl nI dQ rfl) (gw rfl (bg rfl (ah dQ iZ rfl rfl)) (gw rfl (len rfl rfl rfl (bC bZ)) (gw rfl (bi rfl rfl bM) (s1 (dx rfl rfl) (sm rfl (sp h1 (fun h1 => ?_) (fun h1 => ?_)))))))
       ·have q := si h1; subst q
        exact kw rfl (kw rfl (kw rfl (kw rfl (kw rfl (kw rfl (kw rfl (s1 (pkt rfl rfl) (SO.nil ((wq rfl))))))))))
       ·obtain ⟨abR, aeV, h1⟩ := ob h1; have q := si h1; subst q
        exact gw rfl (far (k := 1) rfl iT iY rfl) (gw rfl (bg rfl (ah iY tN rfl rfl)) (gw rfl (len rfl rfl rfl (bC qp)) (gw rfl (far (k := 2) rfl nI dQ rfl) (gw rfl (bg rfl (ah dQ iZ rfl rfl)) (c0 (rY (p0.aV.length : Int) p0.aH _ aeV) (ww rfl) rfl rfl rfl afF rfl (fun _ => rfl) (fun _ => rfl) (gw rfl (nt rfl) (s1 (dx rfl rfl) (SO.nil ((wq rfl))))))))))
     ·rintro aaQ h0
      refine cB h0 rfl (fun h0 => ?_) (fun h0 => ?_)
      ·have q := si h0; subst q
       exact sr (sa rfl (sn (SC.ret (bQ (wc (e' := [(2, .d (eI (1 : Int)))]) [] [] (by kernel_rfl) rfl (by kernel_rfl)) (aZ rfl aX) rfl))))
      ·refine sk (SC.seqB h0 (fun y => ⟨mk 150 [(1, .ref 0 0 0)], [.box (.d (aK p0))]⟩) ?_ ?_)
       ·intro alY h1 h0
        obtain ⟨alL, h2, h1⟩ := ob h1
        refine sr (sa rfl (sn (SC.blk (SC.dL h2 (fun y => ⟨mk 150 [(1, .ref 0 0 0), (6, .d (eI y))], [.box (.d (aK p0))]⟩) (wq rfl) ?_))))
        intro aro
        rintro Sc akP h3 hv3
        refine sq (sr (sm rfl (s1 (far (k := 2) rfl nI dQ rfl) (s1 (bg rfl (ah dQ iZ rfl rfl)) (s1 (len rfl rfl rfl (bC bZ)) (s1 (bi rfl rfl aJ) (sn (cB h3 rfl (fun h3 => ?_) (fun h3 => ?_)))))))))
        ·obtain ⟨abb, Xp, h3⟩ := ob h3; obtain ⟨aa9, Xo, h3⟩ := ob h3
         refine sk (sq (SC.blk (sd (by kernel_rfl) (t1 ([], false) (far (k := 1) rfl iT iY rfl) rfl (t1 ([0], false) (bg rfl (ah iY tN rfl rfl)) rfl (t1 ([], false) (far (k := 2) rfl nI dQ rfl) rfl (t1 ([0], false) (bg rfl (ah dQ iZ rfl rfl)) rfl (t1 ([], false) (mv rfl) rfl (t1 ([], false) (jo rfl rfl bZ bD (aj Xp).1 (aY (aj Xp).2) rfl) rfl ?_)))))))))
         refine t1 ([], false) (bg rfl (bN bD dH rfl)) rfl (t1 ([], false) (jo rfl rfl qp BJ (aj Xo).1 (aY (aj Xo).2) rfl) rfl (t1 ([], false) (fap rfl XM jZ rfl) rfl (t1 ([], false) (bg rfl (bN jZ wS rfl)) rfl (tn (by decide +kernel) (cB h3 rfl (fun h3 => ?_) (fun h3 => ?_))))))
         ·have q := si h3; subst q; have q : _ = _ := hv3; subst q; have q := si h1; subst q; have q := si h0; subst q
          exact sr (sa rfl (sn (SC.ret (bQ (wc (e' := [(2, .d (eI (1 : Int)))]) [] [] (by kernel_rfl) rfl (by kernel_rfl)) (aZ rfl aX) rfl))))
         ·refine SC.skip ?_
          change SC _ _ _ _ _
          have q := si h3; subst q
          exact SC.region (sm rfl (s1 (bi rfl rfl aT) (sa rfl (SO.nil (lf (wq rfl))))))
        ·have q := si h3; subst q; have q : _ = _ := hv3; subst q; have q := si h1; subst q
         exact SC.exit (lf (wq rfl))
       ·intro _ h0
        refine sq (SC.bV h0 (fun y => ⟨mk 150 [(1, .ref 0 0 0), (113, .d (eB y))], [.box (.d (aK p0))]⟩) ?_ ?_)
        ·intro alX h1
         obtain ⟨abQ, aeU, h1⟩ := ob h1
         refine SC.draws (by kernel_rfl) (t1 ([], false) (far (k := 1) rfl iT iY rfl) rfl (t1 ([0], false) (bg rfl (ah iY tN rfl rfl)) rfl (Fa (G5 p0.aV _ aeU) wf rfl rfl rfl aqs rfl (fun _ => rfl) (fun _ => rfl) (t1 ([], false) (bi rfl rfl bM) rfl (t1 ([], false) (mv rfl) rfl (tp h1 (fun h1 => ?_) (fun h1 => ?_)))))))
         ·have q := si h1; subst q
          refine jw rfl (jw rfl (jw rfl (jw rfl (jw rfl (jw rfl (jw rfl (t1 ([], false) (pkt rfl rfl) rfl (t1 ([], false) (mv rfl) rfl (jw rfl ?_)))))))))
          refine jw rfl (jw rfl (jw rfl (t1 ([], false) (pkt rfl rfl) rfl (ST.nil (And.intro (by decide +kernel) ?_)))))
          exact (wq rfl)
         ·obtain ⟨Wm, aeT, h1⟩ := ob h1; obtain ⟨abP, aeS, h1⟩ := ob h1
          refine u1 ([], false) (ww rfl) (far (k := 1) rfl iT iY rfl) rfl (u1 ([0], false) (ww rfl) (bg rfl (ah iY tN rfl rfl)) rfl (u1 ([], false) (ww rfl) (far (k := 2) rfl nI dQ rfl) rfl (u1 ([0], false) (ww rfl) (bg rfl (ah dQ iZ rfl rfl)) rfl (Fa (Gq p0.aH _ aeT) (ww rfl) rfl rfl rfl ajX rfl (fun _ => rfl) (fun _ => rfl) (Fa (y5 p0.aV Wm _ aeS) (ww rfl) rfl rfl rfl ajY rfl (fun _ => rfl) (fun _ => rfl) (u1 ([], false) (ww rfl) (bi rfl rfl bM) rfl (t1 ([], false) (dx rfl rfl) rfl (t1 ([], false) (mv rfl) rfl (tp h1 (fun h1 => ?_) (fun h1 => ?_))))))))))
          ·have q := si h1; subst q
           refine jw rfl (jw rfl (jw rfl (jw rfl (t1 ([], false) (pkt rfl rfl) rfl (ST.nil (And.intro (by decide +kernel) ?_))))))
           exact (wq rfl)
          ·have q := si h1; subst q
           refine u1 ([], false) (ww rfl) (far (k := 3) rfl nH nL rfl) rfl (u1 ([0], false) (ww rfl) (bg rfl (ah nL DX rfl rfl)) rfl (u1 ([], false) (ww rfl) (len rfl rfl rfl (bC zx)) rfl (u1 ([], false) (ww rfl) (bi rfl rfl bM) rfl (t1 ([], false) (dx rfl rfl) rfl (ST.nil (And.intro (by decide +kernel) ?_))))))
           exact (wq rfl)
        ·rintro aaP h0
         refine cB h0 rfl (fun h0 => ?_) (fun h0 => ?_)
         ·have q := si h0; subst q
          exact sr (sa rfl (sn (SC.ret (bQ (wc (e' := [(2, .d (eI (7 : Int)))]) [] [] (by kernel_rfl) rfl (by kernel_rfl)) (aZ rfl aX) rfl))))
         ·refine sk (SC.seqB h0 (fun y => ⟨mk 150 [], []⟩) ?_ ?_)
          ·intro alW h1 h0
           obtain ⟨alJ, h2, h1⟩ := ob h1
           refine sr (sa rfl (sn (SC.blk (SC.dL h2 (fun y => ⟨mk 150 [(1, .ref 0 0 0), (7, .d (eI y))], [.box (.d (aK p0))]⟩) (wq rfl) ?_))))
           intro ark
           rintro y1230 akN h3 hv3
           refine sq (sr (sm rfl (s1 (far (k := 3) rfl nH nL rfl) (s1 (bg rfl (ah nL DX rfl rfl)) (s1 (len rfl rfl rfl (bC zx)) (s1 (bi rfl rfl aJ) (sn (cB h3 rfl (fun h3 => ?_) (fun h3 => ?_)))))))))
           ·refine sk (SC.seqB h3 (fun y => ⟨mk 150 [(1, .ref 0 0 0), (7, .d (eI y1230))], [.box (.d (aK p0))]⟩) ?_ ?_)
            ·intro aly h4 h3
             obtain ⟨zP, Xk, h4⟩ := ob h4; obtain ⟨abO, aeR, h4⟩ := ob h4
             refine SC.blk (sr (s1 (far (k := 3) rfl nH nL rfl) (s1 (bg rfl (ah nL DX rfl rfl)) (sm rfl (s1 (jo rfl rfl zx uT (aj Xk).1 (aY (aj Xk).2) rfl) (s1 (bg (v := .d (bH zP)) rfl (bN uT MJ rfl)) (s1 (yT (k := 1) Tn rfl) (s0 (jP rfl rfl (sB (d' := .d (bH zP)) uT rfl rfl rfl rfl rfl rfl rfl)) (sn ?_)))))))))
             refine sq (sr (s1 (far (k := 0) rfl JI lY rfl) (s1 (bg rfl (ah lY xG rfl rfl)) (c0 (vW zP.Name _ aeR) wf rfl rfl rfl afG rfl (fun _ => rfl) (fun _ => rfl) (s1 (nt rfl) (sn (cB h4 rfl (fun h4 => ?_) (fun h4 => ?_))))))))
             ·have q := si h4; subst q; have q := si h3; subst q; have q : _ = _ := hv3; subst q; have q := si h1; subst q; have q := si h0; subst q
              exact sr (sa rfl (sn (SC.ret (bQ (wc (e' := [(2, .d (eI (1 : Int)))]) [] [] (by kernel_rfl) rfl (by kernel_rfl)) (aZ rfl aX) rfl))))
             ·refine sk (SC.seqB h4 (fun y => ⟨mk 150 [(1, .ref 0 0 0), (7, .d (eI y1230)), (8, .ref 1 0 0)], [.box (.d (aK p0)), .box (.d (bH zP))]⟩) ?_ ?_)
              ·intro alk h5 h4
               obtain ⟨ak1, h6, h5⟩ := ob h5
               refine sr (sa rfl (sn (SC.blk (SC.dL h6 (fun y => ⟨mk 150 [(1, .ref 0 0 0), (7, .d (eI y1230)), (8, .ref 1 0 0), (9, .d (eI y))], [.box (.d (aK p0)), .box (.d (bH zP))]⟩) (wq rfl) ?_))))
               intro arl
               rintro R9 akC h7 hv7
               refine sq (sr (sm rfl (sm rfl (s1 (bi rfl rfl aJ) (sn (cB h7 rfl (fun h7 => ?_) (fun h7 => ?_)))))))
               ·obtain ⟨aa5, Xj, h7⟩ := ob h7
                refine sk (sq (SC.blk (sd (by kernel_rfl) (t1 ([], false) (far (k := 3) rfl nH nL rfl) rfl (t1 ([0], false) (bg rfl (ah nL DX rfl rfl)) rfl (t1 ([], false) (mv rfl) rfl (t1 ([], false) (jo rfl rfl zx uT (aj Xj).1 (aY (aj Xj).2) rfl) rfl (t1 ([], false) (fap rfl JI lY rfl) rfl (t1 ([], false) (bg rfl (bN lY xG rfl)) rfl ?_)))))))))
                refine t1 ([], false) (far (k := 0) rfl JI lY rfl) rfl (t1 ([1], false) (bg rfl (ah lY xG rfl rfl)) rfl (t1 ([], false) (bi rfl rfl qB) rfl (tn (by decide +kernel) (cB h7 rfl (fun h7 => ?_) (fun h7 => ?_)))))
                ·have q := si h7; subst q; have q : _ = _ := hv7; subst q; have q := si h5; subst q; have q := si h4; subst q; have q := si h3; subst q; have q : _ = _ := hv3; subst q; have q := si h1; subst q; have q := si h0; subst q
                 exact sr (sa rfl (sn (SC.ret (bQ (wc (e' := [(2, .d (eI (6 : Int)))]) [] [] (by kernel_rfl) rfl (by kernel_rfl)) (aZ rfl aX) rfl))))
                ·refine SC.skip ?_
                 change SC _ _ _ _ _
                 have q := si h7; subst q
                 exact SC.region (sm rfl (s1 (bi rfl rfl aT) (sa rfl (SO.nil (lf (wq rfl))))))
               ·have q := si h7; subst q; have q : _ = _ := hv7; subst q; have q := si h5; subst q
                exact SC.exit (lf (wq rfl))
              ·intro _ h4
               obtain ⟨SH, aeQ, h4⟩ := ob h4
               refine sr (s1 (bg (v := .d (aK p0)) rfl (ah zS DW rfl rfl)) (s1 (bg (v := .d (bH zP)) rfl (ah uT MJ rfl rfl)) (c0 (IU p0 zP _ aeQ) wf rfl rfl rfl aqr rfl (fun _ => rfl) (fun _ => rfl) (sa rfl (sn (sr (sm rfl (s1 (bi rfl rfl bS) (sn ?_)))))))))
               refine cB h4 rfl (fun h4 => ?_) (fun h4 => ?_)
               ·have q := si h4; subst q; have q := si h3; subst q; have q : _ = _ := hv3; subst q; have q := si h1; subst q; have q := si h0; subst q
                exact sr (sm rfl (sa rfl (sn (SC.ret (bQ (wc (e' := [(2, .d (eI SH))]) [] [] (by kernel_rfl) rfl (by kernel_rfl)) (aZ rfl aX) rfl)))))
               ·have q := si h4; subst q
                exact SC.skip (lf (wc [0] [0] (by kernel_rfl) rfl (by kernel_rfl)))
            ·intro _ h3
             have q := si h3; subst q
             exact SC.region (sm rfl (s1 (bi rfl rfl aT) (sa rfl (SO.nil (lf (wq rfl))))))
           ·have q := si h3; subst q; have q : _ = _ := hv3; subst q; have q := si h1; subst q
            exact SC.exit (lf (wc [] [] (by kernel_rfl) rfl (by kernel_rfl)))
          ·intro _ h0
           have q := si h0; subst q
           exact sr (sa rfl (sn (SC.ret (bQ (Wk.refl _) (aZ rfl aX) rfl))))
noncomputable def qz (p0 : aP) : Option ((List bE)) :=
 bif decide ((([] : List aB).length + p0.aV.length) * 72 ≤ room) then
 bif decide ((([] : List Int).length + p0.aH.length) * 8 ≤ room) then
 Option.bind (α := (List bE))
 (Option.bind (α := (List bE))
 (loop (Y := (List bE) × Int) (W := (List bE)) (fun (y113, y114) =>
 bif (decide (y114 < (p0.bn.length : Int))) then
 Option.bind (bG p0.bn y114) fun gP =>
 bif decide ((([] : List aI).length + gP.Parts.length) * 16 ≤ room) then
 bif decide ((([] : List Int).length + gP.Extra.length) * 8 ≤ room) then
 bif decide ((y113.length + [(bE.mk gP.Name (([] : List aI) ++ gP.Parts) (([] : List Int) ++ gP.Extra) gP.Unique gP.Ready gP.Tree)].length) * 80 ≤ room) then
 some (Sum.inl ((y113 ++ [(bE.mk gP.Name (([] : List aI) ++ gP.Parts) (([] : List Int) ++ gP.Extra) gP.Unique gP.Ready gP.Tree)]), (bF (y114 + (1 : Int)))))
 else none
 else none
 else none
 else
 some (Sum.inr y113)) (([] : List bE), (0 : Int)))
 (fun e => some e))
 fun Mt =>
 some Mt
 else none
 else none
theorem KS (p0 : aP) (r : (List bE)) (h0 : qz p0 = some r) : aO Tryz.prog 9 [.d (aK p0)] [] (.agg [.d (eS p0.Name), .slc 1 7 0 ((([] : List aB) ++ p0.aV).length) none, .slc 2 1 0 ((([] : List Int) ++ p0.aH).length) none, .slc 3 6 0 r.length none, .d (eI p0.Tree)]) [.box (.agg [.d (eS p0.Name), .slc 1 7 0 ((([] : List aB) ++ p0.aV).length) none, .slc 2 1 0 ((([] : List Int) ++ p0.aH).length) none, .slc 3 6 0 r.length none, .d (eI p0.Tree)]), .row 7 (List.map bI (([] : List aB) ++ p0.aV)) true, .row 1 (List.map eI (([] : List Int) ++ p0.aH)) true, .row 6 (List.map bH r) true] := by
 unfold qz at h0
 refine fn0 [0] Tryz.func9 rfl rfl rfl rfl rfl ?_
 obtain ⟨apI, h0⟩ := gd h0; obtain ⟨apH, h0⟩ := gd h0
 refine sr (s1 (tH (k := 0) rfl rfl rfl) (s1 (yT (k := 1) adj rfl) (sn (sr (s1 (sM (k := 2) (ds := List.map bI ([] : List aB)) (off := 0) (l' := ([] : List aB).length) rfl qp afr rfl rfl rfl rfl rfl rfl) (s1 (far (k := 1) rfl iT iY rfl) (s1 (bg rfl (ah iY tN rfl rfl)) (s1 (app rfl rfl rfl rfl aqH (aF (f := bI) (xs := ([] : List aB)) (k := 3) rfl qp afr rfl uH apI rfl)) (s1 (far (k := 1) rfl iT iY rfl) ?_)))))))))
 refine s0 (jP rfl rfl (sB (d' := .agg [.d (eS p0.Name), .slc 3 7 0 ((([] : List aB) ++ p0.aV).length) none, .d ((eL 1 eI) p0.aH), .d ((eL 6 bH) p0.bn), .d (eI p0.Tree)]) iY rfl rfl rfl rfl rfl rfl rfl)) (sn (sr (s1 (sM (k := 4) (ds := List.map eI ([] : List Int)) (off := 0) (l' := ([] : List Int).length) rfl bZ xH rfl rfl rfl rfl rfl rfl) (s1 (far (k := 2) rfl nI dQ rfl) (s1 (bg rfl (ah dQ iZ rfl rfl)) (s1 (app rfl rfl rfl rfl yR (aF (f := eI) (xs := ([] : List Int)) (k := 5) rfl bZ xH rfl uH apH rfl)) (s1 (far (k := 2) rfl nI dQ rfl) (s0 (jP rfl rfl (sB (d' := .agg [.d (eS p0.Name), .slc 3 7 0 ((([] : List aB) ++ p0.aV).length) none, .slc 5 1 0 ((([] : List Int) ++ p0.aH).length) none, .d ((eL 6 bH) p0.bn), .d (eI p0.Tree)]) dQ rfl rfl rfl rfl rfl rfl rfl)) (sn ?_)))))))))
 refine sr (s1 (lX (v := .d .dn) rfl) (sn (SC.bV h0 (fun y => ⟨mk 45 [(1, .ref 0 0 0), (2, .ref 1 0 0), (3, .slc 2 6 0 y.length none)], [.box (.agg [.d (eS p0.Name), .slc 3 7 0 ((([] : List aB) ++ p0.aV).length) none, .slc 4 1 0 ((([] : List Int) ++ p0.aH).length) none, .d ((eL 6 bH) p0.bn), .d (eI p0.Tree)]), .box (.d (.agg [(eS ([] : List UInt8)), .dn, .dn, .dn, (eI (0 : Int))])), .row 6 (List.map bH y) true, .row 7 (List.map bI (([] : List aB) ++ p0.aV)) true, .row 1 (List.map eI (([] : List Int) ++ p0.aH)) true]⟩) ?_ ?_)))
 ·intro aoH h1
  obtain ⟨an1, h2, h1⟩ := ob h1
  refine sr (sa rfl (sn (SC.blk (SC.dL h2 (fun y => ⟨mk 45 [(1, .ref 0 0 0), (2, .ref 1 0 0), (3, .slc 2 6 0 y.1.length none), (4, .d (eI y.2))], [.box (.agg [.d (eS p0.Name), .slc 3 7 0 ((([] : List aB) ++ p0.aV).length) none, .slc 4 1 0 ((([] : List Int) ++ p0.aH).length) none, .d ((eL 6 bH) p0.bn), .d (eI p0.Tree)]), .box (.d (.agg [(eS ([] : List UInt8)), .dn, .dn, .dn, (eI (0 : Int))])), .row 6 (List.map bH y.1) true, .row 7 (List.map bI (([] : List aB) ++ p0.aV)) true, .row 1 (List.map eI (([] : List Int) ++ p0.aH)) true]⟩) (Wk.trans (Wk.mo (σ' := [.box (.agg [.d (eS p0.Name), .slc 3 7 0 ((([] : List aB) ++ p0.aV).length) none, .slc 5 1 0 ((([] : List Int) ++ p0.aH).length) none, .d ((eL 6 bH) p0.bn), .d (eI p0.Tree)]), .box (.d (.agg [(eS ([] : List UInt8)), .dn, .dn, .dn, (eI (0 : Int))])), .dead, .row 7 (List.map bI (([] : List aB) ++ p0.aV)) true, .dead, .row 1 (List.map eI (([] : List Int) ++ p0.aH)) true, .row 6 (List.map bH ([] : List bE)) true]) (.row 6 [] true) (fun _ hh => by cases hh) rfl) (Wk.trans (Wk.env (e' := [(1, .ref 0 0 0), (2, .ref 1 0 0), (3, .slc 6 6 0 (([] : List bE).length) none), (4, .d (eI (0 : Int)))]) (EW.cons (AW.refl _) (EW.cons (AW.refl _) (EW.cons (AW.mg _ _ _) (EW.cons (AW.refl _) EW.nil))))) (wc [0, 1, 6, 3, 5] [0, 1, 6] (by kernel_rfl) rfl (by kernel_rfl)))) ?_))))
  intro n127
  rintro ⟨y113, y114⟩ amy h3 hv3
  refine sq (sr (sm rfl (s1 (far (k := 3) rfl nH nL rfl) (s1 (bg rfl (ah nL DX rfl rfl)) (s1 (len rfl rfl rfl (bC zx)) (s1 (bi rfl rfl aJ) (sn (cB h3 rfl (fun h3 => ?_) (fun h3 => ?_)))))))))
  ·obtain ⟨gP, ac2, h3⟩ := ob h3; obtain ⟨ajt, h3⟩ := gd h3; obtain ⟨ajs, h3⟩ := gd h3; obtain ⟨ajr, h3⟩ := gd h3
   refine sk (sq (SC.blk (sr (s1 (far (k := 3) rfl nH nL rfl) (s1 (bg rfl (ah nL DX rfl rfl)) (sm rfl (s1 (jo rfl rfl zx uT (aj ac2).1 (aY (aj ac2).2) rfl) (s1 (bg (v := .d (bH gP)) rfl (bN uT MJ rfl)) (s1 (yT (k := 5) Tn rfl) ?_)))))))))
   refine s0 (jP rfl rfl (sB (d' := .d (bH gP)) uT rfl rfl rfl rfl rfl rfl rfl)) (sn (sr (s1 (sM (k := 6) (ds := List.map aR ([] : List aI)) (off := 0) (l' := ([] : List aI).length) rfl jO Rq rfl rfl rfl rfl rfl rfl) (s1 (far (k := 1) rfl lI iG rfl) (s1 (bg rfl (ah iG rC rfl rfl)) (s1 (app rfl rfl rfl rfl bc28 (aF (f := aR) (xs := ([] : List aI)) (k := 7) rfl jO Rq rfl uH ajt rfl)) (s1 (far (k := 1) rfl lI iG rfl) (s0 (jP rfl rfl (sB (d' := .agg [.d (eS gP.Name), .slc 7 2 0 ((([] : List aI) ++ gP.Parts).length) none, .d ((eL 1 eI) gP.Extra), .d (eB gP.Unique), .d (eB gP.Ready), .d (eI gP.Tree)]) iG rfl rfl rfl rfl rfl rfl rfl)) (sn ?_)))))))))
   refine sr (s1 (sM (k := 8) (ds := List.map eI ([] : List Int)) (off := 0) (l' := ([] : List Int).length) rfl bZ xH rfl rfl rfl rfl rfl rfl) (s1 (far (k := 2) rfl wE dQ rfl) (s1 (bg rfl (ah dQ iZ rfl rfl)) (s1 (app rfl rfl rfl rfl yR (aF (f := eI) (xs := ([] : List Int)) (k := 9) rfl bZ xH rfl uH ajs rfl)) (s1 (far (k := 2) rfl wE dQ rfl) (s0 (jP rfl rfl (sB (d' := .agg [.d (eS gP.Name), .slc 7 2 0 ((([] : List aI) ++ gP.Parts).length) none, .slc 9 1 0 ((([] : List Int) ++ gP.Extra).length) none, .d (eB gP.Unique), .d (eB gP.Ready), .d (eI gP.Tree)]) dQ rfl rfl rfl rfl rfl rfl rfl)) (sn (SC.region (sm rfl ?_)))))))))
   refine s1 (bg (v := .agg [.d (eS gP.Name), .slc 7 2 0 ((([] : List aI) ++ gP.Parts).length) none, .slc 9 1 0 ((([] : List Int) ++ gP.Extra).length) none, .d (eB gP.Unique), .d (eB gP.Ready), .d (eI gP.Tree)]) rfl (ah uT MJ rfl rfl)) (SO.wk (Wk.kM (i := 39) (x := .agg [.d (eS gP.Name), .slc 7 2 0 ((([] : List aI) ++ gP.Parts).length) none, .slc 9 1 0 ((([] : List Int) ++ gP.Extra).length) none, .d (eB gP.Unique), .d (eB gP.Ready), .d (eI gP.Tree)]) rfl rfl rfl (iR rfl (gW (fF rfl rfl rfl) (gW (fF rfl rfl rfl) (iR rfl (iR rfl (iR rfl p9))))))) (s1 (sM (k := 10) (ds := List.map bH [(bE.mk gP.Name (([] : List aI) ++ gP.Parts) (([] : List Int) ++ gP.Extra) gP.Unique gP.Ready gP.Tree)]) (off := 0) (l' := [(bE.mk gP.Name (([] : List aI) ++ gP.Parts) (([] : List Int) ++ gP.Extra) gP.Unique gP.Ready gP.Tree)].length) rfl zx afs rfl rfl (by rfl) rfl rfl rfl) (s1 (app rfl rfl rfl rfl bc24 (aF (f := bH) (xs := y113) (k := 11) rfl zx afs rfl (eY (xs := [(bE.mk gP.Name (([] : List aI) ++ gP.Parts) (([] : List Int) ++ gP.Extra) gP.Unique gP.Ready gP.Tree)]) rfl) ajr rfl)) (sa rfl (SO.nil ?_)))))
   change SC _ _ _ _ _
   have q := si h3; subst q
   exact SC.region (sm rfl (s1 (bi rfl rfl aT) (sa rfl (SO.nil (lf (wc [0, 1, 11, 3, 4] [0, 1, 11] (by kernel_rfl) rfl (by kernel_rfl)))))))
  ·have q := si h3; subst q; have q : _ = _ := hv3; subst q; have q := si h1; subst q
   exact SC.exit ((wq rfl))
 ·rintro Mt h0
  have q := si h0; subst q
  refine sr (sm rfl (s1 (far (k := 3) rfl nH nL rfl) (s0 (jP rfl rfl (sB (d' := .agg [.d (eS p0.Name), .slc 3 7 0 ((([] : List aB) ++ p0.aV).length) none, .slc 4 1 0 ((([] : List Int) ++ p0.aH).length) none, .slc 2 6 0 Mt.length none, .d (eI p0.Tree)]) nL rfl rfl rfl rfl rfl rfl rfl)) (sn (sr (s1 (bg (v := .agg [.d (eS p0.Name), .slc 3 7 0 ((([] : List aB) ++ p0.aV).length) none, .slc 4 1 0 ((([] : List Int) ++ p0.aH).length) none, .slc 2 6 0 Mt.length none, .d (eI p0.Tree)]) rfl (ah zS DW rfl rfl)) (s0 (jP rfl rfl (sB (d' := .agg [.d (eS p0.Name), .slc 3 7 0 ((([] : List aB) ++ p0.aV).length) none, .slc 4 1 0 ((([] : List Int) ++ p0.aH).length) none, .slc 2 6 0 Mt.length none, .d (eI p0.Tree)]) zS rfl rfl rfl rfl rfl rfl rfl)) (sn (SC.ret ?_)))))))))
  exact bQ (wc (e' := [(2, .ref 0 0 0)]) [1, 3, 4, 2] [1] (by kernel_rfl) rfl (by kernel_rfl)) (Cr rfl (ah zS DW rfl rfl) aX) rfl
theorem G7 (p0 : aP) (r : (List bE)) (h0 : qz p0 = some r) : aO Tryz.prog 9 [.d (aK p0)] [] (.d (aK (aP.mk p0.Name (([] : List aB) ++ p0.aV) (([] : List Int) ++ p0.aH) r p0.Tree))) [.box (.agg [.d (eS p0.Name), .slc 1 7 0 ((([] : List aB) ++ p0.aV).length) none, .slc 2 1 0 ((([] : List Int) ++ p0.aH).length) none, .slc 3 6 0 r.length none, .d (eI p0.Tree)]), .row 7 (List.map bI (([] : List aB) ++ p0.aV)) false, .row 1 (List.map eI (([] : List Int) ++ p0.aH)) false, .row 6 (List.map bH r) false] :=
 aO.ajy (KS p0 r h0) (iR rfl (gW (AU rfl rfl) (gW (AU rfl rfl) (gW (AU rfl rfl) (iR rfl p9)))))
noncomputable def oO (p0 : bP) : Option ((List bq)) :=
 Option.bind (α := (List bq))
 (Option.bind (α := (List bq))
 (loop (Y := Int × (List bq)) (W := (List bq)) (fun (tK, GV) =>
 bif (decide (tK < (p0.Pred.length : Int))) then
 Option.bind (bG p0.Pred tK) fun Fq =>
 Option.bind (bG p0.Pred tK) fun sN =>
 Option.bind (bG p0.Pred tK) fun Ir =>
 Option.bind (bG p0.Pred tK) fun Mx =>
 bif decide ((GV.length + [(bq.mk Fq.Kind sN.Col Ir.Op Mx.Val)].length) * 56 ≤ room) then
 some (Sum.inl ((bF (tK + (1 : Int))), (GV ++ [(bq.mk Fq.Kind sN.Col Ir.Op Mx.Val)])))
 else none
 else
 some (Sum.inr GV)) ((0 : Int), ([] : List bq)))
 (fun e => some e))
 fun KH =>
 some KH
theorem Jv (p0 : bP) (r : (List bq)) (h0 : oO p0 = some r) : aO Tryz.prog 10 [.d (bY p0)] [] (.agg [.slc 1 6 0 r.length none, .d ((eL 1 eI) p0.aV), .d ((eL 2 aR) p0.Order), .d (eI p0.Limit)]) [.box (.agg [.slc 1 6 0 r.length none, .d ((eL 1 eI) p0.aV), .d ((eL 2 aR) p0.Order), .d (eI p0.Limit)]), .row 6 (List.map au r) true] := by
 unfold oO at h0
 refine fn0 [0] Tryz.func10 rfl rfl rfl rfl rfl ?_
 refine sr (s1 (tH (k := 0) rfl rfl rfl) (s1 (yT (k := 1) adi rfl) (sn (sr (s1 (far (k := 1) rfl NJ dQ rfl) (s1 (bg rfl (ah dQ iZ rfl rfl)) (s1 (far (k := 2) rfl NI iG rfl) (s1 (bg rfl (ah iG rC rfl rfl)) (s1 (far (k := 3) rfl XQ bD rfl) ?_)))))))))
 refine s1 (bg rfl (ah bD dH rfl rfl)) (s1 (xI rfl (RB p0.aV p0.Order p0.Limit)) (s1 (yT (k := 2) adi rfl) (s0 (jP rfl rfl (sB (d' := .d (.agg [.dn, ((eL 1 eI) p0.aV), ((eL 2 aR) p0.Order), (eI p0.Limit)])) MH rfl rfl rfl rfl rfl rfl rfl)) (sn (SC.bV h0 (fun y => ⟨mk 50 [(2, .ref 0 0 0), (3, .ref 1 0 0)], [.box (.d (.agg [.dn, .dn, .dn, (eI (0 : Int))])), .box (.agg [.slc 2 6 0 y.length none, .d ((eL 1 eI) p0.aV), .d ((eL 2 aR) p0.Order), .d (eI p0.Limit)]), .row 6 (List.map au y) true]⟩) ?_ ?_)))))
 ·intro adC h1
  obtain ⟨adA, h2, h1⟩ := ob h1
  refine sr (sa rfl (sn (SC.blk (SC.dL h2 (fun y => ⟨mk 50 [(1, .ref 0 0 0), (2, .ref 1 0 0), (3, .ref 2 0 0), (4, .d (eI y.1))], [.box (.d (bY p0)), .box (.d (.agg [.dn, .dn, .dn, (eI (0 : Int))])), .box (.agg [.slc 3 6 0 y.2.length none, .d ((eL 1 eI) p0.aV), .d ((eL 2 aR) p0.Order), .d (eI p0.Limit)]), .row 6 (List.map au y.2) true]⟩) (Wk.trans (Wk.mo (σ' := [.box (.d (bY p0)), .box (.d (.agg [.dn, .dn, .dn, (eI (0 : Int))])), .box (.d (.agg [.dn, ((eL 1 eI) p0.aV), ((eL 2 aR) p0.Order), (eI p0.Limit)])), .row 6 (List.map au ([] : List bq)) true]) (.row 6 [] true) (fun _ hh => by cases hh) rfl) (Wk.trans (Wk.Z4 (id := 2) (y := .agg [.slc 3 6 0 (([] : List bq).length) none, .d ((eL 1 eI) p0.aV), .d ((eL 2 aR) p0.Order), .d (eI p0.Limit)]) (σ' := [.box (.d (bY p0)), .box (.d (.agg [.dn, .dn, .dn, (eI (0 : Int))])), .box (.agg [.slc 3 6 0 (([] : List bq).length) none, .d ((eL 1 eI) p0.aV), .d ((eL 2 aR) p0.Order), .d (eI p0.Limit)]), .row 6 (List.map au ([] : List bq)) true]) rfl (nK.cons (AW.mg _ _ _) (nK.cons (AW.refl _) (nK.cons (AW.refl _) (nK.cons (AW.refl _) nK.nil)))) rfl) (wq rfl))) ?_))))
  intro n139
  rintro ⟨tK, GV⟩ adq h3 hv3
  refine sq (sr (sm rfl (s1 (far (k := 0) rfl yL zy rfl) (s1 (bg rfl (ah zy MK rfl rfl)) (s1 (len rfl rfl rfl (bC vR)) (s1 (bi rfl rfl aJ) (sn (cB h3 rfl (fun h3 => ?_) (fun h3 => ?_)))))))))
  ·obtain ⟨Fq, PN, h3⟩ := ob h3; obtain ⟨sN, GD, h3⟩ := ob h3; obtain ⟨Ir, PL, h3⟩ := ob h3; obtain ⟨Mx, ac0, h3⟩ := ob h3; obtain ⟨XG, h3⟩ := gd h3
   refine sk (sq (SC.blk (SC.draws (by kernel_rfl) (t1 ([], false) (far (k := 0) rfl FT GY rfl) rfl (t1 ([2], false) (bg rfl (ah GY VP rfl rfl)) rfl (t1 ([], false) (far (k := 0) rfl yL zy rfl) rfl (t1 ([0], false) (bg rfl (ah zy MK rfl rfl)) rfl (t1 ([], false) (mv rfl) rfl (t1 ([], false) (jo rfl rfl vR q9 (aj PN).1 (aY (aj PN).2) rfl) rfl ?_)))))))))
   refine t1 ([], false) (fap rfl qH bD rfl) rfl (t1 ([], false) (bg rfl (bN bD dH rfl)) rfl (t1 ([], false) (far (k := 0) rfl yL zy rfl) rfl (t1 ([0], false) (bg rfl (ah zy MK rfl rfl)) rfl (t1 ([], false) (mv rfl) rfl (t1 ([], false) (jo rfl rfl vR q9 (aj GD).1 (aY (aj GD).2) rfl) rfl (t1 ([], false) (fap rfl yI bD rfl) rfl (t1 ([], false) (bg rfl (bN bD dH rfl)) rfl (t1 ([], false) (far (k := 0) rfl yL zy rfl) rfl (t1 ([0], false) (bg rfl (ah zy MK rfl rfl)) rfl ?_)))))))))
   refine t1 ([], false) (mv rfl) rfl (t1 ([], false) (jo rfl rfl vR q9 (aj PL).1 (aY (aj PL).2) rfl) rfl (t1 ([], false) (fap rfl qG bD rfl) rfl (t1 ([], false) (bg rfl (bN bD dH rfl)) rfl (t1 ([], false) (far (k := 0) rfl yL zy rfl) rfl (t1 ([0], false) (bg rfl (ah zy MK rfl rfl)) rfl (t1 ([], false) (mv rfl) rfl (t1 ([], false) (jo rfl rfl vR q9 (aj ac0).1 (aY (aj ac0).2) rfl) rfl (t1 ([], false) (fap rfl Dl iC rfl) rfl (t1 ([], false) (bg (v := .d (bA Mx.Val)) rfl (bN iC o8 rfl)) rfl ?_)))))))))
   refine t1 ([], false) (xI rfl (NR Fq.Kind sN.Col Ir.Op Mx.Val)) rfl (t1 ([4], true) (sM (k := 4) (ds := List.map au [(bq.mk Fq.Kind sN.Col Ir.Op Mx.Val)]) (off := 0) (l' := [(bq.mk Fq.Kind sN.Col Ir.Op Mx.Val)].length) rfl vQ ajC rfl rfl (by rfl) rfl rfl rfl) rfl (t1 ([3, 4, 5], true) (app rfl rfl rfl rfl bc35 (aF (f := au) (xs := GV) (k := 5) rfl vQ ajC rfl (eY (xs := [(bq.mk Fq.Kind sN.Col Ir.Op Mx.Val)]) rfl) XG rfl)) rfl (t1 ([], false) (far (k := 0) rfl FT GY rfl) rfl (t0 ([2, 5], true) (jP rfl rfl (sB (d' := .agg [.slc 5 6 0 ((GV ++ [(bq.mk Fq.Kind sN.Col Ir.Op Mx.Val)]).length) none, .d ((eL 1 eI) p0.aV), .d ((eL 2 aR) p0.Order), .d (eI p0.Limit)]) GY rfl rfl rfl rfl rfl rfl rfl)) rfl (ST.nil (And.intro (by decide +kernel) ?_))))))
   change SC _ _ _ _ _
   have q := si h3; subst q
   exact SC.region (sm rfl (s1 (bi rfl rfl aT) (sa rfl (SO.nil (lf (wc [0, 1, 2, 5] [0, 1, 2] (by kernel_rfl) rfl (by kernel_rfl)))))))
  ·have q := si h3; subst q; have q : _ = _ := hv3; subst q; have q := si h1; subst q
   exact SC.exit ((wc [1, 2, 3] [1, 2] (by kernel_rfl) rfl (by kernel_rfl)))
 ·rintro KH h0
  have q := si h0; subst q
  exact sr (s1 (bg (v := .agg [.slc 2 6 0 KH.length none, .d ((eL 1 eI) p0.aV), .d ((eL 2 aR) p0.Order), .d (eI p0.Limit)]) rfl (ah MH TL rfl rfl)) (s0 (jP rfl rfl (sB (d' := .agg [.slc 2 6 0 KH.length none, .d ((eL 1 eI) p0.aV), .d ((eL 2 aR) p0.Order), .d (eI p0.Limit)]) MH rfl rfl rfl rfl rfl rfl rfl)) (sn (SC.ret (bQ (wc (e' := [(2, .ref 0 0 0)]) [0, 2] [0] (by kernel_rfl) rfl (by kernel_rfl)) (Cr rfl (ah MH TL rfl rfl) aX) rfl)))))
theorem FJ (p0 : bP) (r : (List bq)) (h0 : oO p0 = some r) : aO Tryz.prog 10 [.d (bY p0)] [] (.d (bK (bT.mk r p0.aV p0.Order p0.Limit))) [.box (.agg [.slc 1 6 0 r.length none, .d ((eL 1 eI) p0.aV), .d ((eL 2 aR) p0.Order), .d (eI p0.Limit)]), .row 6 (List.map au r) false] :=
 aO.ajy (Jv p0 r h0) (gW (AU rfl rfl) (iR rfl (iR rfl (iR rfl p9))))
noncomputable def dO (p0 : Int) : Option Int :=
 bif (p0 == (6 : Int)) then
 some (1 : Int)
 else
 Option.bind (α := Bool)
 (bif (p0 == (4 : Int)) then
 some true
 else
 some (p0 == (5 : Int)))
 fun y6 =>
 bif y6 then
 some (2 : Int)
 else
 some (0 : Int)
theorem dG (p0 : Int) (r : Int) (h0 : dO p0 = some r) : aO Tryz.prog 70 [.d (eI p0)] [] (.d (eI r)) [] := by
 unfold dO at h0
 refine fn0 [0] Tryz.func70 rfl rfl rfl rfl rfl ?_
 refine sr (sa rfl (sn (sq (sr (sm rfl (s1 (bi rfl rfl aM) (sn (cB h0 rfl (fun h0 => ?_) (fun h0 => ?_)))))))))
 ·have q := si h0; subst q
  exact sr (sa rfl (sn (SC.ret (bQ (Wk.refl _) (aZ rfl aX) rfl))))
 ·refine sk (sq (SC.bV h0 (fun y => ⟨mk 11 [(10, .d (eB y))], []⟩) ?_ ?_))
  ·intro Zd h1
   refine SC.region (sm rfl (s1 (bi rfl rfl aM) (sm rfl (sp h1 (fun h1 => ?_) (fun h1 => ?_)))))
   ·have q := si h1; subst q
    exact kw rfl (kw rfl (s1 (pkt rfl rfl) (SO.nil ((wq rfl)))))
   ·have q := si h1; subst q
    exact gw rfl (mv rfl) (gw rfl (bi rfl rfl aM) (s1 (dx rfl rfl) (SO.nil ((wq rfl)))))
  ·rintro y6 h0
   refine cB h0 rfl (fun h0 => ?_) (fun h0 => ?_)
   ·have q := si h0; subst q
    exact sr (sa rfl (sn (SC.ret (bQ (Wk.refl _) (aZ rfl aX) rfl))))
   ·have q := si h0; subst q
    exact sk (sr (sa rfl (sn (SC.ret (bQ (Wk.refl _) (aZ rfl aX) rfl)))))
end Lv
