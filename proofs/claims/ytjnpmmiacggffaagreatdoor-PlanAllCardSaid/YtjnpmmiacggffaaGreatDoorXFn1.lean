/- Part of the proof of a law: functions and their walks. -/
import Derived.Test.YtjnpmmiacggffaaGreatDoorXFn0
namespace Lv
open Go Go.Proofs
set_option linter.unusedVariables false
set_option linter.unusedSimpArgs false
set_option linter.unusedSectionVars false
set_option maxRecDepth 100000
variable [bJ] [uO]
noncomputable def mF (p0 : aP) (p1 : bP) : Option ((List aG)) :=
 Option.bind (oP ([] : List UInt8)) fun vZ =>
 Option.bind (α := (List aI))
 (Option.bind (α := (List aI))
 (loop (Y := (List aI) × Int) (W := (List aI)) (fun (zH, uP) =>
 bif (decide (uP < (p0.aH.length : Int))) then
 Option.bind (bG p0.aH uP) fun KI =>
 bif decide ((zH.length + [(aI.mk KI false)].length) * 16 ≤ room) then
 some (Sum.inl ((zH ++ [(aI.mk KI false)]), (bF (uP + (1 : Int)))))
 else none
 else
 some (Sum.inr zH)) (([] : List aI), (0 : Int)))
 (fun e => some e))
 fun GQ =>
 Option.bind (iX GQ p1.Pred) fun (uq, xX, xW) =>
 Option.bind (α := (List aG))
 (Option.bind (α := Bool)
 (bif (decide (uq > (0 : Int))) then
 some true
 else
 some xX)
 fun YP =>
 bif YP then
 Option.bind (ni (aG.mk (-2 : Int) xW uq xX false (0 : Int)) (uq == (GQ.length : Int))) fun I5 =>
 bif decide (([(aG.mk (-1 : Int) vZ (0 : Int) false false (2000 : Int))].length + [(aG.mk (-2 : Int) xW uq xX false (bF ((1 : Int) + (bF ((2 : Int) * I5)))))].length) * 72 ≤ room) then
 some ([(aG.mk (-1 : Int) vZ (0 : Int) false false (2000 : Int))] ++ [(aG.mk (-2 : Int) xW uq xX false (bF ((1 : Int) + (bF ((2 : Int) * I5)))))])
 else none
 else
 some [(aG.mk (-1 : Int) vZ (0 : Int) false false (2000 : Int))])
 fun YQ =>
 Option.bind (kI p1) fun MX =>
 Option.bind (α := (List aG))
 (Option.bind (α := (List aG))
 (loop (Y := (List aG) × Int) (W := (List aG)) (fun (Cy, o7) =>
 bif (decide (o7 < (p0.bn.length : Int))) then
 Option.bind (α := (List aG))
 (Option.bind (bG p0.bn o7) fun zu =>
 bif (!zu.Ready) then
 some Cy
 else
 Option.bind (ou p0 zu MX) fun um =>
 Option.bind (iX zu.Parts p1.Pred) fun (vY, Ad, xV) =>
 Option.bind (α := Int)
 (bif zu.Unique then
 Option.bind (ni (aG.mk o7 xV vY Ad um (0 : Int)) (vY == (zu.Parts.length : Int))) fun Zn =>
 some Zn
 else
 Option.bind (ni (aG.mk o7 xV vY Ad um (0 : Int)) false) fun Zm =>
 some Zm)
 fun Ow =>
 Option.bind (α := aG)
 (bif um then
 some (aG.mk o7 xV vY Ad um (bF ((1 : Int) + Ow)))
 else
 some (aG.mk o7 xV vY Ad um (bF ((2 : Int) + (bF ((4 : Int) * Ow))))))
 fun Fe =>
 bif decide ((Cy.length + [Fe].length) * 72 ≤ room) then
 some (Cy ++ [Fe])
 else none)
 fun YH =>
 some (Sum.inl (YH, (bF (o7 + (1 : Int)))))
 else
 some (Sum.inr Cy)) (YQ, (0 : Int)))
 (fun e => some e))
 fun Tq =>
 some Tq
theorem Cm (p0 : aP) (p1 : bP) (r : (List aG)) (h0 : mF p0 p1 = some r) : aO Tryz.prog 13 [.d (aK p0), .d (bY p1)] [] (.d ((eL 8 aQ) r)) [] := by
 unfold mF at h0
 refine fn0 [0, 1] Tryz.func13 rfl rfl rfl rfl rfl ?_
 obtain ⟨vZ, aii, h0⟩ := ob h0
 refine sr (s1 (tH (k := 0) rfl rfl rfl) (s1 (tH (k := 1) rfl rfl rfl) (s1 (lX (v := .d .dn) rfl) (sn (sr (cq [] [2] (Ev ([] : List UInt8) _ aii) wf rfl rfl rfl ajU rfl rfl rfl rfl rfl rfl rfl rfl (s1 (xI rfl (RA (-1 : Int) vZ (2000 : Int))) (s1 (sM (k := 3) (ds := List.map aQ [(aG.mk (-1 : Int) vZ (0 : Int) false false (2000 : Int))]) (off := 0) (l' := [(aG.mk (-1 : Int) vZ (0 : Int) false false (2000 : Int))].length) rfl uS XZ rfl rfl (by rfl) rfl rfl rfl) (sa rfl ?_)))))))))
 refine sn (sr (s1 (lX (v := .d .dn) rfl) (sn (SC.bV h0 (fun y => ⟨mk 122 [(2, .ref 0 0 0), (3, .ref 1 0 0), (5, .slc 2 8 0 ([(aG.mk (-1 : Int) vZ (0 : Int) false false (2000 : Int))].length) none), (6, .slc 3 2 0 y.length none)], [.box (.d (aK p0)), .box (.d (bY p1)), .row 8 (List.map aQ [(aG.mk (-1 : Int) vZ (0 : Int) false false (2000 : Int))]) true, .row 2 (List.map aR y) true]⟩) ?_ ?_))))
 ·intro aoe h1
  obtain ⟨anH, h2, h1⟩ := ob h1
  refine sr (s1 (far (k := 2) rfl nI dQ rfl) (s1 (bg rfl (ah dQ iZ rfl rfl)) (s1 (len rfl rfl rfl (bC bZ)) (sm rfl (sn (SC.blk (SC.dL h2 (fun y => ⟨mk 122 [(2, .ref 0 0 0), (3, .ref 1 0 0), (5, .slc 2 8 0 ([(aG.mk (-1 : Int) vZ (0 : Int) false false (2000 : Int))].length) none), (6, .slc 3 2 0 y.1.length none), (19, .d ((eL 1 eI) p0.aH)), (20, .d (eI (p0.aH.length : Int))), (21, .d (eI y.2))], [.box (.d (aK p0)), .box (.d (bY p1)), .row 8 (List.map aQ [(aG.mk (-1 : Int) vZ (0 : Int) false false (2000 : Int))]) true, .row 2 (List.map aR y.1) true]⟩) (Wk.trans (Wk.mo (σ' := [.box (.d (aK p0)), .box (.d (bY p1)), .box (.d (bB vZ)), .row 8 (List.map aQ [(aG.mk (-1 : Int) vZ (0 : Int) false false (2000 : Int))]) true, .row 2 (List.map aR ([] : List aI)) true]) (.row 2 [] true) (fun _ hh => by cases hh) rfl) (Wk.trans (Wk.env (e' := [(2, .ref 0 0 0), (3, .ref 1 0 0), (5, .slc 3 8 0 ([(aG.mk (-1 : Int) vZ (0 : Int) false false (2000 : Int))].length) none), (6, .slc 4 2 0 (([] : List aI).length) none), (19, .d ((eL 1 eI) p0.aH)), (20, .d (eI (p0.aH.length : Int))), (21, .d (eI (0 : Int)))]) (EW.cons (AW.refl _) (EW.cons (AW.refl _) (EW.cons (AW.refl _) (EW.cons (AW.mg _ _ _) (EW.cons (AW.refl _) (EW.cons (AW.refl _) (EW.cons (AW.refl _) EW.nil)))))))) (wc [0, 1, 3, 4] [0, 1, 3, 4] (by kernel_rfl) rfl (by kernel_rfl)))) ?_)))))))
  intro arG
  rintro ⟨zH, uP⟩ ame h3 hv3
  refine sr (s1 (bi rfl rfl aJ) (sn (sq (cB h3 rfl (fun h3 => ?_) (fun h3 => ?_)))))
  ·obtain ⟨KI, ach, h3⟩ := ob h3; obtain ⟨ajb, h3⟩ := gd h3
   refine sk (sq (SC.blk (sr (s1 (jo rfl rfl bZ bD (aj ach).1 (aY (aj ach).2) rfl) (s1 (bg rfl (bN bD dH rfl)) (sa rfl (sn (SC.region (sm rfl ?_)))))))))
   refine sm rfl (s1 (xI rfl (Ry KI)) (s1 (sM (k := 4) (ds := List.map aR [(aI.mk KI false)]) (off := 0) (l' := [(aI.mk KI false)].length) rfl jO Rq rfl rfl (by rfl) rfl rfl rfl) (s1 (app rfl rfl rfl rfl bc28 (aF (f := aR) (xs := zH) (k := 5) rfl jO Rq rfl (eY (xs := [(aI.mk KI false)]) rfl) ajb rfl)) (sa rfl (SO.nil ?_)))))
   change SC _ _ _ _ _
   have q := si h3; subst q
   exact SC.region (s1 (bi rfl rfl aT) (sm rfl (SO.nil (lf (wc [0, 1, 2, 5] [0, 1, 2, 5] (by kernel_rfl) rfl (by kernel_rfl))))))
  ·have q := si h3; subst q; have q : _ = _ := hv3; subst q; have q := si h1; subst q
   exact SC.exit ((wq rfl))
 ·rintro GQ h0
  obtain ⟨⟨uq, xX, xW⟩, aif, h0⟩ := ob h0
  refine sr (s1 (xI rfl (afK (-2 : Int))) (s1 (yT (k := 4) af0 rfl) (s0 (jP rfl rfl (sB (d' := .d (aQ (aG.mk (-2 : Int) (aW.mk ([] : List UInt8) ([] : List UInt8) false) (0 : Int) false false (0 : Int)))) xL rfl rfl rfl rfl rfl rfl rfl)) (sn (sr (sm rfl (s1 (far (k := 0) rfl yL zy rfl) (s1 (bg rfl (ah zy MK rfl rfl)) (cq (args' := [.slc 0 2 0 GQ.length none, .d ((eL 6 aU) p1.Pred)]) (lM := [.row 2 (List.map aR GQ) true]) [3] [5] (aO.mM (gQ.mM (fF rfl rfl rfl) (gQ.keep (gQ.nil _))) (fq [] [1] (Al GQ p1.Pred _ aif) rfl rfl rfl rfl rfl rfl rfl rfl)) wf rfl rfl rfl ajT rfl rfl rfl rfl rfl rfl rfl rfl ?_)))))))))
  refine sm rfl (s1 (ext rfl rfl) (s1 (ext rfl rfl) (s1 (ext rfl rfl) (s1 (far (k := 1) rfl Rm nE rfl) (s0 (jP rfl rfl (sB (d' := .d (aQ (aG.mk (-2 : Int) xW (0 : Int) false false (0 : Int)))) nE rfl rfl rfl rfl rfl rfl rfl)) (s1 (far (k := 4) rfl Dm bD rfl) (s0 (jP rfl rfl (sB (d' := .d (aQ (aG.mk (-2 : Int) xW uq false false (0 : Int)))) bD rfl rfl rfl rfl rfl rfl rfl)) (s1 (far (k := 5) rfl JJ jZ rfl) (s0 (jP rfl rfl (sB (d' := .d (aQ (aG.mk (-2 : Int) xW uq xX false (0 : Int)))) jZ rfl rfl rfl rfl rfl rfl rfl)) ?_)))))))))
  refine sn (SC.bV h0 (fun y => ⟨mk 122 [(2, .ref 0 0 0), (3, .ref 1 0 0), (5, .slc 2 8 0 y.length none)], [.box (.d (aK p0)), .box (.d (bY p1)), .row 8 (List.map aQ y) true]⟩) ?_ ?_)
  ·intro aoc h1
   refine SC.bV h1 (fun y => ⟨mk 122 [(2, .ref 0 0 0), (3, .ref 1 0 0), (5, .slc 2 8 0 ([(aG.mk (-1 : Int) vZ (0 : Int) false false (2000 : Int))].length) none), (6, .slc 3 2 0 GQ.length none), (9, .ref 4 0 0), (49, .d (eB y))], [.box (.d (aK p0)), .box (.d (bY p1)), .row 8 (List.map aQ [(aG.mk (-1 : Int) vZ (0 : Int) false false (2000 : Int))]) true, .row 2 (List.map aR GQ) false, .box (.d (aQ (aG.mk (-2 : Int) xW uq xX false (0 : Int))))]⟩) ?_ ?_
   ·intro anF h2
    refine SC.region (s1 (far (k := 4) rfl Dm bD rfl) (s1 (bg rfl (ah bD dH rfl rfl)) (s1 (bi rfl rfl bM) (sm rfl (sp h2 (fun h2 => ?_) (fun h2 => ?_))))))
    ·have q := si h2; subst q
     exact kw rfl (kw rfl (s1 (pkt rfl rfl) (SO.nil ((wc [0, 1, 2, 3, 4] [0, 1, 2, 3, 4] (by kernel_rfl) rfl (by kernel_rfl))))))
    ·have q := si h2; subst q
     exact gw rfl (far (k := 5) rfl JJ jZ rfl) (gw rfl (bg rfl (ah jZ wS rfl rfl)) (s1 (dx rfl rfl) (SO.nil ((wc [0, 1, 2, 3, 4] [0, 1, 2, 3, 4] (by kernel_rfl) rfl (by kernel_rfl))))))
   ·rintro YP h1
    refine cB h1 rfl (fun h1 => ?_) (fun h1 => ?_)
    ·obtain ⟨I5, aia, h1⟩ := ob h1; obtain ⟨aja, h1⟩ := gd h1; have q := si h1; subst q
     refine sr (s1 (bg (v := .d (aQ (aG.mk (-2 : Int) xW uq xX false (0 : Int)))) rfl (ah xL Zf rfl rfl)) (s1 (far (k := 4) rfl Dm bD rfl) (s1 (bg rfl (ah bD dH rfl rfl)) (sm rfl (s1 (len rfl rfl rfl (dP jO)) (s1 (bi rfl rfl aM) (c0 (yg (aG.mk (-2 : Int) xW uq xX false (0 : Int)) (uq == (GQ.length : Int)) _ aia) wf rfl rfl rfl afB rfl (fun _ => rfl) (fun _ => rfl) (s1 (bi rfl rfl ng) (s1 (bi rfl rfl aT) ?_)))))))))
     refine s1 (far (k := 7) rfl yK bD rfl) (s0 (jP rfl rfl (sB (d' := .d (aQ (aG.mk (-2 : Int) xW uq xX false (bF ((1 : Int) + (bF ((2 : Int) * I5))))))) bD rfl rfl rfl rfl rfl rfl rfl)) (sn (SC.region (sm rfl (s1 (bg (v := .d (aQ (aG.mk (-2 : Int) xW uq xX false (bF ((1 : Int) + (bF ((2 : Int) * I5))))))) rfl (ah xL Zf rfl rfl)) (s1 (sM (k := 5) (ds := List.map aQ [(aG.mk (-2 : Int) xW uq xX false (bF ((1 : Int) + (bF ((2 : Int) * I5)))))]) (off := 0) (l' := [(aG.mk (-2 : Int) xW uq xX false (bF ((1 : Int) + (bF ((2 : Int) * I5)))))].length) rfl uS XZ rfl rfl (by rfl) rfl rfl rfl) (s1 (app rfl rfl rfl rfl akn (aF (f := aQ) (xs := [(aG.mk (-1 : Int) vZ (0 : Int) false false (2000 : Int))]) (k := 6) rfl uS XZ rfl (eY (xs := [(aG.mk (-2 : Int) xW uq xX false (bF ((1 : Int) + (bF ((2 : Int) * I5)))))]) rfl) aja rfl)) (sa rfl (SO.nil ?_)))))))))
     exact (wc [0, 1, 6] [0, 1, 6] (by kernel_rfl) rfl (by kernel_rfl))
    ·have q := si h1; subst q
     exact SC.skip ((wc [0, 1, 2] [0, 1, 2] (by kernel_rfl) rfl (by kernel_rfl)))
  ·rintro YQ h0
   obtain ⟨MX, ah9, h0⟩ := ob h0
   refine sr (s1 (bg (v := .d (bY p1)) rfl (ah Iw KJ rfl rfl)) (c0 (wh p1 _ ah9) wf rfl rfl rfl afH rfl (fun _ => rfl) (fun _ => rfl) (sa rfl (sn (SC.bV h0 (fun y => ⟨mk 122 [(5, .slc 0 8 0 y.length none)], [.row 8 (List.map aQ y) true]⟩) ?_ ?_)))))
   ·intro an8 h1
    obtain ⟨anz, h2, h1⟩ := ob h1
    refine sr (s1 (far (k := 3) rfl nH nL rfl) (s1 (bg rfl (ah nL DX rfl rfl)) (s1 (len rfl rfl rfl (bC zx)) (sm rfl (sn (SC.blk (SC.dL h2 (fun y => ⟨mk 122 [(2, .ref 0 0 0), (3, .ref 1 0 0), (5, .slc 2 8 0 y.1.length none), (10, .d ((eL 1 eI) MX)), (67, .d ((eL 6 bH) p0.bn)), (68, .d (eI (p0.bn.length : Int))), (69, .d (eI y.2))], [.box (.d (aK p0)), .box (.d (bY p1)), .row 8 (List.map aQ y.1) true]⟩) (wq rfl) ?_)))))))
    intro arz
    rintro ⟨Cy, o7⟩ al9 h3 hv3
    refine sr (s1 (bi rfl rfl aJ) (sn (sq (cB h3 rfl (fun h3 => ?_) (fun h3 => ?_)))))
    ·refine sk (SC.bV h3 (fun y => ⟨mk 122 [(2, .ref 0 0 0), (3, .ref 1 0 0), (5, .slc 2 8 0 y.length none), (10, .d ((eL 1 eI) MX)), (67, .d ((eL 6 bH) p0.bn)), (68, .d (eI (p0.bn.length : Int))), (69, .d (eI o7))], [.box (.d (aK p0)), .box (.d (bY p1)), .row 8 (List.map aQ y) true]⟩) ?_ ?_)
     ·intro anc h4
      obtain ⟨zu, ab0, h4⟩ := ob h4
      refine SC.blk (sr (sm rfl (s1 (jo rfl rfl zx uT (aj ab0).1 (aY (aj ab0).2) rfl) (s1 (bg (v := .d (bH zu)) rfl (bN uT MJ rfl)) (s1 (yT (k := 3) Tn rfl) (sa rfl (s0 (jP rfl rfl (sB (d' := .d (bH zu)) uT rfl rfl rfl rfl rfl rfl rfl)) (sn (sq ?_)))))))))
      refine sr (s1 (far (k := 4) rfl NA jZ rfl) (s1 (bg rfl (ah jZ wS rfl rfl)) (s1 (nt rfl) (sn (cB h4 rfl (fun h4 => ?_) (fun h4 => ?_))))))
      ·have q := si h4; subst q
       exact SC.exit ((wc [0, 1, 2] [0, 1, 2] (by kernel_rfl) rfl (by kernel_rfl)))
      ·obtain ⟨um, ahZ, h4⟩ := ob h4; obtain ⟨⟨vY, Ad, xV⟩, ahY, h4⟩ := ob h4
       refine sk (sr (sm rfl (s1 (bg (v := .d (aK p0)) rfl (ah zS DW rfl rfl)) (s1 (bg (v := .d (bH zu)) rfl (ah uT MJ rfl rfl)) (sm rfl (c0 (K3 p0 zu MX _ ahZ) wf rfl rfl rfl aqn rfl (fun _ => rfl) (fun _ => rfl) (s1 (xI rfl (Ye o7 um)) (s1 (yT (k := 4) af0 rfl) (s0 (jP rfl rfl (sB (d' := .d (aQ (aG.mk o7 (aW.mk ([] : List UInt8) ([] : List UInt8) false) (0 : Int) false um (0 : Int)))) xL rfl rfl rfl rfl rfl rfl rfl)) ?_)))))))))
       refine sn (sr (s1 (far (k := 1) rfl lI iG rfl) (s1 (bg rfl (ah iG rC rfl rfl)) (s1 (far (k := 0) rfl yL zy rfl) (s1 (bg rfl (ah zy MK rfl rfl)) (cq [] [5] (Al zu.Parts p1.Pred _ ahY) wf rfl rfl rfl ajT rfl rfl rfl rfl rfl rfl rfl rfl (sm rfl (s1 (ext rfl rfl) (s1 (ext rfl rfl) ?_)))))))))
       refine s1 (ext rfl rfl) (s1 (far (k := 1) rfl Rm nE rfl) (s0 (jP rfl rfl (sB (d' := .d (aQ (aG.mk o7 xV (0 : Int) false um (0 : Int)))) nE rfl rfl rfl rfl rfl rfl rfl)) (s1 (far (k := 4) rfl Dm bD rfl) (s0 (jP rfl rfl (sB (d' := .d (aQ (aG.mk o7 xV vY false um (0 : Int)))) bD rfl rfl rfl rfl rfl rfl rfl)) (s1 (far (k := 5) rfl JJ jZ rfl) (s0 (jP rfl rfl (sB (d' := .d (aQ (aG.mk o7 xV vY Ad um (0 : Int)))) jZ rfl rfl rfl rfl rfl rfl rfl)) (sn (SC.bV h4 (fun y => ⟨mk 122 [(2, .ref 0 0 0), (3, .ref 1 0 0), (5, .slc 2 8 0 Cy.length none), (10, .d ((eL 1 eI) MX)), (13, .ref 3 0 0), (14, .d (eI y)), (67, .d ((eL 6 bH) p0.bn)), (68, .d (eI (p0.bn.length : Int))), (69, .d (eI o7))], [.box (.d (aK p0)), .box (.d (bY p1)), .row 8 (List.map aQ Cy) true, .box (.d (aQ (aG.mk o7 xV vY Ad um (0 : Int))))]⟩) ?_ ?_))))))))
       ·intro amY h5
        refine SC.region (s1 (bg (v := .d (aQ (aG.mk o7 xV vY Ad um (0 : Int)))) rfl (ah xL Zf rfl rfl)) (s1 (far (k := 3) rfl NC jZ rfl) (s1 (bg rfl (ah jZ wS rfl rfl)) (sm rfl (sp h5 (fun h5 => ?_) (fun h5 => ?_))))))
        ·obtain ⟨Zn, ahX, h5⟩ := ob h5; have q := si h5; subst q
         refine gw rfl (far (k := 4) rfl Dm bD rfl) (gw rfl (bg rfl (ah bD dH rfl rfl)) (gw rfl (far (k := 1) rfl lI iG rfl) (gw rfl (bg rfl (ah iG rC rfl rfl)) (gw rfl (len rfl rfl rfl (bC jO)) (gw rfl (bi rfl rfl aM) (s1 (pkt rfl rfl) (c0 (yg (aG.mk o7 xV vY Ad um (0 : Int)) (vY == (zu.Parts.length : Int)) _ ahX) wf rfl rfl rfl afB rfl (fun _ => rfl) (fun _ => rfl) (sa rfl (SO.nil ?_)))))))))
         exact (wc [0, 1, 2, 4] [0, 1, 2, 4] (by kernel_rfl) rfl (by kernel_rfl))
        ·obtain ⟨Zm, ahW, h5⟩ := ob h5; have q := si h5; subst q
         refine kw rfl (kw rfl (kw rfl (kw rfl (kw rfl (kw rfl (s1 (dx rfl rfl) (c0 (yg (aG.mk o7 xV vY Ad um (0 : Int)) false _ ahW) wf rfl rfl rfl afB rfl (fun _ => rfl) (fun _ => rfl) (sa rfl (SO.nil ?_)))))))))
         exact (wc [0, 1, 2, 4] [0, 1, 2, 4] (by kernel_rfl) rfl (by kernel_rfl))
       ·rintro Ow h4
        refine SC.bV h4 (fun y => ⟨mk 122 [(2, .ref 0 0 0), (3, .ref 1 0 0), (5, .slc 2 8 0 Cy.length none), (10, .d ((eL 1 eI) MX)), (13, .ref 3 0 0), (67, .d ((eL 6 bH) p0.bn)), (68, .d (eI (p0.bn.length : Int))), (69, .d (eI o7))], [.box (.d (aK p0)), .box (.d (bY p1)), .row 8 (List.map aQ Cy) true, .box (.d (aQ y))]⟩) ?_ ?_
        ·intro adz h5
         refine sr (s1 (far (k := 6) rfl Rl jZ rfl) (s1 (bg rfl (ah jZ wS rfl rfl)) (sn (cB h5 rfl (fun h5 => ?_) (fun h5 => ?_)))))
         ·have q := si h5; subst q
          exact SC.region (sm rfl (s1 (bi rfl rfl aT) (s1 (far (k := 7) rfl yK bD rfl) (s0 (jP rfl rfl (sB (d' := .d (aQ (aG.mk o7 xV vY Ad um (bF ((1 : Int) + Ow))))) bD rfl rfl rfl rfl rfl rfl rfl)) (SO.nil ((wq rfl)))))))
         ·have q := si h5; subst q
          exact SC.region (sm rfl (s1 (bi rfl rfl ng) (s1 (bi rfl rfl aT) (s1 (far (k := 7) rfl yK bD rfl) (s0 (jP rfl rfl (sB (d' := .d (aQ (aG.mk o7 xV vY Ad um (bF ((2 : Int) + (bF ((4 : Int) * Ow))))))) bD rfl rfl rfl rfl rfl rfl rfl)) (SO.nil ((wq rfl))))))))
        ·rintro Fe h4
         obtain ⟨ai3, h4⟩ := gd h4; have q := si h4; subst q
         exact SC.region (sm rfl (s1 (bg (v := .d (aQ Fe)) rfl (ah xL Zf rfl rfl)) (s1 (sM (k := 4) (ds := List.map aQ [Fe]) (off := 0) (l' := [Fe].length) rfl uS XZ rfl rfl (by rfl) rfl rfl rfl) (s1 (app rfl rfl rfl rfl akn (aF (f := aQ) (xs := Cy) (k := 5) rfl uS XZ rfl (eY (xs := [Fe]) rfl) ai3 rfl)) (sa rfl (SO.nil ((wc [0, 1, 5] [0, 1, 5] (by kernel_rfl) rfl (by kernel_rfl)))))))))
     ·rintro YH h3
      have q := si h3; subst q
      exact SC.region (s1 (bi rfl rfl aT) (sm rfl (SO.nil (lf (wq rfl)))))
    ·have q := si h3; subst q; have q : _ = _ := hv3; subst q; have q := si h1; subst q
     exact SC.exit ((wc [2] [2] (by kernel_rfl) rfl (by kernel_rfl)))
   ·rintro Tq h0
    have q := si h0; subst q
    exact sr (sm rfl (sa rfl (sn (SC.ret (bQ (Wk.trans (Wk.mM (i := 4) (x := .slc 0 8 0 Tq.length none) rfl rfl (fF rfl rfl rfl)) (wc (e' := [(4, .d ((eL 8 aQ) Tq))]) [] [] (by kernel_rfl) rfl (by kernel_rfl))) (aZ rfl aX) rfl)))))
noncomputable def jS (p0 : aA) (p1 : Int) : Option Bool :=
 bif (p0.Kind == (2 : Int)) then
 Option.bind (α := Bool)
 (bif (decide (p0.Col ≥ (0 : Int))) then
 bif (decide (p0.Col < p1)) then
 bif (decide (p0.Op ≥ (1 : Int))) then
 some (decide (p0.Op ≤ (6 : Int)))
 else
 some false
 else
 some false
 else
 some false)
 fun y14 =>
 some y14
 else
 bif (p0.Kind == (3 : Int)) then
 Option.bind (α := Bool)
 (bif (decide (p0.Col ≥ (0 : Int))) then
 bif (decide (p0.Col < p1)) then
 bif (p0.Op == (0 : Int)) then
 some (dw p0.Val (ak.mk (0 : Int) (0 : UInt64) ([] : List UInt8)))
 else
 some false
 else
 some false
 else
 some false)
 fun y16 =>
 some y16
 else
 Option.bind (α := Bool)
 (bif (p0.Kind == (1 : Int)) then
 some (p0.Kind == (1 : Int))
 else
 bif (p0.Kind == (4 : Int)) then
 some (p0.Kind == (4 : Int))
 else
 bif (p0.Kind == (5 : Int)) then
 some (p0.Kind == (5 : Int))
 else
 some (p0.Kind == (6 : Int)))
 fun y18 =>
 bif y18 then
 some (oD p0 (aA.mk p0.Kind (0 : Int) (0 : Int) (ak.mk (0 : Int) (0 : UInt64) ([] : List UInt8))))
 else
 some false
theorem Ec (p0 : aA) (p1 : Int) (r : Bool) (h0 : jS p0 p1 = some r) : aO Tryz.prog 65 [.d (aU p0), .d (eI p1)] [] (.d (eB r)) [] := by
 unfold jS at h0
 refine fn0 [0, 1] Tryz.func65 rfl rfl rfl rfl rfl ?_
 refine sr (s1 (tH (k := 0) rfl rfl rfl) (sa rfl (sn (sq (sr (s1 (far (k := 0) rfl qH bD rfl) (s1 (bg rfl (ah bD dH rfl rfl)) (sn (SC.blk ?_)))))))))
 refine sr (s1 (bi rfl rfl aM) (sa rfl (sn (cB h0 rfl (fun h0 => ?_) (fun h0 => ?_)))))
 ·refine SC.bV h0 (fun y => ⟨mk 60 [(4, .d (eB y))], []⟩) ?_ ?_
  ·intro aq3 h1
   refine SC.region (s1 (far (k := 1) rfl yI bD rfl) (s1 (bg rfl (ah bD dH rfl rfl)) (s1 (bi rfl rfl dW) (sm rfl (sp h1 (fun h1 => ?_) (fun h1 => ?_))))))
   ·refine gw rfl (far (k := 1) rfl yI bD rfl) (gw rfl (bg rfl (ah bD dH rfl rfl)) (gw rfl (mv rfl) (gw rfl (bi rfl rfl aJ) (s1 (pkt rfl rfl) (sm rfl (sp h1 (fun h1 => ?_) (fun h1 => ?_)))))))
    ·refine gw rfl (far (k := 2) rfl qG bD rfl) (gw rfl (bg rfl (ah bD dH rfl rfl)) (gw rfl (bi rfl rfl dW) (s1 (pkt rfl rfl) (sm rfl (sp h1 (fun h1 => ?_) (fun h1 => ?_))))))
     ·have q := si h1; subst q
      exact gw rfl (far (k := 2) rfl qG bD rfl) (gw rfl (bg rfl (ah bD dH rfl rfl)) (gw rfl (bi rfl rfl xq) (s1 (pkt rfl rfl) (sa rfl (SO.nil ((wc [] [] (by kernel_rfl) rfl (by kernel_rfl))))))))
     ·have q := si h1; subst q
      exact kw rfl (kw rfl (kw rfl (s1 (dx rfl rfl) (sa rfl (SO.nil ((wc [] [] (by kernel_rfl) rfl (by kernel_rfl))))))))
    ·have q := si h1; subst q
     refine kw rfl (kw rfl (kw rfl (s1 (dx rfl rfl) (sm rfl (kw rfl (kw rfl (kw rfl (s1 (dx rfl rfl) (sa rfl ?_)))))))))
     exact SO.nil ((wc [] [] (by kernel_rfl) rfl (by kernel_rfl)))
   ·have q := si h1; subst q
    refine kw rfl (kw rfl (kw rfl (kw rfl (s1 (dx rfl rfl) (sm rfl (kw rfl (kw rfl (kw rfl (s1 (dx rfl rfl) ?_)))))))))
    exact sm rfl (kw rfl (kw rfl (kw rfl (s1 (dx rfl rfl) (sa rfl (SO.nil ((wc [] [] (by kernel_rfl) rfl (by kernel_rfl)))))))))
  ·rintro y14 h0
   have q := si h0; subst q
   exact SC.ret (bQ (Wk.refl _) (aZ rfl aX) rfl)
 ·refine sr (s1 (bi rfl rfl aM) (sa rfl (sn (cB h0 rfl (fun h0 => ?_) (fun h0 => ?_)))))
  ·refine SC.bV h0 (fun y => ⟨mk 60 [(4, .d (eB y))], []⟩) ?_ ?_
   ·intro ag4 h1
    refine SC.region (s1 (far (k := 1) rfl yI bD rfl) (s1 (bg rfl (ah bD dH rfl rfl)) (s1 (bi rfl rfl dW) (sm rfl (sp h1 (fun h1 => ?_) (fun h1 => ?_))))))
    ·refine gw rfl (far (k := 1) rfl yI bD rfl) (gw rfl (bg rfl (ah bD dH rfl rfl)) (gw rfl (mv rfl) (gw rfl (bi rfl rfl aJ) (s1 (pkt rfl rfl) (sm rfl (sp h1 (fun h1 => ?_) (fun h1 => ?_)))))))
     ·refine gw rfl (far (k := 2) rfl qG bD rfl) (gw rfl (bg rfl (ah bD dH rfl rfl)) (gw rfl (bi rfl rfl aM) (s1 (pkt rfl rfl) (sm rfl (sp h1 (fun h1 => ?_) (fun h1 => ?_))))))
      ·have q := si h1; subst q
       exact gw rfl (far (k := 3) rfl Dl iC rfl) (gw rfl (bg (v := .d (bA p0.Val)) rfl (ah iC o8 rfl rfl)) (gw rfl (xI rfl (Cx )) (gw rfl (bi (v := .d (eB (dw p0.Val (ak.mk (0 : Int) (0 : UInt64) ([] : List UInt8))))) rfl rfl (fun X Y => vL X Y p0.Val (ak.mk (0 : Int) (0 : UInt64) ([] : List UInt8)))) (s1 (pkt rfl rfl) (sa rfl (SO.nil ((wc [] [] (by kernel_rfl) rfl (by kernel_rfl)))))))))
      ·have q := si h1; subst q
       exact kw rfl (kw rfl (kw rfl (kw rfl (s1 (dx rfl rfl) (sa rfl (SO.nil ((wc [] [] (by kernel_rfl) rfl (by kernel_rfl)))))))))
     ·have q := si h1; subst q
      refine kw rfl (kw rfl (kw rfl (s1 (dx rfl rfl) (sm rfl (kw rfl (kw rfl (kw rfl (kw rfl (s1 (dx rfl rfl) ?_)))))))))
      exact sa rfl (SO.nil ((wc [] [] (by kernel_rfl) rfl (by kernel_rfl))))
    ·have q := si h1; subst q
     refine kw rfl (kw rfl (kw rfl (kw rfl (s1 (dx rfl rfl) (sm rfl (kw rfl (kw rfl (kw rfl (s1 (dx rfl rfl) ?_)))))))))
     exact sm rfl (kw rfl (kw rfl (kw rfl (kw rfl (s1 (dx rfl rfl) (sa rfl (SO.nil ((wc [] [] (by kernel_rfl) rfl (by kernel_rfl))))))))))
   ·rintro y16 h0
    have q := si h0; subst q
    exact SC.ret (bQ (Wk.refl _) (aZ rfl aX) rfl)
  ·refine SC.bV h0 (fun y => ⟨mk 60 [(2, .ref 0 0 0), (50, .d (eB y))], [.box (.d (aU p0))]⟩) ?_ ?_
   ·intro aq2 h1
    refine sr (s1 (bi rfl rfl aM) (sa rfl (sn (cB h1 rfl (fun h1 => ?_) (fun h1 => ?_)))))
    ·have q := si h1; subst q
     exact SC.skip ((wq rfl))
    ·refine sr (s1 (bi rfl rfl aM) (sa rfl (sn (cB h1 rfl (fun h1 => ?_) (fun h1 => ?_)))))
     ·have q := si h1; subst q
      exact SC.skip ((wq rfl))
     ·refine sr (s1 (bi rfl rfl aM) (sa rfl (sn (cB h1 rfl (fun h1 => ?_) (fun h1 => ?_)))))
      ·have q := si h1; subst q
       exact SC.skip ((wq rfl))
      ·have q := si h1; subst q
       exact SC.region (s1 (bi rfl rfl aM) (sa rfl (SO.nil ((wq rfl)))))
   ·rintro y18 h0
    refine cB h0 rfl (fun h0 => ?_) (fun h0 => ?_)
    ·have q := si h0; subst q
     exact sr (s1 (bg (v := .d (aU p0)) rfl (ah q9 GZ rfl rfl)) (s1 (far (k := 0) rfl qH bD rfl) (s1 (bg rfl (ah bD dH rfl rfl)) (s1 (xI rfl (afJ p0.Kind)) (s1 (bi (v := .d (eB (oD p0 (aA.mk p0.Kind (0 : Int) (0 : Int) (ak.mk (0 : Int) (0 : UInt64) ([] : List UInt8)))))) rfl rfl (fun X Y => EO X Y p0 (aA.mk p0.Kind (0 : Int) (0 : Int) (ak.mk (0 : Int) (0 : UInt64) ([] : List UInt8))))) (sa rfl (sn (SC.ret (bQ (wc (e' := [(4, .d (eB (oD p0 (aA.mk p0.Kind (0 : Int) (0 : Int) (ak.mk (0 : Int) (0 : UInt64) ([] : List UInt8))))))]) [] [] (by kernel_rfl) rfl (by kernel_rfl)) (aZ rfl aX) rfl)))))))))
    ·refine SC.skip ?_
     change SC _ _ _ _ _
     have q := si h0; subst q
     exact sr (sa rfl (sn (SC.ret (bQ (wc (e' := [(4, .d (eB false))]) [] [] (by kernel_rfl) rfl (by kernel_rfl)) (aZ rfl aX) rfl))))
noncomputable def oq (p0 : List aB) (p1 : List aA) : Option Int :=
 bif (decide ((p1.length : Int) > (200 : Int))) then
 some (7 : Int)
 else
 eu (Y := (List Int)) (E := Int)
 (Option.bind (α := ((List Int)) ⊕ Int)
 (loop (Y := (List Int) × Int) (W := ((List Int)) ⊕ Int) (fun (eD, wN) =>
 bif (decide (wN < (p1.length : Int))) then
 eu (Y := (List Int)) (E := Int)
 (Option.bind (bG p1 wN) fun kT =>
 Option.bind (fT kT) fun je =>
 Option.bind (α := Bool)
 (Option.bind (jS kT (p0.length : Int)) fun SG =>
 bif (!SG) then
 some true
 else
 some (decide ((bF ((eD.length : Int) - je)) < (0 : Int))))
 fun R7 =>
 bif R7 then
 some (Sum.inr (1 : Int))
 else
 Option.bind (α := Bool)
 (bif (kT.Kind == (2 : Int)) then
 Option.bind (j3 kT.Val) fun Ck =>
 bif (!Ck) then
 some true
 else
 bif (kT.Val.Kind == (0 : Int)) then
 some true
 else
 Option.bind (bG p0 kT.Col) fun Ca =>
 some (kT.Val.Kind != Ca.Kind)
 else
 some false)
 fun R6 =>
 bif R6 then
 some (Sum.inr (8 : Int))
 else
 Option.bind (α := Int)
 (bif decide (0 ≤ (bF ((eD.length : Int) - je)) ∧ (bF ((eD.length : Int) - je)) ≤ (eD.length : Int)) then
 Option.bind (α := Int)
 (loop (Y := Int × Int) (W := Int) (fun (Gj, Gi) =>
 bif (decide (Gi < ((eD.length - (bF ((eD.length : Int) - je)).toNat : Nat) : Int))) then
 Option.bind (sD eD (0 + (bF ((eD.length : Int) - je)).toNat) (eD.length - (bF ((eD.length : Int) - je)).toNat) Gi) fun Lu =>
 some (Sum.inl ((max Gj Lu), (bF (Gi + (1 : Int)))))
 else
 some (Sum.inr Gj)) ((0 : Int), (0 : Int)))
 (fun e => some e)
 else none)
 fun DK =>
 bif decide (0 ≤ (bF ((eD.length : Int) - je)) ∧ (bF ((eD.length : Int) - je)) ≤ (eD.length : Int)) then
 bif decide (0 + ((bF ((eD.length : Int) - je)).toNat) ≤ eD.length) then
 bif decide ((((bF ((eD.length : Int) - je)).toNat) + [(bF (DK + (1 : Int)))].length) * 8 ≤ room) then
 some (Sum.inl (List.take ((bF ((eD.length : Int) - je)).toNat) (List.drop 0 eD) ++ [(bF (DK + (1 : Int)))]))
 else none
 else none
 else none)
 (fun R8 =>
 some (Sum.inl (R8, (bF (wN + (1 : Int))))))
 (fun e => some (Sum.inr (Sum.inr e)))
 else
 some (Sum.inr (Sum.inl eD))) (([] : List Int), (0 : Int)))
 (Sum.elim (fun e => some (Sum.inl e)) (fun e => some (Sum.inr e))))
 (fun y1228 =>
 bif ((y1228.length : Int) != (1 : Int)) then
 some (1 : Int)
 else
 Option.bind (bG y1228 (0 : Int)) fun Sl =>
 bif (decide (Sl > (24 : Int))) then
 some (7 : Int)
 else
 some (0 : Int))
 (fun e => some e)
theorem KY (p0 : List aB) (p1 : List aA) (r : Int) (h0 : oq p0 p1 = some r) : aO Tryz.prog 33 [.d ((eL 7 bI) p0), .d ((eL 6 aU) p1)] [] (.d (eI r)) [] := by
 unfold oq at h0
 refine fn0 [0, 1] Tryz.func33 rfl rfl rfl rfl rfl ?_
 refine sr (sa rfl (sn (sq (sr (sm rfl (s1 (len rfl rfl rfl (bC vR)) (s1 (bi rfl rfl bM) (sn (cB h0 rfl (fun h0 => ?_) (fun h0 => ?_))))))))))
 ·have q := si h0; subst q
  exact sr (sa rfl (sn (SC.ret (bQ (Wk.refl _) (aZ rfl aX) rfl))))
 ·refine sk (sr (s1 (lX (v := .d .dn) rfl) (sn (SC.seqB h0 (fun y => ⟨mk 91 [(5, .slc 0 1 0 y.length none)], [.row 1 (List.map eI y) true]⟩) ?_ ?_))))
  ·intro alV h1 h0
   obtain ⟨alI, h2, h1⟩ := ob h1
   refine sr (sm rfl (s1 (len rfl rfl rfl (bC vR)) (sm rfl (sn (SC.blk (SC.dL h2 (fun y => ⟨mk 91 [(0, .d ((eL 7 bI) p0)), (5, .slc 0 1 0 y.1.length none), (15, .d ((eL 6 aU) p1)), (16, .d (eI (p1.length : Int))), (17, .d (eI y.2))], [.row 1 (List.map eI y.1) true]⟩) (Wk.trans (Wk.mo (σ' := [.row 1 (List.map eI ([] : List Int)) true]) (.row 1 [] true) (fun _ hh => by cases hh) rfl) (Wk.trans (Wk.env (e' := [(0, .d ((eL 7 bI) p0)), (5, .slc 0 1 0 (([] : List Int).length) none), (15, .d ((eL 6 aU) p1)), (16, .d (eI (p1.length : Int))), (17, .d (eI (0 : Int)))]) (EW.cons (AW.refl _) (EW.cons (AW.mg _ _ _) (EW.cons (AW.refl _) (EW.cons (AW.refl _) (EW.cons (AW.refl _) EW.nil)))))) (wq rfl))) ?_))))))
   intro ari
   rintro ⟨eD, wN⟩ akM h3 hv3
   refine sr (s1 (bi rfl rfl aJ) (sn (sq (cB h3 rfl (fun h3 => ?_) (fun h3 => ?_)))))
   ·refine sk (SC.seqB h3 (fun y => ⟨mk 91 [(0, .d ((eL 7 bI) p0)), (5, .slc 0 1 0 y.length none), (15, .d ((eL 6 aU) p1)), (16, .d (eI (p1.length : Int))), (17, .d (eI wN))], [.row 1 (List.map eI y) true]⟩) ?_ ?_)
    ·intro alx h4 h3
     obtain ⟨kT, Xi, h4⟩ := ob h4; obtain ⟨je, aeP, h4⟩ := ob h4
     refine SC.blk (sr (s1 (jo rfl rfl vR q9 (aj Xi).1 (aY (aj Xi).2) rfl) (s1 (bg (v := .d (aU kT)) rfl (bN q9 GZ rfl)) (s1 (yT (k := 1) YE rfl) (s0 (jP rfl rfl (sB (d' := .d (aU kT)) q9 rfl rfl rfl rfl rfl rfl rfl)) (sn (sr (sm rfl (s1 (len rfl rfl rfl (dP bZ)) ?_)))))))))
     refine s1 (bg (v := .d (aU kT)) rfl (ah q9 GZ rfl rfl)) (c0 (oo kT _ aeP) wf rfl rfl rfl afy rfl (fun _ => rfl) (fun _ => rfl) (s1 (bi rfl rfl dK) (sa rfl (sn (sq (SC.bV h4 (fun y => ⟨mk 91 [(0, .d ((eL 7 bI) p0)), (5, .slc 0 1 0 eD.length none), (7, .ref 1 0 0), (8, .d (eI (bF ((eD.length : Int) - je)))), (15, .d ((eL 6 aU) p1)), (16, .d (eI (p1.length : Int))), (17, .d (eI wN)), (34, .d (eB y))], [.row 1 (List.map eI eD) true, .box (.d (aU kT))]⟩) ?_ ?_))))))
     ·intro alj h5
      obtain ⟨SG, aeO, h5⟩ := ob h5
      refine SC.region (s1 (bg (v := .d (aU kT)) rfl (ah q9 GZ rfl rfl)) (sm rfl (s1 (len rfl rfl rfl (bC qp)) (c0 (Ec kT (p0.length : Int) _ aeO) wf rfl rfl rfl aqg rfl (fun _ => rfl) (fun _ => rfl) (s1 (nt rfl) (sm rfl (sp h5 (fun h5 => ?_) (fun h5 => ?_))))))))
      ·have q := si h5; subst q
       exact kw rfl (kw rfl (s1 (pkt rfl rfl) (SO.nil ((wq rfl)))))
      ·have q := si h5; subst q
       exact gw rfl (mv rfl) (gw rfl (bi rfl rfl aJ) (s1 (dx rfl rfl) (SO.nil ((wq rfl)))))
     ·rintro R7 h4
      refine cB h4 rfl (fun h4 => ?_) (fun h4 => ?_)
      ·have q := si h4; subst q; have q := si h3; subst q; have q : _ = _ := hv3; subst q; have q := si h1; subst q; have q := si h0; subst q
       exact sr (sa rfl (sn (SC.ret (bQ (wc (e' := [(4, .d (eI (1 : Int)))]) [] [] (by kernel_rfl) rfl (by kernel_rfl)) (aZ rfl aX) rfl))))
      ·refine sk (sq (SC.bV h4 (fun y => ⟨mk 91 [(0, .d ((eL 7 bI) p0)), (5, .slc 0 1 0 eD.length none), (8, .d (eI (bF ((eD.length : Int) - je)))), (15, .d ((eL 6 aU) p1)), (16, .d (eI (p1.length : Int))), (17, .d (eI wN)), (61, .d (eB y))], [.row 1 (List.map eI eD) true]⟩) ?_ ?_))
       ·intro ali h5
        refine SC.draws (by kernel_rfl) (t1 ([], false) (far (k := 0) rfl qH bD rfl) rfl (t1 ([1], false) (bg rfl (ah bD dH rfl rfl)) rfl (t1 ([], false) (bi rfl rfl aM) rfl (t1 ([], false) (mv rfl) rfl (tp h5 (fun h5 => ?_) (fun h5 => ?_))))))
        ·obtain ⟨Ck, aeN, h5⟩ := ob h5
         refine u1 ([], false) (ww rfl) (far (k := 3) rfl Dl iC rfl) rfl (u1 ([1], false) (ww rfl) (bg (v := .d (bA kT.Val)) rfl (ah iC o8 rfl rfl)) rfl (Fa (zM kT.Val _ aeN) (ww rfl) rfl rfl rfl ajQ rfl (fun _ => rfl) (fun _ => rfl) (u1 ([], false) (ww rfl) (nt rfl) rfl (u1 ([], false) (ww rfl) (mv rfl) rfl (tp h5 (fun h5 => ?_) (fun h5 => ?_))))))
         ·have q := si h5; subst q
          refine jw rfl (jw rfl (jw rfl (jw rfl (u1 ([], false) (ww rfl) (pkt rfl rfl) rfl (u1 ([], false) (ww rfl) (mv rfl) rfl (jw rfl (jw rfl (jw rfl (jw rfl ?_)))))))))
          refine jw rfl (jw rfl (jw rfl (jw rfl (jw rfl (jw rfl (u1 ([], false) (ww rfl) (pkt rfl rfl) rfl (t1 ([], false) (pkt rfl rfl) rfl (ST.nil (And.intro (by decide +kernel) ?_)))))))))
          exact (wc [0] [0] (by kernel_rfl) rfl (by kernel_rfl))
         ·refine u1 ([], false) (ww rfl) (far (k := 3) rfl Dl iC rfl) rfl (u1 ([], false) (ww rfl) (far (k := 3) rfl kN bD rfl) rfl (u1 ([1], false) (ww rfl) (bg rfl (ah bD dH rfl rfl)) rfl (u1 ([], false) (ww rfl) (bi rfl rfl aM) rfl (u1 ([], false) (ww rfl) (dx rfl rfl) rfl (u1 ([], false) (ww rfl) (mv rfl) rfl (tp h5 (fun h5 => ?_) (fun h5 => ?_)))))))
          ·have q := si h5; subst q
           refine jw rfl (jw rfl (jw rfl (jw rfl (jw rfl (jw rfl (jw rfl (jw rfl (jw rfl (jw rfl ?_)))))))))
           refine u1 ([], false) (ww rfl) (pkt rfl rfl) rfl (t1 ([], false) (pkt rfl rfl) rfl (ST.nil (And.intro (by decide +kernel) ?_)))
           exact (wc [0] [0] (by kernel_rfl) rfl (by kernel_rfl))
          ·obtain ⟨Ca, Xh, h5⟩ := ob h5; have q := si h5; subst q
           refine u1 ([], false) (ww rfl) (far (k := 3) rfl Dl iC rfl) rfl (u1 ([], false) (ww rfl) (far (k := 3) rfl kN bD rfl) rfl (u1 ([1], false) (ww rfl) (bg rfl (ah bD dH rfl rfl)) rfl (u1 ([], false) (ww rfl) (mv rfl) rfl (u1 ([], false) (ww rfl) (far (k := 1) rfl yI bD rfl) rfl (u1 ([1], false) (ww rfl) (bg rfl (ah bD dH rfl rfl)) rfl (u1 ([], false) (ww rfl) (jo rfl rfl qp BJ (aj Xh).1 (aY (aj Xh).2) rfl) rfl (u1 ([], false) (ww rfl) (fap rfl wD bD rfl) rfl (u1 ([], false) (ww rfl) (bg rfl (bN bD dH rfl)) rfl (u1 ([], false) (ww rfl) (bi rfl rfl bS) rfl ?_)))))))))
           refine u1 ([], false) (ww rfl) (dx rfl rfl) rfl (t1 ([], false) (pkt rfl rfl) rfl (ST.nil (And.intro (by decide +kernel) ?_)))
           exact (wc [0] [0] (by kernel_rfl) rfl (by kernel_rfl))
        ·have q := si h5; subst q
         refine jw rfl (jw rfl (jw rfl (jw rfl (jw rfl (jw rfl (jw rfl (jw rfl (jw rfl (jw rfl ?_)))))))))
         refine jw rfl (jw rfl (jw rfl (jw rfl (jw rfl (jw rfl (jw rfl (jw rfl (jw rfl (jw rfl ?_)))))))))
         refine jw rfl (jw rfl (t1 ([], false) (dx rfl rfl) rfl (ST.nil (And.intro (by decide +kernel) ?_))))
         exact (wc [0] [0] (by kernel_rfl) rfl (by kernel_rfl))
       ·rintro R6 h4
        refine cB h4 rfl (fun h4 => ?_) (fun h4 => ?_)
        ·have q := si h4; subst q; have q := si h3; subst q; have q : _ = _ := hv3; subst q; have q := si h1; subst q; have q := si h0; subst q
         exact sr (sa rfl (sn (SC.ret (bQ (wc (e' := [(4, .d (eI (8 : Int)))]) [] [] (by kernel_rfl) rfl (by kernel_rfl)) (aZ rfl aX) rfl))))
        ·refine sk (sr (sa rfl (sn (SC.bV h4 (fun y => ⟨mk 91 [(0, .d ((eL 7 bI) p0)), (5, .slc 0 1 0 eD.length none), (8, .d (eI (bF ((eD.length : Int) - je)))), (9, .d (eI y)), (15, .d ((eL 6 aU) p1)), (16, .d (eI (p1.length : Int))), (17, .d (eI wN))], [.row 1 (List.map eI eD) true]⟩) ?_ ?_))))
         ·intro alh h5
          obtain ⟨afg, h5⟩ := gd h5; obtain ⟨ak0, h6, h5⟩ := ob h5
          refine sr (sm rfl (sm rfl (s1 (VU rfl rfl rfl rfl (TN bZ bD afg)) (s1 (len rfl rfl rfl (dP bZ)) (sm rfl (sn (SC.blk (SC.dL h6 (fun y => ⟨mk 91 [(0, .d ((eL 7 bI) p0)), (5, .slc 0 1 0 eD.length none), (8, .d (eI (bF ((eD.length : Int) - je)))), (9, .d (eI y.1)), (15, .d ((eL 6 aU) p1)), (16, .d (eI (p1.length : Int))), (17, .d (eI wN)), (64, .slc 0 1 (0 + (bF ((eD.length : Int) - je)).toNat) (eD.length - (bF ((eD.length : Int) - je)).toNat) none), (65, .d (eI ((eD.length - (bF ((eD.length : Int) - je)).toNat : Nat) : Int))), (66, .d (eI y.2))], [.row 1 (List.map eI eD) true]⟩) (wq rfl) ?_))))))))
          intro arj
          rintro ⟨Gj, Gi⟩ akB h7 hv7
          refine sr (s1 (bi rfl rfl aJ) (sn (sq (cB h7 rfl (fun h7 => ?_) (fun h7 => ?_)))))
          ·obtain ⟨Lu, Xg, h7⟩ := ob h7
           refine sk (sq (SC.blk (sr (s1 (ias rfl rfl bZ bD (eX Xg).1) (s1 (bg rfl (jr bD dH rfl (aY (eX Xg).2) rfl)) (sa rfl (sn (SC.region (sm rfl ?_)))))))))
           refine sm rfl (s1 (mxo (v := .d (eI (max Gj Lu))) rfl rfl rfl (JW QJ Gj Lu)) (sa rfl (SO.nil ?_)))
           change SC _ _ _ _ _
           have q := si h7; subst q
           exact SC.region (s1 (bi rfl rfl aT) (sm rfl (SO.nil (lf (wq rfl)))))
          ·have q := si h7; subst q; have q : _ = _ := hv7; subst q; have q := si h5; subst q
           exact SC.exit ((wq rfl))
         ·rintro DK h4
          obtain ⟨aff, h4⟩ := gd h4; obtain ⟨afd, h4⟩ := gd h4; obtain ⟨afe, h4⟩ := gd h4; have q := si h4; subst q
          refine SC.region (sm rfl (sm rfl (s1 (VU rfl rfl rfl rfl (sZ bZ bD aff)) (sm rfl (s1 (bi rfl rfl aT) (s1 (sM (k := 1) (ds := List.map eI [(bF (DK + (1 : Int)))]) (off := 0) (l' := [(bF (DK + (1 : Int)))].length) rfl bZ xH rfl rfl (by rfl) rfl rfl rfl) (s1 (app rfl rfl rfl rfl yR (aS (f := eI) (xs := eD) (k := 2) bZ xH rfl afd (eY (xs := [(bF (DK + (1 : Int)))]) rfl) afe rfl)) (sa rfl (SO.nil ?_)))))))))
          exact lf (wc [2] [2] (by kernel_rfl) rfl (by kernel_rfl))
    ·rintro R8 h3
     have q := si h3; subst q
     exact SC.region (s1 (bi rfl rfl aT) (sm rfl (SO.nil (lf (wq rfl)))))
   ·have q := si h3; subst q; have q : _ = _ := hv3; subst q; have q := si h1; subst q
    exact SC.exit (lf (wq rfl))
  ·rintro y1228 h0
   refine sq (SC.blk (sr (sm rfl (s1 (len rfl rfl rfl (dP bZ)) (s1 (bi rfl rfl bS) (sa rfl (sn (cB h0 rfl (fun h0 => ?_) (fun h0 => ?_)))))))))
   ·have q := si h0; subst q
    exact sr (sa rfl (sn (SC.ret (bQ (wc (e' := [(4, .d (eI (1 : Int)))]) [] [] (by kernel_rfl) rfl (by kernel_rfl)) (aZ rfl aX) rfl))))
   ·obtain ⟨Sl, Xf, h0⟩ := ob h0
    refine sr (sm rfl (s1 (JC rfl rfl bZ bD (iL Xf)) (s1 (bg rfl (jr bD dH rfl (aY (aj Xf).2) rfl)) (s1 (bi rfl rfl bM) (sa rfl (sn (cB h0 rfl (fun h0 => ?_) (fun h0 => ?_))))))))
    ·have q := si h0; subst q
     exact sr (sa rfl (sn (SC.ret (bQ (wc (e' := [(4, .d (eI (7 : Int)))]) [] [] (by kernel_rfl) rfl (by kernel_rfl)) (aZ rfl aX) rfl))))
    ·refine SC.skip ?_
     change SC _ _ _ _ _
     have q := si h0; subst q
     exact sr (sa rfl (sn (SC.ret (bQ (wc (e' := [(4, .d (eI (0 : Int)))]) [] [] (by kernel_rfl) rfl (by kernel_rfl)) (aZ rfl aX) rfl))))
theorem Ao (p0 : bP) (r : (List Int)) (h0 : fD p0 = some r) : aO Tryz.prog 35 [.d (bY p0)] [] (.slc 0 1 0 r.length none) [.row 1 (List.map eI r) true] := by
 unfold fD at h0
 refine fn0 [0] Tryz.func35 rfl rfl rfl rfl rfl ?_
 refine sr (s1 (tH (k := 0) rfl rfl rfl) (s1 (lX (v := .d .dn) rfl) (sn (sr (s1 (lX (v := .d .dn) rfl) (sn (SC.bV h0 (fun y => ⟨mk 20 [(3, .slc 0 1 0 y.length none)], [.row 1 (List.map eI y) true]⟩) ?_ ?_)))))))
 ·intro Sz h1
  obtain ⟨Sy, h2, h1⟩ := ob h1
  refine sr (s1 (far (k := 2) rfl NI iG rfl) (s1 (bg rfl (ah iG rC rfl rfl)) (s1 (len rfl rfl rfl (bC jO)) (sm rfl (sn (SC.blk (SC.dL h2 (fun y => ⟨mk 20 [(3, .slc 0 1 0 y.1.length none), (7, .d ((eL 2 aR) p0.Order)), (8, .d (eI (p0.Order.length : Int))), (9, .d (eI y.2))], [.row 1 (List.map eI y.1) true]⟩) (Wk.trans (Wk.mo (σ' := [.box (.d (bY p0)), .row 1 (List.map eI ([] : List Int)) true]) (.row 1 [] true) (fun _ hh => by cases hh) rfl) (Wk.trans (Wk.env (e' := [(3, .slc 1 1 0 (([] : List Int).length) none), (7, .d ((eL 2 aR) p0.Order)), (8, .d (eI (p0.Order.length : Int))), (9, .d (eI (0 : Int)))]) (EW.cons (AW.mg _ _ _) (EW.cons (AW.refl _) (EW.cons (AW.refl _) (EW.cons (AW.refl _) EW.nil))))) (wc [1] [1] (by kernel_rfl) rfl (by kernel_rfl)))) ?_)))))))
  intro n85
  rintro ⟨xJ, BQ⟩ Sk h3 hv3
  refine sr (s1 (bi rfl rfl aJ) (sn (sq (cB h3 rfl (fun h3 => ?_) (fun h3 => ?_)))))
  ·obtain ⟨v83, AP, h3⟩ := ob h3; obtain ⟨Rh, h3⟩ := gd h3
   refine sk (sq (SC.blk (sr (s1 (jo rfl rfl jO rz (aj AP).1 (aY (aj AP).2) rfl) (s1 (bg (v := .d (aR v83)) rfl (bN rz OU rfl)) (s1 (yT (k := 1) YF rfl) (s0 (jP rfl rfl (sB (d' := .d (aR v83)) rz rfl rfl rfl rfl rfl rfl rfl)) (sn (SC.region ?_)))))))))
   refine sm rfl (s1 (far (k := 0) rfl wC bD rfl) (s1 (bg rfl (ah bD dH rfl rfl)) (s1 (sM (k := 2) (ds := List.map eI [v83.Col]) (off := 0) (l' := [v83.Col].length) rfl bZ xH rfl rfl (by rfl) rfl rfl rfl) (s1 (app rfl rfl rfl rfl yR (aF (f := eI) (xs := xJ) (k := 3) rfl bZ xH rfl (eY (xs := [v83.Col]) rfl) Rh rfl)) (sa rfl (SO.nil ?_))))))
   change SC _ _ _ _ _
   have q := si h3; subst q
   exact SC.region (s1 (bi rfl rfl aT) (sm rfl (SO.nil (lf (wc [3] [3] (by kernel_rfl) rfl (by kernel_rfl))))))
  ·have q := si h3; subst q; have q : _ = _ := hv3; subst q; have q := si h1; subst q
   exact SC.exit ((wq rfl))
 ·rintro HV h0
  have q := si h0; subst q
  exact sr (sm rfl (sa rfl (sn (SC.ret (bQ (Wk.refl _) (aZ rfl aX) rfl)))))
noncomputable def pY (p0 : Int) (p1 : aP) : Option Bool :=
 Option.bind (α := Bool)
 (bif (decide (p0 < (0 : Int))) then
 some true
 else
 some (decide (p0 ≥ (p1.aV.length : Int))))
 fun y6 =>
 some y6
theorem y8 (p0 : Int) (p1 : aP) (r : Bool) (h0 : pY p0 p1 = some r) : aO Tryz.prog 34 [.d (eI p0), .ref 0 0 0] [.box (.d (aK p1))] (.d (eB r)) [.box (.d (aK p1))] := by
 unfold pY at h0
 refine fn0 [0, 1] Tryz.func34 rfl rfl rfl rfl rfl ?_
 refine sr (sa rfl (sn (SC.bV h0 (fun y => ⟨mk 13 [(3, .d (eB y))], [.box (.d (aK p1))]⟩) ?_ ?_)))
 ·intro Zd h1
  refine SC.region (sm rfl (s1 (bi rfl rfl aJ) (sm rfl (sp h1 (fun h1 => ?_) (fun h1 => ?_)))))
  ·have q := si h1; subst q
   exact kw rfl (kw rfl (kw rfl (kw rfl (kw rfl (s1 (pkt rfl rfl) (sa rfl (SO.nil ((wq rfl)))))))))
  ·have q := si h1; subst q
   exact gw rfl (mv rfl) (gw rfl (far (k := 1) rfl iT iY rfl) (gw rfl (bg rfl (ah iY tN rfl rfl)) (gw rfl (len rfl rfl rfl (bC qp)) (gw rfl (bi rfl rfl dW) (s1 (dx rfl rfl) (sa rfl (SO.nil ((wq rfl)))))))))
 ·rintro y6 h0
  have q := si h0; subst q
  exact SC.ret (bQ (Wk.refl _) (aZ rfl aX) rfl)
noncomputable def dN (p0 : List Int) (p1 : aP) : Option Int :=
 eu (Y := Unit) (E := Int)
 (Option.bind (α := Unit ⊕ Int)
 (loop (Y := Int) (W := Unit ⊕ Int) (fun uY =>
 bif (decide (uY < (p0.length : Int))) then
 Option.bind (bG p0 uY) fun v85 =>
 Option.bind (pY v85 p1) fun Hf =>
 bif Hf then
 some (Sum.inr (Sum.inr uY))
 else
 some (Sum.inl (bF (uY + (1 : Int))))
 else
 some (Sum.inr (Sum.inl ()))) (0 : Int))
 (Sum.elim (fun e => some (Sum.inl e)) (fun e => some (Sum.inr e))))
 (fun _ =>
 some (-1 : Int))
 (fun e => some e)
theorem rD (p0 : List Int) (p1 : aP) (r : Int) (h0 : dN p0 p1 = some r) : aO Tryz.prog 67 [.d ((eL 1 eI) p0), .fn (.func 34) [] [.ref 0 0 0]] [.box (.d (aK p1))] (.d (eI r)) [.box (.d (aK p1))] := by
 unfold dN at h0
 refine fn0 [0, 1] Tryz.func67 rfl rfl rfl rfl rfl ?_
 refine sr (sa rfl (sn (SC.seqB h0 (fun y => ⟨mk 19 [], [.box (.d (aK p1))]⟩) ?_ ?_)))
 ·intro OO h1 h0
  obtain ⟨Sw, h2, h1⟩ := ob h1
  refine sr (sm rfl (s1 (len rfl rfl rfl (bC bZ)) (sm rfl (sn (SC.blk (SC.dL h2 (fun y => ⟨mk 19 [(0, .d ((eL 1 eI) p0)), (1, .fn (.func 34) [] [.ref 0 0 0]), (7, .d (eI (p0.length : Int))), (8, .d (eI y))], [.box (.d (aK p1))]⟩) (wq rfl) ?_))))))
  intro n88
  rintro uY Sj h3 hv3
  refine sr (s1 (bi rfl rfl aJ) (sn (sq (cB h3 rfl (fun h3 => ?_) (fun h3 => ?_)))))
  ·obtain ⟨v85, EC, h3⟩ := ob h3; obtain ⟨Hf, JD, h3⟩ := ob h3
   refine sk (sq (SC.blk (sr (sm rfl (sa rfl (sn (sr (sm rfl (sm rfl ?_)))))))))
   refine sm rfl (s1 (jo rfl rfl bZ bD (aj EC).1 (aY (aj EC).2) rfl) (s1 (bg rfl (bN bD dH rfl)) (cq [0] [] (y8 v85 p1 _ JD) wf rfl rfl rfl ajW rfl rfl rfl rfl rfl rfl rfl rfl (sn (cB h3 rfl (fun h3 => ?_) (fun h3 => ?_))))))
   ·have q := si h3; subst q; have q : _ = _ := hv3; subst q; have q := si h1; subst q; have q := si h0; subst q
    exact sr (sm rfl (sa rfl (sn (SC.ret (bQ (Wk.refl _) (aZ rfl aX) rfl)))))
   ·refine SC.skip ?_
    change SC _ _ _ _ _
    have q := si h3; subst q
    exact SC.region (s1 (bi rfl rfl aT) (sm rfl (SO.nil (lf (wq rfl)))))
  ·have q := si h3; subst q; have q : _ = _ := hv3; subst q; have q := si h1; subst q
   exact SC.exit (lf (wq rfl))
 ·intro _ h0
  have q := si h0; subst q
  exact sr (sa rfl (sn (SC.ret (bQ (Wk.refl _) (aZ rfl aX) rfl))))
noncomputable def bW (p0 : List Int) (p1 : aP) : Option Bool :=
 Option.bind (dN p0 p1) fun r7 =>
 some (decide (r7 ≥ (0 : Int)))
theorem pF (p0 : List Int) (p1 : aP) (r : Bool) (h0 : bW p0 p1 = some r) : aO Tryz.prog 36 [.d ((eL 1 eI) p0), .fn (.func 34) [] [.ref 0 0 0]] [.box (.d (aK p1))] (.d (eB r)) [.box (.d (aK p1))] := by
 unfold bW at h0
 refine fn0 [0, 1] Tryz.func36 rfl rfl rfl rfl rfl ?_
 obtain ⟨r7, Hr, h0⟩ := ob h0; have q := si h0; subst q
 refine sr (sa rfl (sn (sr (sm rfl (sm rfl (cq [0] [] (rD p0 p1 _ Hr) wf rfl rfl rfl afx rfl rfl rfl rfl rfl rfl rfl rfl (s1 (bi rfl rfl dW) (sa rfl (sn ?_)))))))))
 exact SC.ret (bQ (Wk.refl _) (aZ rfl aX) rfl)
theorem qx (p0 : List Int) (p1 : aP) (r : Int) (h0 : dN p0 p1 = some r) : aO Tryz.prog 67 [.slc 0 1 0 p0.length none, .fn (.func 34) [] [.ref 1 0 0]] [.row 1 (List.map eI p0) true, .box (.d (aK p1))] (.d (eI r)) [.row 1 (List.map eI p0) true, .box (.d (aK p1))] := by
 unfold dN at h0
 refine fn0 [0, 1] Tryz.func67 rfl rfl rfl rfl rfl ?_
 refine sr (sa rfl (sn (SC.seqB h0 (fun y => ⟨mk 19 [], [.row 1 (List.map eI p0) true, .box (.d (aK p1))]⟩) ?_ ?_)))
 ·intro OO h1 h0
  obtain ⟨Sw, h2, h1⟩ := ob h1
  refine sr (sm rfl (s1 (len rfl rfl rfl (dP bZ)) (sm rfl (sn (SC.blk (SC.dL h2 (fun y => ⟨mk 19 [(0, .slc 0 1 0 p0.length none), (1, .fn (.func 34) [] [.ref 1 0 0]), (7, .d (eI (p0.length : Int))), (8, .d (eI y))], [.row 1 (List.map eI p0) true, .box (.d (aK p1))]⟩) (wq rfl) ?_))))))
  intro n88
  rintro uY Sj h3 hv3
  refine sr (s1 (bi rfl rfl aJ) (sn (sq (cB h3 rfl (fun h3 => ?_) (fun h3 => ?_)))))
  ·obtain ⟨v85, EC, h3⟩ := ob h3; obtain ⟨Hf, JD, h3⟩ := ob h3
   refine sk (sq (SC.blk (sr (sm rfl (sa rfl (sn (sr (sm rfl (sm rfl ?_)))))))))
   refine sm rfl (s1 (JC rfl rfl bZ bD (iL EC)) (s1 (bg rfl (jr bD dH rfl (aY (aj EC).2) rfl)) (cq [1] [] (y8 v85 p1 _ JD) wf rfl rfl rfl ajW rfl rfl rfl rfl rfl rfl rfl rfl (sn (cB h3 rfl (fun h3 => ?_) (fun h3 => ?_))))))
   ·have q := si h3; subst q; have q : _ = _ := hv3; subst q; have q := si h1; subst q; have q := si h0; subst q
    exact sr (sm rfl (sa rfl (sn (SC.ret (bQ (Wk.refl _) (aZ rfl aX) rfl)))))
   ·refine SC.skip ?_
    change SC _ _ _ _ _
    have q := si h3; subst q
    exact SC.region (s1 (bi rfl rfl aT) (sm rfl (SO.nil (lf (wq rfl)))))
  ·have q := si h3; subst q; have q : _ = _ := hv3; subst q; have q := si h1; subst q
   exact SC.exit (lf (wq rfl))
 ·intro _ h0
  have q := si h0; subst q
  exact sr (sa rfl (sn (SC.ret (bQ (Wk.refl _) (aZ rfl aX) rfl))))
theorem o9 (p0 : List Int) (p1 : aP) (r : Bool) (h0 : bW p0 p1 = some r) : aO Tryz.prog 36 [.slc 0 1 0 p0.length none, .fn (.func 34) [] [.ref 1 0 0]] [.row 1 (List.map eI p0) true, .box (.d (aK p1))] (.d (eB r)) [.row 1 (List.map eI p0) true, .box (.d (aK p1))] := by
 unfold bW at h0
 refine fn0 [0, 1] Tryz.func36 rfl rfl rfl rfl rfl ?_
 obtain ⟨r7, Hr, h0⟩ := ob h0; have q := si h0; subst q
 refine sr (sa rfl (sn (sr (sm rfl (sm rfl (cq [0, 1] [] (qx p0 p1 _ Hr) wf rfl rfl rfl afx rfl rfl rfl rfl rfl rfl rfl rfl (s1 (bi rfl rfl dW) (sa rfl (sn ?_)))))))))
 exact SC.ret (bQ (Wk.refl _) (aZ rfl aX) rfl)
noncomputable def mG (p0 : aP) (p1 : bP) : Option Int :=
 Option.bind (oq p0.aV p1.Pred) fun YB =>
 bif (YB != (0 : Int)) then
 some YB
 else
 Option.bind (fD p1) fun O8 =>
 Option.bind (α := Bool)
 (bif (decide ((p1.aV.length : Int) > (24 : Int))) then
 some true
 else
 bif (decide ((O8.length : Int) > (4 : Int))) then
 some true
 else
 some (decide (p1.Limit < (-1 : Int))))
 fun KC =>
 bif KC then
 some (1 : Int)
 else
 Option.bind (α := Bool)
 (Option.bind (bW p1.aV p0) fun r55 =>
 bif r55 then
 some true
 else
 Option.bind (bW O8 p0) fun HZ =>
 some HZ)
 fun y52 =>
 bif y52 then
 some (1 : Int)
 else
 Option.bind (wB O8) fun r59 =>
 Option.bind (jW r59 0 O8.length) fun r61 =>
 bif (decide ((r61.length : Int) < (p1.Order.length : Int))) then
 some (1 : Int)
 else
 some (0 : Int)
theorem Cn (p0 : aP) (p1 : bP) (r : Int) (h0 : mG p0 p1 = some r) : aO Tryz.prog 11 [.d (aK p0), .d (bY p1)] [] (.d (eI r)) [] := by
 unfold mG at h0
 refine fn0 [0, 1] Tryz.func11 rfl rfl rfl rfl rfl ?_
 obtain ⟨YB, aem, h0⟩ := ob h0
 refine sr (s1 (tH (k := 0) rfl rfl rfl) (s1 (tH (k := 1) rfl rfl rfl) (sa rfl (sn (sq (sr (s1 (far (k := 1) rfl iT iY rfl) (s1 (bg rfl (ah iY tN rfl rfl)) (s1 (far (k := 0) rfl yL zy rfl) ?_)))))))))
 refine s1 (bg rfl (ah zy MK rfl rfl)) (c0 (KY p0.aV p1.Pred _ aem) wf rfl rfl rfl aqp rfl (fun _ => rfl) (fun _ => rfl) (sa rfl (sn (sr (sm rfl (s1 (bi rfl rfl bS) (sn (cB h0 rfl (fun h0 => ?_) (fun h0 => ?_)))))))))
 ·have q := si h0; subst q
  exact sr (sm rfl (sa rfl (sn (SC.ret (bQ (wc (e' := [(4, .d (eI YB))]) [] [] (by kernel_rfl) rfl (by kernel_rfl)) (aZ rfl aX) rfl)))))
 ·obtain ⟨O8, apt, h0⟩ := ob h0
  refine sk (sr (s1 (mkf rfl rfl) (sa rfl (sn (sr (s1 (bg (v := .d (bY p1)) rfl (ah Iw KJ rfl rfl)) (cq [] [2] (Ao p1 _ apt) wf rfl rfl rfl ajV rfl rfl rfl rfl rfl rfl rfl rfl (sa rfl (sn ?_)))))))))
  refine sq (SC.blk (SC.bV h0 (fun y => ⟨mk 53 [(3, .ref 0 0 0), (6, .fn (.func 34) [] [.ref 1 0 0]), (7, .slc 2 1 0 O8.length none), (19, .d (eB y))], [.box (.d (bY p1)), .box (.d (aK p0)), .row 1 (List.map eI O8) true]⟩) ?_ ?_))
  ·intro aqW h1
   refine SC.region (s1 (far (k := 1) rfl NJ dQ rfl) (s1 (bg rfl (ah dQ iZ rfl rfl)) (s1 (len rfl rfl rfl (bC bZ)) (s1 (bi rfl rfl bM) (sm rfl (sp h1 (fun h1 => ?_) (fun h1 => ?_)))))))
   ·have q := si h1; subst q
    refine kw rfl (kw rfl (kw rfl (s1 (pkt rfl rfl) (sm rfl (kw rfl (kw rfl (kw rfl (s1 (pkt rfl rfl) (sa rfl ?_)))))))))
    exact SO.nil ((wc [1, 0, 2] [1, 0, 2] (by kernel_rfl) rfl (by kernel_rfl)))
   ·refine gw rfl (mv rfl) (gw rfl (len rfl rfl rfl (dP bZ)) (gw rfl (bi rfl rfl bM) (s1 (dx rfl rfl) (sm rfl (sp h1 (fun h1 => ?_) (fun h1 => ?_))))))
    ·have q := si h1; subst q
     exact kw rfl (kw rfl (kw rfl (s1 (pkt rfl rfl) (sa rfl (SO.nil ((wc [1, 0, 2] [1, 0, 2] (by kernel_rfl) rfl (by kernel_rfl))))))))
    ·have q := si h1; subst q
     exact gw rfl (far (k := 3) rfl XQ bD rfl) (gw rfl (bg rfl (ah bD dH rfl rfl)) (gw rfl (bi rfl rfl aJ) (s1 (dx rfl rfl) (sa rfl (SO.nil ((wc [1, 0, 2] [1, 0, 2] (by kernel_rfl) rfl (by kernel_rfl))))))))
  ·rintro KC h0
   refine cB h0 rfl (fun h0 => ?_) (fun h0 => ?_)
   ·have q := si h0; subst q
    exact sr (sa rfl (sn (SC.ret (bQ (wc (e' := [(4, .d (eI (1 : Int)))]) [] [] (by kernel_rfl) rfl (by kernel_rfl)) (aZ rfl aX) rfl))))
   ·refine SC.bV h0 (fun y => ⟨mk 53 [(3, .ref 0 0 0), (7, .slc 1 1 0 O8.length none), (34, .d (eB y))], [.box (.d (bY p1)), .row 1 (List.map eI O8) true]⟩) ?_ ?_
    ·intro aqV h1
     obtain ⟨r55, aps, h1⟩ := ob h1
     refine SC.region (s1 (far (k := 1) rfl NJ dQ rfl) (s1 (bg rfl (ah dQ iZ rfl rfl)) (sm rfl (cq [1] [] (pF p1.aV p0 _ aps) wf rfl rfl rfl afE rfl rfl rfl rfl rfl rfl rfl rfl (sm rfl (sp h1 (fun h1 => ?_) (fun h1 => ?_)))))))
     ·have q := si h1; subst q
      exact kw rfl (kw rfl (kw rfl (s1 (pkt rfl rfl) (sa rfl (SO.nil ((wc [0, 2] [0, 2] (by kernel_rfl) rfl (by kernel_rfl))))))))
     ·obtain ⟨HZ, ad2, h1⟩ := ob h1; have q := si h1; subst q
      exact gw rfl (mv rfl) (gw rfl (mv rfl) (cq [2, 1] [] (o9 O8 p0 _ ad2) (ww rfl) rfl rfl rfl afE rfl rfl rfl rfl rfl rfl rfl rfl (s1 (dx rfl rfl) (sa rfl (SO.nil ((wc [0, 2] [0, 2] (by kernel_rfl) rfl (by kernel_rfl))))))))
    ·rintro y52 h0
     refine cB h0 rfl (fun h0 => ?_) (fun h0 => ?_)
     ·have q := si h0; subst q
      exact sr (sa rfl (sn (SC.ret (bQ (wc (e' := [(4, .d (eI (1 : Int)))]) [] [] (by kernel_rfl) rfl (by kernel_rfl)) (aZ rfl aX) rfl))))
     ·refine SC.skip ?_
      change SC _ _ _ _ _
      obtain ⟨r59, apr, h0⟩ := ob h0; obtain ⟨r61, apq, h0⟩ := ob h0
      refine sr (sm rfl (cq [1] [] (Jy O8 _ apr) wf rfl rfl rfl afD rfl rfl rfl rfl rfl rfl rfl rfl (sn (sq (sd (by kernel_rfl) (t1 ([], false) (mv rfl) rfl (tq [1] [] ([1], true) (AO r59 0 O8.length _ apq) wf rfl rfl rfl afC rfl rfl rfl rfl rfl rfl rfl rfl rfl (t1 ([], false) (len rfl rfl rfl (bC bZ)) rfl (t1 ([], false) (far (k := 2) rfl NI iG rfl) rfl ?_)))))))))
      refine t1 ([0], false) (bg rfl (ah iG rC rfl rfl)) rfl (t1 ([], false) (len rfl rfl rfl (bC jO)) rfl (t1 ([], false) (bi rfl rfl aJ) rfl (tn (by decide +kernel) (cB h0 rfl (fun h0 => ?_) (fun h0 => ?_)))))
      ·have q := si h0; subst q
       exact sr (sa rfl (sn (SC.ret (bQ (wc (e' := [(4, .d (eI (1 : Int)))]) [] [] (by kernel_rfl) rfl (by kernel_rfl)) (aZ rfl aX) rfl))))
      ·have q := si h0; subst q
       exact sk (sr (sa rfl (sn (SC.ret (bQ (wc (e' := [(4, .d (eI (0 : Int)))]) [] [] (by kernel_rfl) rfl (by kernel_rfl)) (aZ rfl aX) rfl)))))
noncomputable def pX (p0 : List aG) (p1 : List Int) : Option Unit :=
 some ()
theorem Ef (p0 : List aG) (p1 : List Int) (r : Unit) (h0 : pX p0 p1 = some r) : aO Tryz.prog 52 [.agg [.d ((eL 8 aQ) p0), .slc 0 1 0 p1.length none]] [.row 1 (List.map eI p1) true] (.d (eI (p1.length : Int))) [.row 1 (List.map eI p1) true] := by
 unfold pX at h0
 refine fn0 [0] Tryz.func52 rfl rfl rfl rfl rfl ?_
 have q := si h0; subst q
 refine sr (s1 (tH (k := 1) rfl rfl rfl) (sa rfl (sn (sr (s1 (far (k := 1) rfl kP dQ rfl) (s1 (bg rfl (ah dQ iZ rfl rfl)) (s1 (len rfl rfl rfl (dP bZ)) (sa rfl (sn ?_)))))))))
 exact SC.ret (bQ (wc (e' := [(2, .d (eI (p1.length : Int)))]) [0] [0] (by kernel_rfl) rfl (by kernel_rfl)) (aZ rfl aX) rfl)
noncomputable def dX (p0 : List aG) (p1 : List Int) (p2 : Nat) (p3 : Nat) (p4 : Int) (p5 : Int) : Option Bool :=
 Option.bind (sD p1 p2 p3 p4) fun v14 =>
 Option.bind (sD p1 p2 p3 p5) fun v15 =>
 Option.bind (bG p0 v14) fun v16 =>
 Option.bind (bG p0 v15) fun v17 =>
 bif (v16.jL != v17.jL) then
 Option.bind (bG p0 v14) fun v18 =>
 Option.bind (bG p0 v15) fun v19 =>
 some (decide (v18.jL < v19.jL))
 else
 some (decide (v14 < v15))
theorem mE (p0 : List aG) (p1 : List Int) (p2 : Nat) (p3 : Nat) (p4 : Int) (p5 : Int) (r : Bool) (h0 : dX p0 p1 p2 p3 p4 p5 = some r) : aO Tryz.prog 194 [.agg [.d ((eL 8 aQ) p0), .slc 0 1 p2 p3 none], .d (eI p4), .d (eI p5)] [.row 1 (List.map eI p1) true] (.d (eB r)) [.row 1 (List.map eI p1) true] := by
 unfold dX at h0
 refine fn0 [0, 1, 2] Tryz.func194 rfl rfl rfl rfl rfl ?_
 obtain ⟨v14, ahO, h0⟩ := ob h0; obtain ⟨v15, ahN, h0⟩ := ob h0; obtain ⟨v16, ahM, h0⟩ := ob h0; obtain ⟨v17, ahL, h0⟩ := ob h0
 refine sr (s1 (tH (k := 1) rfl rfl rfl) (sa rfl (sn (sd (by kernel_rfl) (t1 ([], false) (far (k := 1) rfl kP dQ rfl) rfl (t1 ([1], false) (bg rfl (ah dQ iZ rfl rfl)) rfl (t1 ([], false) (mv rfl) rfl (t1 ([], false) (ias rfl rfl bZ bD (eX ahO).1) rfl (t1 ([0], false) (bg rfl (jr bD dH rfl (aY (eX ahO).2) rfl)) rfl ?_)))))))))
 refine t1 ([], false) (far (k := 1) rfl kP dQ rfl) rfl (t1 ([1], false) (bg rfl (ah dQ iZ rfl rfl)) rfl (t1 ([], false) (mv rfl) rfl (t1 ([], false) (ias rfl rfl bZ bD (eX ahN).1) rfl (t1 ([0], false) (bg rfl (jr bD dH rfl (aY (eX ahN).2) rfl)) rfl (t1 ([], false) (lX rfl) rfl (t1 ([], false) (lX rfl) rfl (tn (by decide +kernel) (sq (sd (by kernel_rfl) ?_)))))))))
 refine t1 ([], false) (far (k := 0) rfl Ia OQ rfl) rfl (t1 ([1], false) (bg rfl (ah OQ Zg rfl rfl)) rfl (t1 ([], false) (mv rfl) rfl (t1 ([], false) (jo rfl rfl uS xL (aj ahM).1 (aY (aj ahM).2) rfl) rfl (t1 ([], false) (fap rfl yK bD rfl) rfl (t1 ([], false) (bg rfl (bN bD dH rfl)) rfl (t1 ([], false) (far (k := 0) rfl Ia OQ rfl) rfl (t1 ([1], false) (bg rfl (ah OQ Zg rfl rfl)) rfl (t1 ([], false) (mv rfl) rfl (t1 ([], false) (jo rfl rfl uS xL (aj ahL).1 (aY (aj ahL).2) rfl) rfl ?_)))))))))
 refine t1 ([], false) (fap rfl yK bD rfl) rfl (t1 ([], false) (bg rfl (bN bD dH rfl)) rfl (t1 ([], false) (bi rfl rfl bS) rfl (tn (by decide +kernel) (cB h0 rfl (fun h0 => ?_) (fun h0 => ?_)))))
 ·obtain ⟨v18, ahK, h0⟩ := ob h0; obtain ⟨v19, ahJ, h0⟩ := ob h0; have q := si h0; subst q
  refine sd (by kernel_rfl) (t1 ([], false) (far (k := 0) rfl Ia OQ rfl) rfl (t1 ([1], false) (bg rfl (ah OQ Zg rfl rfl)) rfl (t1 ([], false) (mv rfl) rfl (t1 ([], false) (jo rfl rfl uS xL (aj ahK).1 (aY (aj ahK).2) rfl) rfl (t1 ([], false) (fap rfl yK bD rfl) rfl (t1 ([], false) (bg rfl (bN bD dH rfl)) rfl (t1 ([], false) (far (k := 0) rfl Ia OQ rfl) rfl (t1 ([1], false) (bg rfl (ah OQ Zg rfl rfl)) rfl (t1 ([], false) (mv rfl) rfl ?_)))))))))
  exact t1 ([], false) (jo rfl rfl uS xL (aj ahJ).1 (aY (aj ahJ).2) rfl) rfl (t1 ([], false) (fap rfl yK bD rfl) rfl (t1 ([], false) (bg rfl (bN bD dH rfl)) rfl (t1 ([], false) (bi rfl rfl aJ) rfl (t1 ([], false) (lX rfl) rfl (tn (by decide +kernel) (SC.ret (bQ (wc (e' := [(6, .d (eB (decide (v18.jL < v19.jL))))]) [0] [0] (by kernel_rfl) rfl (by kernel_rfl)) (aZ rfl aX) rfl)))))))
 ·have q := si h0; subst q
  exact sk (sr (sm rfl (sm rfl (s1 (bi rfl rfl aJ) (sa rfl (sn (SC.ret (bQ (wc (e' := [(6, .d (eB (decide (v14 < v15))))]) [0] [0] (by kernel_rfl) rfl (by kernel_rfl)) (aZ rfl aX) rfl))))))))
noncomputable def eT (p0 : List aG) (p1 : List Int) (p2 : Nat) (p3 : Nat) (p4 : Int) (p5 : Int) : Option ((List Int)) :=
 Option.bind (sD p1 p2 p3 p5) fun v10 =>
 Option.bind (sD p1 p2 p3 p4) fun v11 =>
 Option.bind (sD p1 p2 p3 p4) fun v12 =>
 Option.bind (sD (List.set p1 (p2 + p4.toNat) v10) p2 p3 p5) fun v13 =>
 some (List.set (List.set p1 (p2 + p4.toNat) v10) (p2 + p5.toNat) v11)
theorem mq (p0 : List aG) (p1 : List Int) (p2 : Nat) (p3 : Nat) (p4 : Int) (p5 : Int) (r : (List Int)) (h0 : eT p0 p1 p2 p3 p4 p5 = some r) : aO Tryz.prog 197 [.agg [.d ((eL 8 aQ) p0), .slc 0 1 p2 p3 none], .d (eI p4), .d (eI p5)] [.row 1 (List.map eI p1) true] (.tuple []) [.row 1 (List.map eI r) true] := by
 unfold eT at h0
 refine fn0 [0, 1, 2] Tryz.func197 rfl rfl rfl rfl rfl ?_
 obtain ⟨v10, ahS, h0⟩ := ob h0; obtain ⟨v11, ahR, h0⟩ := ob h0; obtain ⟨v12, ahQ, h0⟩ := ob h0; obtain ⟨v13, ahP, h0⟩ := ob h0; have q := si h0; subst q
 refine sr (s1 (tH (k := 1) rfl rfl rfl) (sn (SC.draws (by kernel_rfl) (t1 ([], false) (far (k := 1) rfl kP dQ rfl) rfl (t1 ([1], false) (bg rfl (ah dQ iZ rfl rfl)) rfl (t1 ([], false) (mv rfl) rfl (t1 ([], false) (far (k := 1) rfl kP dQ rfl) rfl (t1 ([1], false) (bg rfl (ah dQ iZ rfl rfl)) rfl (t1 ([], false) (mv rfl) rfl ?_)))))))))
 refine t1 ([], false) (far (k := 1) rfl kP dQ rfl) rfl (t1 ([1], false) (bg rfl (ah dQ iZ rfl rfl)) rfl (t1 ([], false) (mv rfl) rfl (t1 ([], false) (ias rfl rfl bZ bD (eX ahS).1) rfl (t1 ([0], false) (bg rfl (jr bD dH rfl (aY (eX ahS).2) rfl)) rfl (t1 ([], false) (far (k := 1) rfl kP dQ rfl) rfl (t1 ([1], false) (bg rfl (ah dQ iZ rfl rfl)) rfl (t1 ([], false) (mv rfl) rfl (t1 ([], false) (ias rfl rfl bZ bD (eX ahR).1) rfl (t1 ([0], false) (bg rfl (jr bD dH rfl (aY (eX ahR).2) rfl)) rfl ?_)))))))))
 refine t1 ([], false) (ias rfl rfl bZ bD (eX ahQ).1) rfl (t0 ([0], true) (jP (b := .d (eI v10)) rfl rfl (sR (f := eI) (v := v10) bD rfl rfl rfl rfl (eX ahQ).2 rfl rfl)) rfl (t1 ([], false) (ias rfl rfl bZ bD (eX ahP).1) rfl (t0 ([0], true) (jP (b := .d (eI v11)) rfl rfl (sR (f := eI) (v := v11) bD rfl rfl rfl rfl (eX ahP).2 rfl rfl)) rfl (ST.nil (And.intro (by decide +kernel) ?_)))))
 exact EK (wc (e' := []) [0] [0] (by kernel_rfl) rfl (by kernel_rfl)) aX rfl
noncomputable def gX (p0 : Int) (p1 : List aG) (p2 : List Int) : Option ((List Int)) :=
 Option.bind (α := (List Int))
 (loop (Y := Int × (List Int)) (W := (List Int)) (fun (Hz, Kz) =>
 Option.bind (α := Bool)
 (bif ((bF (Int.tdiv (bF (Hz - (1 : Int))) (2 : Int))) == Hz) then
 some true
 else
 Option.bind (dX p1 Kz 0 p2.length Hz (bF (Int.tdiv (bF (Hz - (1 : Int))) (2 : Int)))) fun Zo =>
 some (!Zo))
 fun y88 =>
 bif y88 then
 some (Sum.inr Kz)
 else
 Option.bind (eT p1 Kz 0 p2.length (bF (Int.tdiv (bF (Hz - (1 : Int))) (2 : Int))) Hz) fun r93 =>
 some (Sum.inl ((bF (Int.tdiv (bF (Hz - (1 : Int))) (2 : Int))), r93))) (p0, p2))
 (fun e => some e)
theorem AY (p0 : Int) (p1 : List aG) (p2 : List Int) (r : (List Int)) (h0 : gX p0 p1 p2 = some r) : aO Tryz.prog 88 [.iface 108 (.ref 0 0 0), .d (eI p0)] [.box (.agg [.d ((eL 8 aQ) p1), .slc 1 1 0 p2.length none]), .row 1 (List.map eI p2) true] (.tuple []) [.box (.agg [.d ((eL 8 aQ) p1), .slc 1 1 0 p2.length none]), .row 1 (List.map eI r) true] := by
 unfold gX at h0
 refine fn0 [0, 1] Tryz.func88 rfl rfl rfl rfl rfl ?_
 obtain ⟨aqS, h1, h0⟩ := ob h0
 refine SC.blk (SC.dL h1 (fun y => ⟨mk 23 [(0, .iface 108 (.ref 0 0 0)), (1, .d (eI y.1))], [.box (.agg [.d ((eL 8 aQ) p1), .slc 1 1 0 p2.length none]), .row 1 (List.map eI y.2) true]⟩) (wq rfl) ?_)
 intro n94
 rintro ⟨Hz, Kz⟩ aqM h2 hv2
 refine SC.blk (sr (sm rfl (s1 (bi rfl rfl dK) (s1 (bi (v := .d (eI (bF (Int.tdiv (bF (Hz - (1 : Int))) (2 : Int))))) rfl rfl (fun X Y => xE _ X Y (bF (Hz - (1 : Int))) (2 : Int) (by decide))) (sa rfl (sn (sq (SC.bV h2 (fun y => ⟨mk 23 [(0, .iface 108 (.ref 0 0 0)), (1, .d (eI Hz)), (4, .d (eI (bF (Int.tdiv (bF (Hz - (1 : Int))) (2 : Int))))), (17, .d (eB y))], [.box (.agg [.d ((eL 8 aQ) p1), .slc 1 1 0 p2.length none]), .row 1 (List.map eI Kz) true]⟩) ?_ ?_))))))))
 ·intro aqN h3
  refine SC.region (sm rfl (sm rfl (s1 (bi rfl rfl aM) (sm rfl (sp h3 (fun h3 => ?_) (fun h3 => ?_))))))
  ·have q := si h3; subst q
   exact kw rfl (kw rfl (kw rfl (kw rfl (kw rfl (s1 (pkt rfl rfl) (SO.nil ((wq rfl))))))))
  ·obtain ⟨Zo, ad1, h3⟩ := ob h3; have q := si h3; subst q
   exact gw rfl (mv rfl) (gw rfl (mv rfl) (gw rfl (mv rfl) (iq [1] [] (mE p1 Kz 0 p2.length Hz (bF (Int.tdiv (bF (Hz - (1 : Int))) (2 : Int))) _ ad1) (ww rfl) rfl rfl rfl Da (Gs (rv := .agg [.d ((eL 8 aQ) p1), .slc 1 1 0 p2.length none]) Cb (ah DV DZ rfl rfl)) X9 rfl rfl rfl rfl rfl rfl rfl rfl (gw rfl (nt rfl) (s1 (dx rfl rfl) (SO.nil ((wq rfl))))))))
 ·rintro y88 h2
  refine cB h2 rfl (fun h2 => ?_) (fun h2 => ?_)
  ·have q := si h2; subst q; have q : _ = _ := hv2; subst q; have q := si h0; subst q
   exact SC.exit (EK (Wk.refl _) aX rfl)
  ·obtain ⟨r93, apc, h2⟩ := ob h2; have q := si h2; subst q
   refine sk (sr (sm rfl (sm rfl (sm rfl (iq [1] [] (mq p1 Kz 0 p2.length (bF (Int.tdiv (bF (Hz - (1 : Int))) (2 : Int))) Hz _ apc) wf rfl rfl rfl C9 (Gs (rv := .agg [.d ((eL 8 aQ) p1), .slc 1 1 0 p2.length none]) Cb (ah DV DZ rfl rfl)) X8 rfl rfl rfl rfl rfl rfl rfl rfl (sn (SC.region (sm rfl (sa rfl ?_)))))))))
   exact SO.nil (lf (wq rfl))
noncomputable def jE (p0 : Int) (p1 : List aG) (p2 : List Int) (p3 : Nat) (p4 : Nat) : Option Unit :=
 bif decide (p3 + p4 ≤ p2.length) then
 bif decide ((p4 + [p0].length) * 8 ≤ room) then
 some ()
 else none
 else none
theorem Am (p0 : Int) (p1 : List aG) (p2 : List Int) (p3 : Nat) (p4 : Nat) (r : Unit) (h0 : jE p0 p1 p2 p3 p4 = some r) : aO Tryz.prog 196 [.ref 0 0 0, .iface 3 (.d (eI p0))] [.box (.agg [.d ((eL 8 aQ) p1), .slc 1 1 p3 p4 none]), .row 1 (List.map eI p2) true] (.tuple []) [.box (.agg [.d ((eL 8 aQ) p1), .slc 2 1 0 ((List.take p4 (List.drop p3 p2) ++ [p0]).length) none]), .dead, .row 1 (List.map eI (List.take p4 (List.drop p3 p2) ++ [p0])) true] := by
 unfold jE at h0
 refine fn0 [0, 1] Tryz.func196 rfl rfl rfl rfl rfl ?_
 obtain ⟨hg6, h0⟩ := gd h0; obtain ⟨hg5, h0⟩ := gd h0; have q := si h0; subst q
 refine SC.draws (by kernel_rfl) (t1 ([], false) (mv rfl) rfl (t1 ([], false) (mv rfl) rfl (t1 ([], false) (K8 rfl) rfl (t1 ([], false) (far (k := 1) rfl kP dQ rfl) rfl (t1 ([0], false) (bg rfl (ah dQ iZ rfl rfl)) rfl (t1 ([], false) (mv rfl) rfl (t1 ([], false) (tya rfl ni3) rfl (t1 ([2], true) (sM (k := 2) (ds := List.map eI [p0]) (off := 0) (l' := [p0].length) rfl bZ xH rfl rfl (by rfl) rfl rfl rfl) rfl (t1 ([1, 2, 3], true) (app rfl rfl rfl rfl yR (aS (f := eI) (xs := p2) (k := 3) bZ xH rfl hg6 (eY (xs := [p0]) rfl) hg5 rfl)) rfl ?_)))))))))
 refine t1 ([], false) (K8 rfl) rfl (t1 ([], false) (far (k := 1) rfl kP dQ rfl) rfl (t0 ([0, 3], true) (jP rfl rfl (sB (d' := .agg [.d ((eL 8 aQ) p1), .slc 3 1 0 ((List.take p4 (List.drop p3 p2) ++ [p0]).length) none]) dQ rfl rfl rfl rfl rfl rfl rfl)) rfl (ST.nil (And.intro (by decide +kernel) ?_))))
 exact EK (wc (e' := []) [0, 1, 3] [0, 1] (by kernel_rfl) rfl (by kernel_rfl)) aX rfl
noncomputable def fH (p0 : Int) (p1 : List aG) (p2 : List Int) (p3 : Nat) (p4 : Nat) : Option ((List Int)) :=
 Option.bind (jE p0 p1 p2 p3 p4) fun _ =>
 Option.bind (pX p1 (List.take p4 (List.drop p3 p2) ++ [p0])) fun _ =>
 Option.bind (gX (bF (((List.take p4 (List.drop p3 p2) ++ [p0]).length : Int) - (1 : Int))) p1 (List.take p4 (List.drop p3 p2) ++ [p0])) fun r13 =>
 some r13
theorem wJ (p0 : Int) (p1 : List aG) (p2 : List Int) (p3 : Nat) (p4 : Nat) (r : (List Int)) (h0 : fH p0 p1 p2 p3 p4 = some r) : aO Tryz.prog 51 [.iface 108 (.ref 0 0 0), .iface 3 (.d (eI p0))] [.box (.agg [.d ((eL 8 aQ) p1), .slc 1 1 p3 p4 none]), .row 1 (List.map eI p2) true] (.tuple []) [.box (.agg [.d ((eL 8 aQ) p1), .slc 2 1 0 ((List.take p4 (List.drop p3 p2) ++ [p0]).length) none]), .dead, .row 1 (List.map eI r) true] := by
 unfold fH at h0
 refine fn0 [0, 1] Tryz.func51 rfl rfl rfl rfl rfl ?_
 obtain ⟨_, apB, h0⟩ := ob h0; obtain ⟨_, hq11, h0⟩ := ob h0; obtain ⟨r13, hq12, h0⟩ := ob h0; have q := si h0; subst q
 refine sr (sm rfl (sm rfl (iq [0, 1] [2] (Am p0 p1 p2 p3 p4 _ apB) wf rfl rfl rfl Q8 (abl Cb) ajZ rfl rfl rfl rfl rfl rfl rfl rfl (sn (SC.region (sm rfl (sm rfl (iq [2] [] (Ef p1 (List.take p4 (List.drop p3 p2) ++ [p0]) _ hq11) wf rfl rfl rfl LY (Gs (rv := .agg [.d ((eL 8 aQ) p1), .slc 2 1 0 ((List.take p4 (List.drop p3 p2) ++ [p0]).length) none]) Cb (ah DV DZ rfl rfl)) afz rfl rfl rfl rfl rfl rfl rfl rfl (s1 (bi rfl rfl dK) ?_)))))))))
 exact cq [0, 2] [] (AY (bF (((List.take p4 (List.drop p3 p2) ++ [p0]).length : Int) - (1 : Int))) p1 (List.take p4 (List.drop p3 p2) ++ [p0]) _ hq12) wf rfl rfl rfl ap6 rfl rfl rfl rfl rfl rfl rfl rfl (SO.nil (EK (Wk.refl _) aX rfl))
noncomputable def jc (p0 : List aG) (p1 : List Int) (p2 : Nat) (p3 : Nat) : Option Unit :=
 some ()
theorem sJ (p0 : List aG) (p1 : List Int) (p2 : Nat) (p3 : Nat) (r : Unit) (h0 : jc p0 p1 p2 p3 = some r) : aO Tryz.prog 52 [.agg [.d ((eL 8 aQ) p0), .slc 0 1 p2 p3 none]] [.row 1 (List.map eI p1) true] (.d (eI (p3 : Int))) [.row 1 (List.map eI p1) true] := by
 unfold jc at h0
 refine fn0 [0] Tryz.func52 rfl rfl rfl rfl rfl ?_
 have q := si h0; subst q
 refine sr (s1 (tH (k := 1) rfl rfl rfl) (sa rfl (sn (sr (s1 (far (k := 1) rfl kP dQ rfl) (s1 (bg rfl (ah dQ iZ rfl rfl)) (s1 (len rfl rfl rfl (dP bZ)) (sa rfl (sn ?_)))))))))
 exact SC.ret (bQ (wc (e' := [(2, .d (eI (p3 : Int)))]) [0] [0] (by kernel_rfl) rfl (by kernel_rfl)) (aZ rfl aX) rfl)
noncomputable def fE (p0 : Int) (p1 : Int) (p2 : List aG) (p3 : List Int) (p4 : Nat) (p5 : Nat) : Option (Bool × (List Int)) :=
 Option.bind (α := Int × (List Int))
 (Option.bind (α := Int × (List Int))
 (loop (Y := Int × (List Int)) (W := Int × (List Int)) (fun (mY, zo) =>
 Option.bind (α := Bool)
 (bif (decide ((bF ((bF ((2 : Int) * mY)) + (1 : Int))) ≥ p1)) then
 some true
 else
 some (decide ((bF ((bF ((2 : Int) * mY)) + (1 : Int))) < (0 : Int))))
 fun YU =>
 bif YU then
 some (Sum.inr (mY, zo))
 else
 Option.bind (α := Int)
 (Option.bind (α := Bool)
 (bif (decide ((bF ((bF ((bF ((2 : Int) * mY)) + (1 : Int))) + (1 : Int))) < p1)) then
 Option.bind (dX p2 zo p4 p5 (bF ((bF ((bF ((2 : Int) * mY)) + (1 : Int))) + (1 : Int))) (bF ((bF ((2 : Int) * mY)) + (1 : Int)))) fun r408 =>
 some r408
 else
 some false)
 fun YT =>
 bif YT then
 some (bF ((bF ((bF ((2 : Int) * mY)) + (1 : Int))) + (1 : Int)))
 else
 some (bF ((bF ((2 : Int) * mY)) + (1 : Int))))
 fun KD =>
 Option.bind (dX p2 zo p4 p5 KD mY) fun Zt =>
 bif (!Zt) then
 some (Sum.inr (mY, zo))
 else
 Option.bind (eT p2 zo p4 p5 mY KD) fun Zr =>
 some (Sum.inl (KD, Zr))) (p0, p3))
 (fun e => some e))
 fun (YW, YV) =>
 some ((decide (YW > p0)), YV)
theorem yN (p0 : Int) (p1 : Int) (p2 : List aG) (p3 : List Int) (p4 : Nat) (p5 : Nat) (r : Bool × (List Int)) (h0 : fE p0 p1 p2 p3 p4 p5 = some r) : aO Tryz.prog 89 [.iface 108 (.ref 0 0 0), .d (eI p0), .d (eI p1)] [.box (.agg [.d ((eL 8 aQ) p2), .slc 1 1 p4 p5 none]), .row 1 (List.map eI p3) true] (.d (eB r.1)) [.box (.agg [.d ((eL 8 aQ) p2), .slc 1 1 p4 p5 none]), .row 1 (List.map eI r.2) true] := by
 unfold fE at h0
 refine fn0 [0, 1, 2] Tryz.func89 rfl rfl rfl rfl rfl ?_
 refine sr (sa rfl (sn (sr (sm rfl (sa rfl (sn (SC.bV h0 (fun y => ⟨mk 48 [(1, .d (eI p0)), (7, .d (eI y.1))], [.box (.agg [.d ((eL 8 aQ) p2), .slc 1 1 p4 p5 none]), .row 1 (List.map eI y.2) true]⟩) ?_ ?_)))))))
 ·intro aok h1
  obtain ⟨anL, h2, h1⟩ := ob h1
  refine SC.blk (SC.dL h2 (fun y => ⟨mk 48 [(0, .iface 108 (.ref 0 0 0)), (1, .d (eI p0)), (2, .d (eI p1)), (7, .d (eI y.1))], [.box (.agg [.d ((eL 8 aQ) p2), .slc 1 1 p4 p5 none]), .row 1 (List.map eI y.2) true]⟩) (wq rfl) ?_)
  intro arK
  rintro ⟨mY, zo⟩ ami h3 hv3
  refine SC.blk (sr (sm rfl (s1 (bi rfl rfl ng) (s1 (bi rfl rfl aT) (sa rfl (sn (sq (SC.bV h3 (fun y => ⟨mk 48 [(0, .iface 108 (.ref 0 0 0)), (1, .d (eI p0)), (2, .d (eI p1)), (7, .d (eI mY)), (8, .d (eI (bF ((bF ((2 : Int) * mY)) + (1 : Int))))), (21, .d (eB y))], [.box (.agg [.d ((eL 8 aQ) p2), .slc 1 1 p4 p5 none]), .row 1 (List.map eI zo) true]⟩) ?_ ?_))))))))
  ·intro anm h4
   refine SC.region (sm rfl (sm rfl (s1 (bi rfl rfl dW) (sm rfl (sp h4 (fun h4 => ?_) (fun h4 => ?_))))))
   ·have q := si h4; subst q
    exact kw rfl (kw rfl (s1 (pkt rfl rfl) (SO.nil ((wq rfl)))))
   ·have q := si h4; subst q
    exact gw rfl (mv rfl) (gw rfl (bi rfl rfl aJ) (s1 (dx rfl rfl) (SO.nil ((wq rfl)))))
  ·rintro YU h3
   refine cB h3 rfl (fun h3 => ?_) (fun h3 => ?_)
   ·have q := si h3; subst q; have q : _ = _ := hv3; subst q; have q := si h1; subst q
    exact SC.exit ((wq rfl))
   ·refine sk (sr (sm rfl (sa rfl (sn (SC.bV h3 (fun y => ⟨mk 48 [(0, .iface 108 (.ref 0 0 0)), (1, .d (eI p0)), (2, .d (eI p1)), (7, .d (eI mY)), (9, .d (eI y))], [.box (.agg [.d ((eL 8 aQ) p2), .slc 1 1 p4 p5 none]), .row 1 (List.map eI zo) true]⟩) ?_ ?_)))))
    ·intro ank h4
     refine sr (sm rfl (s1 (bi rfl rfl aT) (sa rfl (sn (SC.bV h4 (fun y => ⟨mk 48 [(0, .iface 108 (.ref 0 0 0)), (1, .d (eI p0)), (2, .d (eI p1)), (7, .d (eI mY)), (9, .d (eI (bF ((bF ((2 : Int) * mY)) + (1 : Int))))), (10, .d (eI (bF ((bF ((bF ((2 : Int) * mY)) + (1 : Int))) + (1 : Int))))), (33, .d (eB y))], [.box (.agg [.d ((eL 8 aQ) p2), .slc 1 1 p4 p5 none]), .row 1 (List.map eI zo) true]⟩) ?_ ?_)))))
     ·intro am6 h5
      refine SC.region (sm rfl (sm rfl (s1 (bi rfl rfl aJ) (sm rfl (sp h5 (fun h5 => ?_) (fun h5 => ?_))))))
      ·obtain ⟨r408, air, h5⟩ := ob h5; have q := si h5; subst q
       exact gw rfl (mv rfl) (gw rfl (mv rfl) (gw rfl (mv rfl) (iq [1] [] (mE p2 zo p4 p5 (bF ((bF ((bF ((2 : Int) * mY)) + (1 : Int))) + (1 : Int))) (bF ((bF ((2 : Int) * mY)) + (1 : Int))) _ air) (ww rfl) rfl rfl rfl Da (Gs (rv := .agg [.d ((eL 8 aQ) p2), .slc 1 1 p4 p5 none]) Cb (ah DV DZ rfl rfl)) X9 rfl rfl rfl rfl rfl rfl rfl rfl (s1 (pkt rfl rfl) (SO.nil ((wq rfl)))))))
      ·have q := si h5; subst q
       exact kw rfl (kw rfl (kw rfl (kw rfl (s1 (dx rfl rfl) (SO.nil ((wq rfl)))))))
     ·rintro YT h4
      refine cB h4 rfl (fun h4 => ?_) (fun h4 => ?_)
      ·have q := si h4; subst q
       exact SC.region (sm rfl (sa rfl (SO.nil ((wq rfl)))))
      ·have q := si h4; subst q
       exact SC.skip ((wq rfl))
    ·rintro KD h3
     obtain ⟨Zt, aiq, h3⟩ := ob h3
     refine sq (sr (sm rfl (sm rfl (sm rfl (iq [1] [] (mE p2 zo p4 p5 KD mY _ aiq) wf rfl rfl rfl Da (Gs (rv := .agg [.d ((eL 8 aQ) p2), .slc 1 1 p4 p5 none]) Cb (ah DV DZ rfl rfl)) X9 rfl rfl rfl rfl rfl rfl rfl rfl (s1 (nt rfl) (sn (cB h3 rfl (fun h3 => ?_) (fun h3 => ?_)))))))))
     ·have q := si h3; subst q; have q : _ = _ := hv3; subst q; have q := si h1; subst q
      exact SC.exit ((wq rfl))
     ·obtain ⟨Zr, aip, h3⟩ := ob h3; have q := si h3; subst q
      refine sk (sr (sm rfl (sm rfl (sm rfl (iq [1] [] (mq p2 zo p4 p5 mY KD _ aip) wf rfl rfl rfl C9 (Gs (rv := .agg [.d ((eL 8 aQ) p2), .slc 1 1 p4 p5 none]) Cb (ah DV DZ rfl rfl)) X8 rfl rfl rfl rfl rfl rfl rfl rfl (sn (SC.region (sm rfl (sa rfl ?_)))))))))
      exact SO.nil (lf (wq rfl))
 ·rintro ⟨YW, YV⟩ h0
  have q := si h0; subst q
  exact sr (sm rfl (sm rfl (s1 (bi rfl rfl bM) (sa rfl (sn (SC.ret (bQ (Wk.refl _) (aZ rfl aX) rfl)))))))
noncomputable def mD (p0 : List aG) (p1 : List Int) (p2 : Nat) (p3 : Nat) : Option Int :=
 Option.bind (sD p1 p2 p3 (bF ((p3 : Int) - (1 : Int)))) fun v6 =>
 bif decide (0 ≤ (bF ((p3 : Int) - (1 : Int))) ∧ (bF ((p3 : Int) - (1 : Int))) ≤ (p3 : Int)) then
 some v6
 else none
theorem Ee (p0 : List aG) (p1 : List Int) (p2 : Nat) (p3 : Nat) (r : Int) (h0 : mD p0 p1 p2 p3 = some r) : aO Tryz.prog 195 [.ref 0 0 0] [.box (.agg [.d ((eL 8 aQ) p0), .slc 1 1 p2 p3 none]), .row 1 (List.map eI p1) true] (.iface 3 (.d (eI r))) [.box (.agg [.d ((eL 8 aQ) p0), .slc 1 1 p2 ((bF ((p3 : Int) - (1 : Int))).toNat) none]), .row 1 (List.map eI p1) true] := by
 unfold mD at h0
 refine fn0 [0] Tryz.func195 rfl rfl rfl rfl rfl ?_
 obtain ⟨v6, hv6, h0⟩ := ob h0; obtain ⟨hg7, h0⟩ := gd h0; have q := si h0; subst q
 refine sr (s1 (lX (v := .d .K9) rfl) (sn (sd (by kernel_rfl) (t1 ([], false) (mv rfl) rfl (t1 ([], false) (K8 rfl) rfl (t1 ([], false) (far (k := 1) rfl kP dQ rfl) rfl (t1 ([0], false) (bg rfl (ah dQ iZ rfl rfl)) rfl (t1 ([], false) (mv rfl) rfl (t1 ([], false) (K8 rfl) rfl ?_)))))))))
 refine t1 ([], false) (far (k := 1) rfl kP dQ rfl) rfl (t1 ([0], false) (bg rfl (ah dQ iZ rfl rfl)) rfl (t1 ([], false) (len rfl rfl rfl (dP bZ)) rfl (t1 ([], false) (bi rfl rfl dK) rfl (t1 ([], false) (ias rfl rfl bZ bD (eX hv6).1) rfl (t1 ([1], false) (bg rfl (jr bD dH rfl (aY (eX hv6).2) rfl)) rfl (t1 ([], false) (lX rfl) rfl (tn (by decide +kernel) (sd (by kernel_rfl) (t1 ([], false) (mv rfl) rfl ?_)))))))))
 refine t1 ([], false) (mv rfl) rfl (t1 ([], false) (K8 rfl) rfl (t1 ([], false) (far (k := 1) rfl kP dQ rfl) rfl (t1 ([0], false) (bg rfl (ah dQ iZ rfl rfl)) rfl (t1 ([], false) (mv rfl) rfl (t1 ([], false) (K8 rfl) rfl (t1 ([], false) (far (k := 1) rfl kP dQ rfl) rfl (t1 ([0], false) (bg rfl (ah dQ iZ rfl rfl)) rfl (t1 ([], false) (len rfl rfl rfl (dP bZ)) rfl (t1 ([], false) (bi rfl rfl dK) rfl ?_)))))))))
 refine t1 ([], false) (VU rfl rfl rfl rfl (sZ bZ bD hg7)) rfl (t1 ([], false) (K8 rfl) rfl (t1 ([], false) (far (k := 1) rfl kP dQ rfl) rfl (t0 ([0, 1], true) (jP rfl rfl (sB (d' := .agg [.d ((eL 8 aQ) p0), .slc 1 1 p2 ((bF ((p3 : Int) - (1 : Int))).toNat) none]) dQ rfl rfl rfl rfl rfl rfl rfl)) rfl (tn (by decide +kernel) (sr (sm rfl (s1 (mki rfl ni3) (sa rfl (sn ?_)))))))))
 exact SC.ret (bQ (Wk.refl _) (aZ rfl aX) rfl)
noncomputable def gK (p0 : List aG) (p1 : List Int) (p2 : Nat) (p3 : Nat) : Option (Int × (List Int)) :=
 Option.bind (jc p0 p1 p2 p3) fun _ =>
 Option.bind (eT p0 p1 p2 p3 (0 : Int) (bF ((p3 : Int) - (1 : Int)))) fun r21 =>
 Option.bind (fE (0 : Int) (bF ((p3 : Int) - (1 : Int))) p0 r21 p2 p3) fun (QX, r24) =>
 Option.bind (mD p0 r24 p2 p3) fun r26 =>
 some (r26, r24)
theorem zD (p0 : List aG) (p1 : List Int) (p2 : Nat) (p3 : Nat) (r : Int × (List Int)) (h0 : gK p0 p1 p2 p3 = some r) : aO Tryz.prog 53 [.iface 108 (.ref 0 0 0)] [.box (.agg [.d ((eL 8 aQ) p0), .slc 1 1 p2 p3 none]), .row 1 (List.map eI p1) true] (.iface 3 (.d (eI r.1))) [.box (.agg [.d ((eL 8 aQ) p0), .slc 1 1 p2 ((bF ((p3 : Int) - (1 : Int))).toNat) none]), .row 1 (List.map eI r.2) true] := by
 unfold gK at h0
 refine fn0 [0] Tryz.func53 rfl rfl rfl rfl rfl ?_
 obtain ⟨_, apz, h0⟩ := ob h0; obtain ⟨r21, apy, h0⟩ := ob h0; obtain ⟨⟨QX, r24⟩, Xy, h0⟩ := ob h0; obtain ⟨r26, apx, h0⟩ := ob h0; have q := si h0; subst q
 refine sr (s1 (lX (v := .d .K9) rfl) (sn (sr (sm rfl (iq [1] [] (sJ p0 p1 p2 p3 _ apz) wf rfl rfl rfl LY (Gs (rv := .agg [.d ((eL 8 aQ) p0), .slc 1 1 p2 p3 none]) Cb (ah DV DZ rfl rfl)) afz rfl rfl rfl rfl rfl rfl rfl rfl (s1 (bi rfl rfl dK) (sa rfl (sn (sr ?_)))))))))
 refine sm rfl (sm rfl (iq [1] [] (mq p0 p1 p2 p3 (0 : Int) (bF ((p3 : Int) - (1 : Int))) _ apy) wf rfl rfl rfl C9 (Gs (rv := .agg [.d ((eL 8 aQ) p0), .slc 1 1 p2 p3 none]) Cb (ah DV DZ rfl rfl)) X8 rfl rfl rfl rfl rfl rfl rfl rfl (sn (sr (sm rfl (sm rfl (cq [0, 1] [] (yN (0 : Int) (bF ((p3 : Int) - (1 : Int))) p0 r21 p2 p3 _ Xy) wf rfl rfl rfl ap5 rfl rfl rfl rfl rfl rfl rfl rfl (sn (sr ?_)))))))))
 exact sm rfl (iq [0, 1] [] (Ee p0 r24 p2 p3 _ apx) wf rfl rfl rfl Uk (abl Cb) aj0 rfl rfl rfl rfl rfl rfl rfl rfl (sa rfl (sn (SC.ret (bQ (Wk.refl _) (aZ rfl aX) rfl)))))
noncomputable def oL (p0 : List aG) : Option ((List Int)) :=
 Option.bind (α := (List Int) × Nat)
 (Option.bind (α := (List Int) × Nat)
 (loop (Y := Int × (List Int) × Nat) (W := (List Int) × Nat) (fun (Im, BH, uQ) =>
 bif (decide (Im < (p0.length : Int))) then
 Option.bind (fH Im p0 BH 0 uQ) fun Q0 =>
 some (Sum.inl ((bF (Im + (1 : Int))), Q0, (List.take uQ (List.drop 0 BH) ++ [Im]).length))
 else
 some (Sum.inr (BH, uQ))) ((0 : Int), ([] : List Int), ([] : List Int).length))
 (fun e => some e))
 fun (Vp, Vo) =>
 Option.bind (α := (List Int))
 (Option.bind (α := (List Int))
 (loop (Y := (List Int) × (List Int) × Nat) (W := (List Int)) (fun (wL, OB, zq) =>
 Option.bind (jc p0 OB 0 zq) fun _ =>
 bif (decide ((zq : Int) > (0 : Int))) then
 Option.bind (gK p0 OB 0 zq) fun (MZ, Zv) =>
 bif decide ((wL.length + [MZ].length) * 8 ≤ room) then
 some (Sum.inl ((wL ++ [MZ]), Zv, (bF ((zq : Int) - (1 : Int))).toNat))
 else none
 else
 some (Sum.inr wL)) (([] : List Int), Vp, Vo))
 (fun e => some e))
 fun TA =>
 some TA
theorem Ei (p0 : List aG) (r : (List Int)) (h0 : oL p0 = some r) : aO Tryz.prog 19 [.d ((eL 8 aQ) p0)] [] (.d ((eL 1 eI) r)) [] := by
 unfold oL at h0
 refine fn0 [0] Tryz.func19 rfl rfl rfl rfl rfl ?_
 refine sr (s1 (lX (v := .d .dn) rfl) (sn (sr (sm rfl (s1 (xI rfl (Z5 p0)) (s1 (tH (k := 0) rfl rfl rfl) (sa rfl (sn (SC.bV h0 (fun y => ⟨mk 33 [(3, .ref 0 0 0)], [.box (.agg [.d ((eL 8 aQ) p0), .slc 1 1 0 y.2 none]), .row 1 (List.map eI y.1) true]⟩) ?_ ?_)))))))))
 ·intro aoB h1
  obtain ⟨anX, h2, h1⟩ := ob h1
  refine sr (sm rfl (s1 (len rfl rfl rfl (bC uS)) (sm rfl (sn (SC.blk (SC.dL h2 (fun y => ⟨mk 33 [(3, .ref 0 0 0), (10, .d (eI (p0.length : Int))), (11, .d (eI y.1))], [.box (.agg [.d ((eL 8 aQ) p0), .slc 1 1 0 y.2.2 none]), .row 1 (List.map eI y.2.1) true]⟩) (Wk.trans (Wk.mo (σ' := [.box (.d (.agg [((eL 8 aQ) p0), .dn])), .row 1 (List.map eI ([] : List Int)) true]) (.row 1 [] true) (fun _ hh => by cases hh) rfl) (Wk.trans (Wk.Z4 (id := 0) (y := .agg [.d ((eL 8 aQ) p0), .slc 1 1 0 (([] : List Int).length) none]) (σ' := [.box (.agg [.d ((eL 8 aQ) p0), .slc 1 1 0 (([] : List Int).length) none]), .row 1 (List.map eI ([] : List Int)) true]) rfl (nK.cons (AW.refl _) (nK.cons (AW.mg _ _ _) nK.nil)) rfl) (wq rfl))) ?_))))))
  intro n200
  rintro ⟨Im, BH, uQ⟩ amu h3 hv3
  refine sr (s1 (bi rfl rfl aJ) (sn (sq (cB h3 rfl (fun h3 => ?_) (fun h3 => ?_)))))
  ·obtain ⟨Q0, XB, h3⟩ := ob h3
   refine sk (sq (SC.blk (sr (sm rfl (sa rfl (sn (SC.region (sm rfl (s1 (mki rfl abT) ?_)))))))))
   refine sm rfl (s1 (mki rfl ni3) (cq [0, 1] [2] (wJ Im p0 BH 0 uQ _ XB) wf rfl rfl rfl aqj rfl rfl rfl rfl rfl rfl rfl rfl (SO.nil ?_)))
   change SC _ _ _ _ _
   have q := si h3; subst q
   exact SC.region (s1 (bi rfl rfl aT) (sm rfl (SO.nil (lf (wc [0, 2] [0] (by kernel_rfl) rfl (by kernel_rfl))))))
  ·have q := si h3; subst q; have q : _ = _ := hv3; subst q; have q := si h1; subst q
   exact SC.exit ((wq rfl))
 ·rintro ⟨Vp, Vo⟩ h0
  refine sr (s1 (lX (v := .d .dn) rfl) (sn (SC.bV h0 (fun y => ⟨mk 33 [(5, .slc 0 1 0 y.length none)], [.row 1 (List.map eI y) true]⟩) ?_ ?_)))
  ·intro aow h1
   obtain ⟨anS, h2, h1⟩ := ob h1
   refine SC.blk (SC.dL h2 (fun y => ⟨mk 33 [(3, .ref 0 0 0), (5, .slc 1 1 0 y.1.length none)], [.box (.agg [.d ((eL 8 aQ) p0), .slc 2 1 0 y.2.2 none]), .row 1 (List.map eI y.1) true, .row 1 (List.map eI y.2.1) true]⟩) (Wk.trans (Wk.mo (σ' := [.box (.agg [.d ((eL 8 aQ) p0), .slc 1 1 0 Vo none]), .row 1 (List.map eI Vp) true, .row 1 (List.map eI ([] : List Int)) true]) (.row 1 [] true) (fun _ hh => by cases hh) rfl) (Wk.trans (Wk.env (e' := [(3, .ref 0 0 0), (5, .slc 2 1 0 (([] : List Int).length) none)]) (EW.cons (AW.refl _) (EW.cons (AW.mg _ _ _) EW.nil))) (wc [0, 2, 1] [0, 2] (by kernel_rfl) rfl (by kernel_rfl)))) ?_)
   intro n250
   rintro ⟨wL, OB, zq⟩ amo h3 hv3
   obtain ⟨_, aiB, h3⟩ := ob h3
   refine sq (sr (sm rfl (s1 (K8 rfl) (s1 (bg (v := .agg [.d ((eL 8 aQ) p0), .slc 2 1 0 zq none]) rfl (ah DV DZ rfl rfl)) (cq [2] [] (sJ p0 OB 0 zq _ aiB) wf rfl rfl rfl afz rfl rfl rfl rfl rfl rfl rfl rfl (s1 (bi rfl rfl bM) (sn (cB h3 rfl (fun h3 => ?_) (fun h3 => ?_)))))))))
   ·obtain ⟨⟨MZ, Zv⟩, aiA, h3⟩ := ob h3; obtain ⟨ajj, h3⟩ := gd h3; have q := si h3; subst q
    refine sk (SC.blk (SC.region (sm rfl (sm rfl (s1 (mki rfl abT) (cq [0, 2] [] (zD p0 OB 0 zq _ aiA) wf rfl rfl rfl aqi rfl rfl rfl rfl rfl rfl rfl rfl (s1 (tya rfl ni3) (s1 (sM (k := 3) (ds := List.map eI [MZ]) (off := 0) (l' := [MZ].length) rfl bZ xH rfl rfl (by rfl) rfl rfl rfl) (s1 (app rfl rfl rfl rfl yR (aF (f := eI) (xs := wL) (k := 4) rfl bZ xH rfl (eY (xs := [MZ]) rfl) ajj rfl)) ?_)))))))))
    exact sa rfl (SO.nil (lf (wc [0, 4, 2] [0, 4] (by kernel_rfl) rfl (by kernel_rfl))))
   ·have q := si h3; subst q; have q : _ = _ := hv3; subst q; have q := si h1; subst q
    exact SC.exit ((wc [1] [1] (by kernel_rfl) rfl (by kernel_rfl)))
  ·rintro TA h0
   have q := si h0; subst q
   exact sr (sm rfl (sa rfl (sn (SC.ret (bQ (Wk.trans (Wk.mM (i := 2) (x := .slc 0 1 0 TA.length none) rfl rfl (fF rfl rfl rfl)) (wc (e' := [(2, .d ((eL 1 eI) TA))]) [] [] (by kernel_rfl) rfl (by kernel_rfl))) (aZ rfl aX) rfl)))))
noncomputable def kZ (p0 : List Int) (p1 : List Int) : Option Bool :=
 bif ((p0.length : Int) != (p1.length : Int)) then
 some false
 else
 eu (Y := Unit) (E := Bool)
 (Option.bind (α := Unit ⊕ Bool)
 (loop (Y := Int) (W := Unit ⊕ Bool) (fun KA =>
 bif (decide (KA < (p0.length : Int))) then
 Option.bind (bG p0 KA) fun v68 =>
 Option.bind (bG p1 KA) fun v69 =>
 bif (v68 != v69) then
 some (Sum.inr (Sum.inr false))
 else
 some (Sum.inl (bF (KA + (1 : Int))))
 else
 some (Sum.inr (Sum.inl ()))) (0 : Int))
 (Sum.elim (fun e => some (Sum.inl e)) (fun e => some (Sum.inr e))))
 (fun _ =>
 some true)
 (fun e => some e)
theorem oJ (p0 : List Int) (p1 : List Int) (r : Bool) (h0 : kZ p0 p1 = some r) : aO Tryz.prog 15 [.d ((eL 1 eI) p0), .d ((eL 1 eI) p1)] [] (.d (eB r)) [] := by
 unfold kZ at h0
 refine fn0 [0, 1] Tryz.func15 rfl rfl rfl rfl rfl ?_
 refine sr (sa rfl (sn (sq (sr (sm rfl (s1 (len rfl rfl rfl (bC bZ)) (sm rfl (s1 (len rfl rfl rfl (bC bZ)) (s1 (bi rfl rfl bS) ?_)))))))))
 refine sn (cB h0 rfl (fun h0 => ?_) (fun h0 => ?_))
 ·have q := si h0; subst q
  exact sr (sa rfl (sn (SC.ret (bQ (Wk.refl _) (aZ rfl aX) rfl))))
 ·refine sk (SC.seqB h0 (fun y => ⟨mk 26 [], []⟩) ?_ ?_)
  ·intro agY h1 h0
   obtain ⟨agW, h2, h1⟩ := ob h1
   refine sr (sa rfl (sn (SC.blk (SC.dL h2 (fun y => ⟨mk 26 [(0, .d ((eL 1 eI) p0)), (1, .d ((eL 1 eI) p1)), (5, .d (eI y))], []⟩) (wq rfl) ?_))))
   intro n70
   rintro KA agw h3 hv3
   refine sq (sr (sm rfl (sm rfl (s1 (len rfl rfl rfl (bC bZ)) (s1 (bi rfl rfl aJ) (sn (cB h3 rfl (fun h3 => ?_) (fun h3 => ?_))))))))
   ·obtain ⟨v68, WH, h3⟩ := ob h3; obtain ⟨v69, ahI, h3⟩ := ob h3
    refine sk (sq (SC.blk (sd (by kernel_rfl) (t1 ([], false) (mv rfl) rfl (t1 ([], false) (mv rfl) rfl (t1 ([], false) (jo rfl rfl bZ bD (aj WH).1 (aY (aj WH).2) rfl) rfl (t1 ([], false) (bg rfl (bN bD dH rfl)) rfl (t1 ([], false) (mv rfl) rfl (t1 ([], false) (mv rfl) rfl ?_)))))))))
    refine t1 ([], false) (jo rfl rfl bZ bD (aj ahI).1 (aY (aj ahI).2) rfl) rfl (t1 ([], false) (bg rfl (bN bD dH rfl)) rfl (t1 ([], false) (bi rfl rfl bS) rfl (tn (by decide +kernel) (cB h3 rfl (fun h3 => ?_) (fun h3 => ?_)))))
    ·have q := si h3; subst q; have q : _ = _ := hv3; subst q; have q := si h1; subst q; have q := si h0; subst q
     exact sr (sa rfl (sn (SC.ret (bQ (Wk.refl _) (aZ rfl aX) rfl))))
    ·refine SC.skip ?_
     change SC _ _ _ _ _
     have q := si h3; subst q
     exact SC.region (sm rfl (s1 (bi rfl rfl aT) (sa rfl (SO.nil (lf (wq rfl))))))
   ·have q := si h3; subst q; have q : _ = _ := hv3; subst q; have q := si h1; subst q
    exact SC.exit (lf (wq rfl))
  ·intro _ h0
   have q := si h0; subst q
   exact sr (sa rfl (sn (SC.ret (bQ (Wk.refl _) (aZ rfl aX) rfl))))
noncomputable def mJ : Option Bool :=
 Option.bind (mF (aP.mk ([97] : List UInt8) [(aB.mk ([105, 100] : List UInt8) (1 : Int) (0 : Int) false (ak.mk (1 : Int) (0 : UInt64) ([] : List UInt8))), (aB.mk ([110] : List UInt8) (1 : Int) (0 : Int) false (ak.mk (1 : Int) (0 : UInt64) ([] : List UInt8)))] [(0 : Int)] [(bE.mk ([120] : List UInt8) [(aI.mk (1 : Int) false)] ([] : List Int) false true (3 : Int))] (2 : Int)) (bP.mk [(aA.mk (2 : Int) (1 : Int) (3 : Int) (ak.mk (1 : Int) (5 : UInt64) ([] : List UInt8)))] [(0 : Int)] ([] : List aI) (-1 : Int))) fun TT =>
 Option.bind (α := Bool)
 (Option.bind (mG (aP.mk ([97] : List UInt8) [(aB.mk ([105, 100] : List UInt8) (1 : Int) (0 : Int) false (ak.mk (1 : Int) (0 : UInt64) ([] : List UInt8))), (aB.mk ([110] : List UInt8) (1 : Int) (0 : Int) false (ak.mk (1 : Int) (0 : UInt64) ([] : List UInt8)))] [(0 : Int)] [(bE.mk ([120] : List UInt8) [(aI.mk (1 : Int) false)] ([] : List Int) false true (3 : Int))] (2 : Int)) (bP.mk [(aA.mk (2 : Int) (1 : Int) (3 : Int) (ak.mk (1 : Int) (5 : UInt64) ([] : List UInt8)))] [(0 : Int)] ([] : List aI) (-1 : Int))) fun YA =>
 bif (YA == (0 : Int)) then
 bif ((TT.length : Int) == (2 : Int)) then
 Option.bind (bG TT (0 : Int)) fun v81 =>
 bif (v81.Index == (-1 : Int)) then
 Option.bind (bG TT (1 : Int)) fun v82 =>
 bif v82.Covers then
 Option.bind (bG TT (1 : Int)) fun v83 =>
 bif (v83.jL == (101 : Int)) then
 Option.bind (oL TT) fun r85 =>
 Option.bind (kZ r85 [(1 : Int), (0 : Int)]) fun Hf =>
 bif Hf then
 Option.bind (kI (bP.mk [(aA.mk (2 : Int) (1 : Int) (3 : Int) (ak.mk (1 : Int) (5 : UInt64) ([] : List UInt8)))] [(0 : Int)] ([] : List aI) (-1 : Int))) fun r89 =>
 Option.bind (kZ r89 [(0 : Int), (1 : Int)]) fun Zo =>
 some Zo
 else
 some false
 else
 some false
 else
 some false
 else
 some false
 else
 some false
 else
 some false)
 fun y77 =>
 some y77
theorem Jw (r : Bool) (h0 : mJ = some r) : aO Tryz.prog 7 [] [] (.d (eB r)) [] := by
 unfold mJ at h0
 refine fn0 [] Tryz.func7 rfl rfl rfl rfl rfl ?_
 obtain ⟨TT, apo, h0⟩ := ob h0
 refine sr (sa rfl (sn (sr (s1 (xI rfl (Yd (1 : Int))) (s1 (xI rfl (J2 ([105, 100] : List UInt8) (1 : Int) (ak.mk (1 : Int) (0 : UInt64) ([] : List UInt8)))) (s1 (xI rfl (Yd (1 : Int))) (s1 (xI rfl (J2 ([110] : List UInt8) (1 : Int) (ak.mk (1 : Int) (0 : UInt64) ([] : List UInt8)))) (s1 (sM (k := 0) (ds := List.map bI [(aB.mk ([105, 100] : List UInt8) (1 : Int) (0 : Int) false (ak.mk (1 : Int) (0 : UInt64) ([] : List UInt8))), (aB.mk ([110] : List UInt8) (1 : Int) (0 : Int) false (ak.mk (1 : Int) (0 : UInt64) ([] : List UInt8)))]) (off := 0) (l' := [(aB.mk ([105, 100] : List UInt8) (1 : Int) (0 : Int) false (ak.mk (1 : Int) (0 : UInt64) ([] : List UInt8))), (aB.mk ([110] : List UInt8) (1 : Int) (0 : Int) false (ak.mk (1 : Int) (0 : UInt64) ([] : List UInt8)))].length) rfl qp afr rfl rfl (by rfl) rfl rfl rfl) (s1 (sM (k := 1) (ds := List.map eI [(0 : Int)]) (off := 0) (l' := [(0 : Int)].length) rfl bZ xH rfl rfl (by rfl) rfl rfl rfl) ?_)))))))))
 refine s1 (xI rfl (NU ([97] : List UInt8) (2 : Int))) (s1 (yT (k := 2) adj rfl) (s0 (jP rfl rfl (sB (d' := .agg [.d (eS ([97] : List UInt8)), .slc 0 7 0 ([(aB.mk ([105, 100] : List UInt8) (1 : Int) (0 : Int) false (ak.mk (1 : Int) (0 : UInt64) ([] : List UInt8))), (aB.mk ([110] : List UInt8) (1 : Int) (0 : Int) false (ak.mk (1 : Int) (0 : UInt64) ([] : List UInt8)))].length) none, .slc 1 1 0 ([(0 : Int)].length) none, .d .dn, .d (eI (2 : Int))]) zS rfl rfl rfl rfl rfl rfl rfl)) (sn (sr (s1 (xI rfl (Ry (1 : Int))) (s1 (sM (k := 3) (ds := List.map aR [(aI.mk (1 : Int) false)]) (off := 0) (l' := [(aI.mk (1 : Int) false)].length) rfl jO Rq rfl rfl (by rfl) rfl rfl rfl) (s1 (xI rfl (NT ([120] : List UInt8) true (3 : Int))) (SO.wk (Wk.kM (i := 13) (x := .agg [.d (eS ([120] : List UInt8)), .slc 3 2 0 ([(aI.mk (1 : Int) false)].length) none, .d .dn, .d (eB false), .d (eB true), .d (eI (3 : Int))]) rfl rfl rfl (iR rfl (gW (fF rfl rfl rfl) (iR rfl (iR rfl (iR rfl (iR rfl p9))))))) (SO.wk (Wk.ao3 (i := 13) (x := .d (.agg [(eS ([120] : List UInt8)), ((eL 2 aR) [(aI.mk (1 : Int) false)]), .dn, (eB false), (eB true), (eI (3 : Int))])) (y := .d (bH (bE.mk ([120] : List UInt8) [(aI.mk (1 : Int) false)] ([] : List Int) false true (3 : Int)))) rfl rfl (AW.U3 rfl (nK.cons (AW.refl _) (nK.cons (AW.refl _) (nK.cons (AW.nl _) (nK.cons (AW.refl _) (nK.cons (AW.refl _) (nK.cons (AW.refl _) nK.nil)))))))) ?_)))))))))
 refine s1 (sM (k := 4) (ds := List.map bH [(bE.mk ([120] : List UInt8) [(aI.mk (1 : Int) false)] ([] : List Int) false true (3 : Int))]) (off := 0) (l' := [(bE.mk ([120] : List UInt8) [(aI.mk (1 : Int) false)] ([] : List Int) false true (3 : Int))].length) rfl zx afs rfl rfl (by rfl) rfl rfl rfl) (s1 (far (k := 3) rfl nH nL rfl) (s0 (jP rfl rfl (sB (d' := .agg [.d (eS ([97] : List UInt8)), .slc 0 7 0 ([(aB.mk ([105, 100] : List UInt8) (1 : Int) (0 : Int) false (ak.mk (1 : Int) (0 : UInt64) ([] : List UInt8))), (aB.mk ([110] : List UInt8) (1 : Int) (0 : Int) false (ak.mk (1 : Int) (0 : UInt64) ([] : List UInt8)))].length) none, .slc 1 1 0 ([(0 : Int)].length) none, .slc 4 6 0 ([(bE.mk ([120] : List UInt8) [(aI.mk (1 : Int) false)] ([] : List Int) false true (3 : Int))].length) none, .d (eI (2 : Int))]) nL rfl rfl rfl rfl rfl rfl rfl)) (sn (sr (s1 (xI rfl (Yc (1 : Int) (5 : UInt64))) (s1 (xI rfl (NS (2 : Int) (1 : Int) (3 : Int) (ak.mk (1 : Int) (5 : UInt64) ([] : List UInt8)))) (s1 (sM (k := 5) (ds := List.map aU [(aA.mk (2 : Int) (1 : Int) (3 : Int) (ak.mk (1 : Int) (5 : UInt64) ([] : List UInt8)))]) (off := 0) (l' := [(aA.mk (2 : Int) (1 : Int) (3 : Int) (ak.mk (1 : Int) (5 : UInt64) ([] : List UInt8)))].length) rfl vR ZT rfl rfl (by rfl) rfl rfl rfl) (s1 (sM (k := 6) (ds := List.map eI [(0 : Int)]) (off := 0) (l' := [(0 : Int)].length) rfl bZ xH rfl rfl (by rfl) rfl rfl rfl) ?_))))))))
 refine s1 (xI rfl (RD (-1 : Int))) (s1 (yT (k := 7) al2 rfl) (s0 (jP rfl rfl (sB (d' := .agg [.slc 5 6 0 ([(aA.mk (2 : Int) (1 : Int) (3 : Int) (ak.mk (1 : Int) (5 : UInt64) ([] : List UInt8)))].length) none, .slc 6 1 0 ([(0 : Int)].length) none, .d .dn, .d (eI (-1 : Int))]) Iw rfl rfl rfl rfl rfl rfl rfl)) (sn (sr (s1 (bg (v := .agg [.d (eS ([97] : List UInt8)), .slc 0 7 0 ([(aB.mk ([105, 100] : List UInt8) (1 : Int) (0 : Int) false (ak.mk (1 : Int) (0 : UInt64) ([] : List UInt8))), (aB.mk ([110] : List UInt8) (1 : Int) (0 : Int) false (ak.mk (1 : Int) (0 : UInt64) ([] : List UInt8)))].length) none, .slc 1 1 0 ([(0 : Int)].length) none, .slc 4 6 0 ([(bE.mk ([120] : List UInt8) [(aI.mk (1 : Int) false)] ([] : List Int) false true (3 : Int))].length) none, .d (eI (2 : Int))]) rfl (ah zS DW rfl rfl)) (s1 (bg (v := .agg [.slc 5 6 0 ([(aA.mk (2 : Int) (1 : Int) (3 : Int) (ak.mk (1 : Int) (5 : UInt64) ([] : List UInt8)))].length) none, .slc 6 1 0 ([(0 : Int)].length) none, .d .dn, .d (eI (-1 : Int))]) rfl (ah Iw KJ rfl rfl)) (cq (args' := [.agg [.d (eS ([97] : List UInt8)), .slc 0 7 0 ([(aB.mk ([105, 100] : List UInt8) (1 : Int) (0 : Int) false (ak.mk (1 : Int) (0 : UInt64) ([] : List UInt8))), (aB.mk ([110] : List UInt8) (1 : Int) (0 : Int) false (ak.mk (1 : Int) (0 : UInt64) ([] : List UInt8)))].length) none, .slc 1 1 0 ([(0 : Int)].length) none, .slc 2 6 0 ([(bE.mk ([120] : List UInt8) [(aI.mk (1 : Int) false)] ([] : List Int) false true (3 : Int))].length) none, .d (eI (2 : Int))], .agg [.slc 3 6 0 ([(aA.mk (2 : Int) (1 : Int) (3 : Int) (ak.mk (1 : Int) (5 : UInt64) ([] : List UInt8)))].length) none, .slc 4 1 0 ([(0 : Int)].length) none, .d .dn, .d (eI (-1 : Int))]]) (lM := [.row 7 (List.map bI [(aB.mk ([105, 100] : List UInt8) (1 : Int) (0 : Int) false (ak.mk (1 : Int) (0 : UInt64) ([] : List UInt8))), (aB.mk ([110] : List UInt8) (1 : Int) (0 : Int) false (ak.mk (1 : Int) (0 : UInt64) ([] : List UInt8)))]) true, .row 1 (List.map eI [(0 : Int)]) true, .row 6 (List.map bH [(bE.mk ([120] : List UInt8) [(aI.mk (1 : Int) false)] ([] : List Int) false true (3 : Int))]) true, .row 6 (List.map aU [(aA.mk (2 : Int) (1 : Int) (3 : Int) (ak.mk (1 : Int) (5 : UInt64) ([] : List UInt8)))]) true, .row 1 (List.map eI [(0 : Int)]) true]) [0, 1, 4, 5, 6] [] (aO.mM (gQ.Ur (y := .d (aK (aP.mk ([97] : List UInt8) [(aB.mk ([105, 100] : List UInt8) (1 : Int) (0 : Int) false (ak.mk (1 : Int) (0 : UInt64) ([] : List UInt8))), (aB.mk ([110] : List UInt8) (1 : Int) (0 : Int) false (ak.mk (1 : Int) (0 : UInt64) ([] : List UInt8)))] [(0 : Int)] [(bE.mk ([120] : List UInt8) [(aI.mk (1 : Int) false)] ([] : List Int) false true (3 : Int))] (2 : Int)))) rfl (iR rfl (gW (fF rfl rfl rfl) (gW (fF rfl rfl rfl) (gW (fF rfl rfl rfl) (iR rfl p9))))) (AW.U3 rfl (nK.cons (AW.refl _) (nK.cons (AW.refl _) (nK.cons (AW.refl _) (nK.cons (AW.refl _) (nK.cons (AW.refl _) nK.nil)))))) (gQ.Ur (y := .d (bY (bP.mk [(aA.mk (2 : Int) (1 : Int) (3 : Int) (ak.mk (1 : Int) (5 : UInt64) ([] : List UInt8)))] [(0 : Int)] ([] : List aI) (-1 : Int)))) rfl (gW (fF rfl rfl rfl) (gW (fF rfl rfl rfl) (iR rfl (iR rfl p9)))) (AW.U3 rfl (nK.cons (AW.refl _) (nK.cons (AW.refl _) (nK.cons (AW.nl _) (nK.cons (AW.refl _) nK.nil))))) (gQ.nil _))) (fq [] [] (Cm (aP.mk ([97] : List UInt8) [(aB.mk ([105, 100] : List UInt8) (1 : Int) (0 : Int) false (ak.mk (1 : Int) (0 : UInt64) ([] : List UInt8))), (aB.mk ([110] : List UInt8) (1 : Int) (0 : Int) false (ak.mk (1 : Int) (0 : UInt64) ([] : List UInt8)))] [(0 : Int)] [(bE.mk ([120] : List UInt8) [(aI.mk (1 : Int) false)] ([] : List Int) false true (3 : Int))] (2 : Int)) (bP.mk [(aA.mk (2 : Int) (1 : Int) (3 : Int) (ak.mk (1 : Int) (5 : UInt64) ([] : List UInt8)))] [(0 : Int)] ([] : List aI) (-1 : Int)) _ apo) rfl rfl rfl rfl rfl rfl rfl rfl)) wf rfl rfl rfl aj7 rfl rfl rfl rfl rfl rfl rfl rfl ?_)))))))
 refine sa rfl (sn (SC.bV h0 (fun y => ⟨mk 65 [(0, .d (eB y))], []⟩) ?_ ?_))
 ·intro aqT h1
  obtain ⟨YA, apg, h1⟩ := ob h1
  refine SC.region (s1 (bg (v := .agg [.d (eS ([97] : List UInt8)), .slc 0 7 0 ([(aB.mk ([105, 100] : List UInt8) (1 : Int) (0 : Int) false (ak.mk (1 : Int) (0 : UInt64) ([] : List UInt8))), (aB.mk ([110] : List UInt8) (1 : Int) (0 : Int) false (ak.mk (1 : Int) (0 : UInt64) ([] : List UInt8)))].length) none, .slc 1 1 0 ([(0 : Int)].length) none, .slc 4 6 0 ([(bE.mk ([120] : List UInt8) [(aI.mk (1 : Int) false)] ([] : List Int) false true (3 : Int))].length) none, .d (eI (2 : Int))]) rfl (ah zS DW rfl rfl)) (s1 (bg (v := .agg [.slc 5 6 0 ([(aA.mk (2 : Int) (1 : Int) (3 : Int) (ak.mk (1 : Int) (5 : UInt64) ([] : List UInt8)))].length) none, .slc 6 1 0 ([(0 : Int)].length) none, .d .dn, .d (eI (-1 : Int))]) rfl (ah Iw KJ rfl rfl)) (cq (args' := [.agg [.d (eS ([97] : List UInt8)), .slc 0 7 0 ([(aB.mk ([105, 100] : List UInt8) (1 : Int) (0 : Int) false (ak.mk (1 : Int) (0 : UInt64) ([] : List UInt8))), (aB.mk ([110] : List UInt8) (1 : Int) (0 : Int) false (ak.mk (1 : Int) (0 : UInt64) ([] : List UInt8)))].length) none, .slc 1 1 0 ([(0 : Int)].length) none, .slc 2 6 0 ([(bE.mk ([120] : List UInt8) [(aI.mk (1 : Int) false)] ([] : List Int) false true (3 : Int))].length) none, .d (eI (2 : Int))], .agg [.slc 3 6 0 ([(aA.mk (2 : Int) (1 : Int) (3 : Int) (ak.mk (1 : Int) (5 : UInt64) ([] : List UInt8)))].length) none, .slc 4 1 0 ([(0 : Int)].length) none, .d .dn, .d (eI (-1 : Int))]]) (lM := [.row 7 (List.map bI [(aB.mk ([105, 100] : List UInt8) (1 : Int) (0 : Int) false (ak.mk (1 : Int) (0 : UInt64) ([] : List UInt8))), (aB.mk ([110] : List UInt8) (1 : Int) (0 : Int) false (ak.mk (1 : Int) (0 : UInt64) ([] : List UInt8)))]) false, .row 1 (List.map eI [(0 : Int)]) false, .row 6 (List.map bH [(bE.mk ([120] : List UInt8) [(aI.mk (1 : Int) false)] ([] : List Int) false true (3 : Int))]) false, .row 6 (List.map aU [(aA.mk (2 : Int) (1 : Int) (3 : Int) (ak.mk (1 : Int) (5 : UInt64) ([] : List UInt8)))]) false, .row 1 (List.map eI [(0 : Int)]) false]) [0, 1, 4, 5, 6] [] (aO.mM (gQ.Ur (y := .d (aK (aP.mk ([97] : List UInt8) [(aB.mk ([105, 100] : List UInt8) (1 : Int) (0 : Int) false (ak.mk (1 : Int) (0 : UInt64) ([] : List UInt8))), (aB.mk ([110] : List UInt8) (1 : Int) (0 : Int) false (ak.mk (1 : Int) (0 : UInt64) ([] : List UInt8)))] [(0 : Int)] [(bE.mk ([120] : List UInt8) [(aI.mk (1 : Int) false)] ([] : List Int) false true (3 : Int))] (2 : Int)))) rfl (iR rfl (gW (fF rfl rfl rfl) (gW (fF rfl rfl rfl) (gW (fF rfl rfl rfl) (iR rfl p9))))) (AW.U3 rfl (nK.cons (AW.refl _) (nK.cons (AW.refl _) (nK.cons (AW.refl _) (nK.cons (AW.refl _) (nK.cons (AW.refl _) nK.nil)))))) (gQ.Ur (y := .d (bY (bP.mk [(aA.mk (2 : Int) (1 : Int) (3 : Int) (ak.mk (1 : Int) (5 : UInt64) ([] : List UInt8)))] [(0 : Int)] ([] : List aI) (-1 : Int)))) rfl (gW (fF rfl rfl rfl) (gW (fF rfl rfl rfl) (iR rfl (iR rfl p9)))) (AW.U3 rfl (nK.cons (AW.refl _) (nK.cons (AW.refl _) (nK.cons (AW.nl _) (nK.cons (AW.refl _) nK.nil))))) (gQ.nil _))) (fq [] [] (Cn (aP.mk ([97] : List UInt8) [(aB.mk ([105, 100] : List UInt8) (1 : Int) (0 : Int) false (ak.mk (1 : Int) (0 : UInt64) ([] : List UInt8))), (aB.mk ([110] : List UInt8) (1 : Int) (0 : Int) false (ak.mk (1 : Int) (0 : UInt64) ([] : List UInt8)))] [(0 : Int)] [(bE.mk ([120] : List UInt8) [(aI.mk (1 : Int) false)] ([] : List Int) false true (3 : Int))] (2 : Int)) (bP.mk [(aA.mk (2 : Int) (1 : Int) (3 : Int) (ak.mk (1 : Int) (5 : UInt64) ([] : List UInt8)))] [(0 : Int)] ([] : List aI) (-1 : Int)) _ apg) rfl rfl rfl rfl rfl rfl rfl rfl)) wf rfl rfl rfl akh rfl rfl rfl rfl rfl rfl rfl rfl ?_)))
  refine s1 (bi rfl rfl aM) (sm rfl (sp h1 (fun h1 => ?_) (fun h1 => ?_)))
  ·refine gw rfl (mv rfl) (gw rfl (len rfl rfl rfl (bC uS)) (gw rfl (bi rfl rfl aM) (s1 (pkt rfl rfl) (sm rfl (sp h1 (fun h1 => ?_) (fun h1 => ?_))))))
   ·obtain ⟨v81, ahH, h1⟩ := ob h1
    refine gw rfl (mv rfl) (gw rfl (jo rfl rfl uS xL (aj ahH).1 (aY (aj ahH).2) rfl) (gw rfl (fap rfl XP bD rfl) (gw rfl (bg rfl (bN bD dH rfl)) (gw rfl (bi rfl rfl aM) (s1 (pkt rfl rfl) (sm rfl (sp h1 (fun h1 => ?_) (fun h1 => ?_))))))))
    ·obtain ⟨v82, ahG, h1⟩ := ob h1
     refine gw rfl (mv rfl) (gw rfl (jo rfl rfl uS xL (aj ahG).1 (aY (aj ahG).2) rfl) (gw rfl (fap rfl Rl jZ rfl) (gw rfl (bg rfl (bN jZ wS rfl)) (s1 (pkt rfl rfl) (sm rfl (sp h1 (fun h1 => ?_) (fun h1 => ?_)))))))
     ·obtain ⟨v83, AP, h1⟩ := ob h1
      refine gw rfl (mv rfl) (gw rfl (jo rfl rfl uS xL (aj AP).1 (aY (aj AP).2) rfl) (gw rfl (fap rfl yK bD rfl) (gw rfl (bg rfl (bN bD dH rfl)) (gw rfl (bi rfl rfl aM) (s1 (pkt rfl rfl) (sm rfl (sp h1 (fun h1 => ?_) (fun h1 => ?_))))))))
      ·obtain ⟨r85, ape, h1⟩ := ob h1; obtain ⟨Hf, JD, h1⟩ := ob h1
       refine gw rfl (mv rfl) (c0 (Ei TT _ ape) (ww rfl) rfl rfl rfl aj1 rfl (fun _ => rfl) (fun _ => rfl) (gw rfl (sM (k := 8) (ds := List.map eI [(1 : Int), (0 : Int)]) (off := 0) (l' := [(1 : Int), (0 : Int)].length) rfl bZ xH rfl rfl (by rfl) rfl rfl rfl) (cq (args' := [.d ((eL 1 eI) r85), .slc 0 1 0 ([(1 : Int), (0 : Int)].length) none]) (lM := [.row 1 (List.map eI [(1 : Int), (0 : Int)]) true]) [8] [] (aO.mM (gQ.keep (gQ.mM (fF rfl rfl rfl) (gQ.nil _))) (fq [] [] (oJ r85 [(1 : Int), (0 : Int)] _ JD) rfl rfl rfl rfl rfl rfl rfl rfl)) (ww rfl) rfl rfl rfl Ux rfl rfl rfl rfl rfl rfl rfl rfl (s1 (pkt rfl rfl) (sm rfl (sp h1 (fun h1 => ?_) (fun h1 => ?_)))))))
       ·obtain ⟨r89, apd, h1⟩ := ob h1; obtain ⟨Zo, ad1, h1⟩ := ob h1; have q := si h1; subst q
        refine gw rfl (bg (v := .agg [.slc 5 6 0 ([(aA.mk (2 : Int) (1 : Int) (3 : Int) (ak.mk (1 : Int) (5 : UInt64) ([] : List UInt8)))].length) none, .slc 6 1 0 ([(0 : Int)].length) none, .d .dn, .d (eI (-1 : Int))]) rfl (ah Iw KJ rfl rfl)) (cq (args' := [.agg [.slc 0 6 0 ([(aA.mk (2 : Int) (1 : Int) (3 : Int) (ak.mk (1 : Int) (5 : UInt64) ([] : List UInt8)))].length) none, .slc 1 1 0 ([(0 : Int)].length) none, .d .dn, .d (eI (-1 : Int))]]) (lM := [.row 6 (List.map aU [(aA.mk (2 : Int) (1 : Int) (3 : Int) (ak.mk (1 : Int) (5 : UInt64) ([] : List UInt8)))]) false, .row 1 (List.map eI [(0 : Int)]) false]) [5, 6] [] (aO.mM (gQ.Ur (y := .d (bY (bP.mk [(aA.mk (2 : Int) (1 : Int) (3 : Int) (ak.mk (1 : Int) (5 : UInt64) ([] : List UInt8)))] [(0 : Int)] ([] : List aI) (-1 : Int)))) rfl (gW (fF rfl rfl rfl) (gW (fF rfl rfl rfl) (iR rfl (iR rfl p9)))) (AW.U3 rfl (nK.cons (AW.refl _) (nK.cons (AW.refl _) (nK.cons (AW.nl _) (nK.cons (AW.refl _) nK.nil))))) (gQ.nil _)) (fq [] [] (wh (bP.mk [(aA.mk (2 : Int) (1 : Int) (3 : Int) (ak.mk (1 : Int) (5 : UInt64) ([] : List UInt8)))] [(0 : Int)] ([] : List aI) (-1 : Int)) _ apd) rfl rfl rfl rfl rfl rfl rfl rfl)) (ww rfl) rfl rfl rfl afH rfl rfl rfl rfl rfl rfl rfl rfl (gw rfl (sM (k := 9) (ds := List.map eI [(0 : Int), (1 : Int)]) (off := 0) (l' := [(0 : Int), (1 : Int)].length) rfl bZ xH rfl rfl (by rfl) rfl rfl rfl) ?_))
        exact cq (args' := [.d ((eL 1 eI) r89), .slc 0 1 0 ([(0 : Int), (1 : Int)].length) none]) (lM := [.row 1 (List.map eI [(0 : Int), (1 : Int)]) true]) [9] [] (aO.mM (gQ.keep (gQ.mM (fF rfl rfl rfl) (gQ.nil _))) (fq [] [] (oJ r89 [(0 : Int), (1 : Int)] _ ad1) rfl rfl rfl rfl rfl rfl rfl rfl)) (ww rfl) rfl rfl rfl Ux rfl rfl rfl rfl rfl rfl rfl rfl (s1 (pkt rfl rfl) (sa rfl (SO.nil ((wc [] [] (by kernel_rfl) rfl (by kernel_rfl))))))
       ·have q := si h1; subst q
        exact kw rfl (kw rfl (kw rfl (kw rfl (s1 (dx rfl rfl) (sa rfl (SO.nil ((wc [] [] (by kernel_rfl) rfl (by kernel_rfl)))))))))
      ·have q := si h1; subst q
       refine kw rfl (kw rfl (kw rfl (kw rfl (s1 (dx rfl rfl) (sm rfl (kw rfl (kw rfl (kw rfl (kw rfl ?_)))))))))
       exact s1 (dx rfl rfl) (sa rfl (SO.nil ((wc [] [] (by kernel_rfl) rfl (by kernel_rfl)))))
     ·have q := si h1; subst q
      refine kw rfl (kw rfl (kw rfl (kw rfl (kw rfl (s1 (dx rfl rfl) (sm rfl (kw rfl (kw rfl (kw rfl ?_)))))))))
      refine kw rfl (s1 (dx rfl rfl) (sm rfl (kw rfl (kw rfl (kw rfl (kw rfl (s1 (dx rfl rfl) (sa rfl (SO.nil ?_)))))))))
      exact (wc [] [] (by kernel_rfl) rfl (by kernel_rfl))
    ·have q := si h1; subst q
     refine kw rfl (kw rfl (kw rfl (kw rfl (s1 (dx rfl rfl) (sm rfl (kw rfl (kw rfl (kw rfl (kw rfl ?_)))))))))
     refine kw rfl (s1 (dx rfl rfl) (sm rfl (kw rfl (kw rfl (kw rfl (kw rfl (s1 (dx rfl rfl) (sm rfl (kw rfl ?_)))))))))
     exact kw rfl (kw rfl (kw rfl (s1 (dx rfl rfl) (sa rfl (SO.nil ((wc [] [] (by kernel_rfl) rfl (by kernel_rfl))))))))
   ·have q := si h1; subst q
    refine kw rfl (kw rfl (kw rfl (kw rfl (kw rfl (s1 (dx rfl rfl) (sm rfl (kw rfl (kw rfl (kw rfl ?_)))))))))
    refine kw rfl (s1 (dx rfl rfl) (sm rfl (kw rfl (kw rfl (kw rfl (kw rfl (kw rfl (s1 (dx rfl rfl) (sm rfl ?_)))))))))
    refine kw rfl (kw rfl (kw rfl (kw rfl (s1 (dx rfl rfl) (sm rfl (kw rfl (kw rfl (kw rfl (kw rfl ?_)))))))))
    exact s1 (dx rfl rfl) (sa rfl (SO.nil ((wc [] [] (by kernel_rfl) rfl (by kernel_rfl)))))
  ·have q := si h1; subst q
   refine kw rfl (kw rfl (kw rfl (s1 (dx rfl rfl) (sm rfl (kw rfl (kw rfl (kw rfl (kw rfl (kw rfl ?_)))))))))
   refine s1 (dx rfl rfl) (sm rfl (kw rfl (kw rfl (kw rfl (kw rfl (s1 (dx rfl rfl) (sm rfl (kw rfl (kw rfl ?_)))))))))
   refine kw rfl (kw rfl (kw rfl (s1 (dx rfl rfl) (sm rfl (kw rfl (kw rfl (kw rfl (kw rfl (s1 (dx rfl rfl) ?_)))))))))
   exact sm rfl (kw rfl (kw rfl (kw rfl (kw rfl (s1 (dx rfl rfl) (sa rfl (SO.nil ((wc [] [] (by kernel_rfl) rfl (by kernel_rfl))))))))))
 ·rintro y77 h0
  have q := si h0; subst q
  exact SC.ret (bQ (Wk.refl _) (aZ rfl aX) rfl)
noncomputable def oh (p0 : List UInt8) : Option Bool :=
 Option.bind (α := Bool)
 (bif (decide ((p0.length : Int) < (1 : Int))) then
 some true
 else
 bif (decide ((p0.length : Int) > (16 : Int))) then
 some true
 else
 Option.bind (bG p0 (0 : Int)) fun agQ =>
 bif (decide (agQ < (97 : UInt8))) then
 some true
 else
 Option.bind (bG p0 (0 : Int)) fun agP =>
 some (decide ((122 : UInt8) < agP)))
 fun agr =>
 bif agr then
 some false
 else
 eu (Y := Unit) (E := Bool)
 (Option.bind (α := Unit ⊕ Bool)
 (loop (Y := Int) (W := Unit ⊕ Bool) (fun DC =>
 bif (decide (DC < (p0.length : Int))) then
 Option.bind (α := Bool)
 (Option.bind (bG p0 DC) fun agM =>
 bif (decide (agM < (97 : UInt8))) then
 Option.bind (bG p0 DC) fun agL =>
 bif (decide (agL < (48 : UInt8))) then
 Option.bind (bG p0 DC) fun agK =>
 some (agK != (95 : UInt8))
 else
 Option.bind (bG p0 DC) fun agJ =>
 bif (decide ((57 : UInt8) < agJ)) then
 Option.bind (bG p0 DC) fun agI =>
 some (agI != (95 : UInt8))
 else
 some false
 else
 Option.bind (bG p0 DC) fun agH =>
 bif (decide ((122 : UInt8) < agH)) then
 Option.bind (bG p0 DC) fun agG =>
 bif (decide (agG < (48 : UInt8))) then
 Option.bind (bG p0 DC) fun agF =>
 some (agF != (95 : UInt8))
 else
 Option.bind (bG p0 DC) fun agE =>
 bif (decide ((57 : UInt8) < agE)) then
 Option.bind (bG p0 DC) fun agD =>
 some (agD != (95 : UInt8))
 else
 some false
 else
 some false)
 fun agm =>
 bif agm then
 some (Sum.inr (Sum.inr false))
 else
 some (Sum.inl (bF (DC + (1 : Int))))
 else
 some (Sum.inr (Sum.inl ()))) (1 : Int))
 (Sum.elim (fun e => some (Sum.inl e)) (fun e => some (Sum.inr e))))
 (fun _ =>
 some true)
 (fun e => some e)
theorem vW (p0 : List UInt8) (r : Bool) (h0 : oh p0 = some r) : aO Tryz.prog 26 [.d (eS p0)] [] (.d (eB r)) [] := by
 unfold oh at h0
 refine fn0 [0] Tryz.func26 rfl rfl rfl rfl rfl ?_
 refine sr (sa rfl (sn (sq (SC.bV h0 (fun y => ⟨mk 56 [(0, .d (eS p0)), (21, .d (eB y))], []⟩) ?_ ?_))))
 ·intro aon h1
  refine SC.region (sm rfl (s1 (len rfl rfl rfl (ny uR)) (s1 (bi rfl rfl aJ) (sm rfl (sp h1 (fun h1 => ?_) (fun h1 => ?_))))))
  ·have q := si h1; subst q
   refine kw rfl (kw rfl (kw rfl (s1 (pkt rfl rfl) (sm rfl (kw rfl (kw rfl (kw rfl (s1 (pkt rfl rfl) (sm rfl ?_)))))))))
   exact kw rfl (kw rfl (kw rfl (s1 (pkt rfl rfl) (SO.nil ((wq rfl))))))
  ·refine gw rfl (mv rfl) (gw rfl (len rfl rfl rfl (ny uR)) (gw rfl (bi rfl rfl bM) (s1 (dx rfl rfl) (sm rfl (sp h1 (fun h1 => ?_) (fun h1 => ?_))))))
   ·have q := si h1; subst q
    refine kw rfl (kw rfl (kw rfl (s1 (pkt rfl rfl) (sm rfl (kw rfl (kw rfl (kw rfl (s1 (pkt rfl rfl) (SO.nil ?_)))))))))
    exact (wq rfl)
   ·obtain ⟨agQ, acG, h1⟩ := ob h1
    refine gw rfl (mv rfl) (gw rfl (ixs rfl rfl rfl rfl (lH uR (aj acG).1 (aj acG).2)) (gw rfl (bi rfl rfl (Ai (b := (97 : UInt8)))) (s1 (dx rfl rfl) (sm rfl (sp h1 (fun h1 => ?_) (fun h1 => ?_))))))
    ·have q := si h1; subst q
     exact kw rfl (kw rfl (kw rfl (s1 (pkt rfl rfl) (SO.nil ((wq rfl))))))
    ·obtain ⟨agP, acF, h1⟩ := ob h1; have q := si h1; subst q
     exact gw rfl (mv rfl) (gw rfl (ixs rfl rfl rfl rfl (lH uR (aj acF).1 (aj acF).2)) (gw rfl (bi rfl rfl (Eb (b := (122 : UInt8)))) (s1 (dx rfl rfl) (SO.nil ((wq rfl))))))
 ·rintro agr h0
  refine cB h0 rfl (fun h0 => ?_) (fun h0 => ?_)
  ·have q := si h0; subst q
   exact sr (sa rfl (sn (SC.ret (bQ (Wk.refl _) (aZ rfl aX) rfl))))
  ·refine sk (SC.seqB h0 (fun y => ⟨mk 56 [], []⟩) ?_ ?_)
   ·intro adB h1 h0
    obtain ⟨anJ, h2, h1⟩ := ob h1
    refine sr (sa rfl (sn (SC.blk (SC.dL h2 (fun y => ⟨mk 56 [(0, .d (eS p0)), (3, .d (eI y))], []⟩) (wq rfl) ?_))))
    intro arI
    rintro DC amg h3 hv3
    refine sq (sr (sm rfl (sm rfl (s1 (len rfl rfl rfl (ny uR)) (s1 (bi rfl rfl aJ) (sn (cB h3 rfl (fun h3 => ?_) (fun h3 => ?_))))))))
    ·refine sk (sq (SC.blk (SC.bV h3 (fun y => ⟨mk 56 [(0, .d (eS p0)), (3, .d (eI DC)), (55, .d (eB y))], []⟩) ?_ ?_)))
     ·intro ani h4
      obtain ⟨agM, acz, h4⟩ := ob h4
      refine SC.region (sm rfl (sm rfl (s1 (ixs rfl rfl rfl rfl (lH uR (aj acz).1 (aj acz).2)) (s1 (bi rfl rfl (Ai (b := (97 : UInt8)))) (sm rfl (sp h4 (fun h4 => ?_) (fun h4 => ?_)))))))
      ·obtain ⟨agL, acy, h4⟩ := ob h4
       refine kw rfl (kw rfl (kw rfl (kw rfl (s1 (pkt rfl rfl) (sm rfl (gw rfl (mv rfl) (gw rfl (mv rfl) (gw rfl (ixs rfl rfl rfl rfl (lH uR (aj acy).1 (aj acy).2)) (gw rfl (bi rfl rfl (Ai (b := (48 : UInt8)))) ?_)))))))))
       refine gw rfl (mv rfl) (sp h4 (fun h4 => ?_) (fun h4 => ?_))
       ·obtain ⟨agK, acw, h4⟩ := ob h4; have q := si h4; subst q
        refine kw rfl (kw rfl (kw rfl (kw rfl (gw rfl (pkt rfl rfl) (s1 (pkt rfl rfl) (sm rfl (gw rfl (mv rfl) (gw rfl (mv rfl) (gw rfl (ixs rfl rfl rfl rfl (lH uR (aj acw).1 (aj acw).2)) ?_)))))))))
        exact gw rfl (bi rfl rfl (Ea (b := (95 : UInt8)))) (s1 (pkt rfl rfl) (SO.nil ((wq rfl))))
       ·obtain ⟨agJ, acv, h4⟩ := ob h4
        refine gw rfl (mv rfl) (gw rfl (mv rfl) (gw rfl (ixs rfl rfl rfl rfl (lH uR (aj acv).1 (aj acv).2)) (gw rfl (bi rfl rfl (Eb (b := (57 : UInt8)))) (gw rfl (dx rfl rfl) (s1 (pkt rfl rfl) (sm rfl (sp h4 (fun h4 => ?_) (fun h4 => ?_))))))))
        ·obtain ⟨agI, acu, h4⟩ := ob h4; have q := si h4; subst q
         exact gw rfl (mv rfl) (gw rfl (mv rfl) (gw rfl (ixs rfl rfl rfl rfl (lH uR (aj acu).1 (aj acu).2)) (gw rfl (bi rfl rfl (Ea (b := (95 : UInt8)))) (s1 (pkt rfl rfl) (SO.nil ((wq rfl)))))))
        ·have q := si h4; subst q
         exact kw rfl (kw rfl (kw rfl (kw rfl (s1 (dx rfl rfl) (SO.nil ((wq rfl)))))))
      ·obtain ⟨agH, acs, h4⟩ := ob h4
       refine gw rfl (mv rfl) (gw rfl (mv rfl) (gw rfl (ixs rfl rfl rfl rfl (lH uR (aj acs).1 (aj acs).2)) (gw rfl (bi rfl rfl (Eb (b := (122 : UInt8)))) (s1 (dx rfl rfl) (sm rfl (sp h4 (fun h4 => ?_) (fun h4 => ?_)))))))
       ·obtain ⟨agG, acr, h4⟩ := ob h4
        refine gw rfl (mv rfl) (gw rfl (mv rfl) (gw rfl (ixs rfl rfl rfl rfl (lH uR (aj acr).1 (aj acr).2)) (gw rfl (bi rfl rfl (Ai (b := (48 : UInt8)))) (gw rfl (mv rfl) (sp h4 (fun h4 => ?_) (fun h4 => ?_))))))
        ·obtain ⟨agF, acp, h4⟩ := ob h4; have q := si h4; subst q
         refine kw rfl (kw rfl (kw rfl (kw rfl (gw rfl (pkt rfl rfl) (s1 (pkt rfl rfl) (sm rfl (gw rfl (mv rfl) (gw rfl (mv rfl) (gw rfl (ixs rfl rfl rfl rfl (lH uR (aj acp).1 (aj acp).2)) ?_)))))))))
         exact gw rfl (bi rfl rfl (Ea (b := (95 : UInt8)))) (s1 (pkt rfl rfl) (SO.nil ((wq rfl))))
        ·obtain ⟨agE, aco, h4⟩ := ob h4
         refine gw rfl (mv rfl) (gw rfl (mv rfl) (gw rfl (ixs rfl rfl rfl rfl (lH uR (aj aco).1 (aj aco).2)) (gw rfl (bi rfl rfl (Eb (b := (57 : UInt8)))) (gw rfl (dx rfl rfl) (s1 (pkt rfl rfl) (sm rfl (sp h4 (fun h4 => ?_) (fun h4 => ?_))))))))
         ·obtain ⟨agD, acn, h4⟩ := ob h4; have q := si h4; subst q
          exact gw rfl (mv rfl) (gw rfl (mv rfl) (gw rfl (ixs rfl rfl rfl rfl (lH uR (aj acn).1 (aj acn).2)) (gw rfl (bi rfl rfl (Ea (b := (95 : UInt8)))) (s1 (pkt rfl rfl) (SO.nil ((wq rfl)))))))
         ·have q := si h4; subst q
          exact kw rfl (kw rfl (kw rfl (kw rfl (s1 (dx rfl rfl) (SO.nil ((wq rfl)))))))
       ·have q := si h4; subst q
        refine kw rfl (kw rfl (kw rfl (kw rfl (kw rfl (kw rfl (kw rfl (kw rfl (kw rfl (kw rfl ?_)))))))))
        exact s1 (dx rfl rfl) (sm rfl (kw rfl (kw rfl (kw rfl (kw rfl (s1 (dx rfl rfl) (SO.nil ((wq rfl)))))))))
     ·rintro agm h3
      refine cB h3 rfl (fun h3 => ?_) (fun h3 => ?_)
      ·have q := si h3; subst q; have q : _ = _ := hv3; subst q; have q := si h1; subst q; have q := si h0; subst q
       exact sr (sa rfl (sn (SC.ret (bQ (Wk.refl _) (aZ rfl aX) rfl))))
      ·refine SC.skip ?_
       change SC _ _ _ _ _
       have q := si h3; subst q
       exact SC.region (sm rfl (s1 (bi rfl rfl aT) (sa rfl (SO.nil (lf (wq rfl))))))
    ·have q := si h3; subst q; have q : _ = _ := hv3; subst q; have q := si h1; subst q
     exact SC.exit (lf (wq rfl))
   ·intro _ h0
    have q := si h0; subst q
    exact sr (sa rfl (sn (SC.ret (bQ (Wk.refl _) (aZ rfl aX) rfl))))
end Lv
