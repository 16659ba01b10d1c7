/- Part of the proof of a law: functions and their walks. -/
import Derived.Test.YtjnpmmiacggffaaGreatDoorXFn2
namespace Lv
open Go Go.Proofs
set_option linter.unusedVariables false
set_option linter.unusedSimpArgs false
set_option linter.unusedSectionVars false
set_option maxRecDepth 100000
variable [bJ] [uO]
noncomputable def rH (p0 : List aB) (p1 : List bq) : Option Int :=
 bif (decide ((p1.length : Int) > (200 : Int))) then
 some (7 : Int)
 else
 eu (Y := (List Int)) (E := Int)
 (Option.bind (α := ((List Int)) ⊕ Int)
 (loop (Y := (List Int) × Int) (W := ((List Int)) ⊕ Int) (fun (gu, zJ) =>
 bif (decide (zJ < (p1.length : Int))) then
 eu (Y := (List Int)) (E := Int)
 (Option.bind (bG p1 zJ) fun bR =>
 Option.bind (α := Bool)
 (bif (bR.Kind == (2 : Int)) then
 some true
 else
 some (bR.Kind == (3 : Int)))
 fun RV =>
 Option.bind (α := Bool)
 (bif (decide (bR.Kind < (1 : Int))) then
 some true
 else
 bif (decide (bR.Kind > (6 : Int))) then
 some true
 else
 bif RV then
 bif (decide (bR.Col < (0 : Int))) then
 some true
 else
 bif (decide (bR.Col ≥ (p0.length : Int))) then
 some true
 else
 bif (!RV) then
 bif (bR.Col != (0 : Int)) then
 some true
 else
 bif (bR.Kind == (2 : Int)) then
 bif (decide (bR.Op < (1 : Int))) then
 some true
 else
 bif (decide (bR.Op > (6 : Int))) then
 some true
 else
 bif (bR.Kind != (2 : Int)) then
 bif (bR.Op != (0 : Int)) then
 some true
 else
 bif (!(dw bR.Val (ak.mk (0 : Int) (0 : UInt64) ([] : List UInt8)))) then
 some true
 else
 Option.bind (dO bR.Kind) fun abE =>
 some (decide (abE > (gu.length : Int)))
 else
 Option.bind (dO bR.Kind) fun abD =>
 some (decide (abD > (gu.length : Int)))
 else
 bif (bR.Kind != (2 : Int)) then
 bif (bR.Op != (0 : Int)) then
 some true
 else
 bif (!(dw bR.Val (ak.mk (0 : Int) (0 : UInt64) ([] : List UInt8)))) then
 some true
 else
 Option.bind (dO bR.Kind) fun abC =>
 some (decide (abC > (gu.length : Int)))
 else
 Option.bind (dO bR.Kind) fun abB =>
 some (decide (abB > (gu.length : Int)))
 else
 bif (bR.Kind == (2 : Int)) then
 bif (decide (bR.Op < (1 : Int))) then
 some true
 else
 bif (decide (bR.Op > (6 : Int))) then
 some true
 else
 bif (bR.Kind != (2 : Int)) then
 bif (bR.Op != (0 : Int)) then
 some true
 else
 bif (!(dw bR.Val (ak.mk (0 : Int) (0 : UInt64) ([] : List UInt8)))) then
 some true
 else
 Option.bind (dO bR.Kind) fun abA =>
 some (decide (abA > (gu.length : Int)))
 else
 Option.bind (dO bR.Kind) fun abz =>
 some (decide (abz > (gu.length : Int)))
 else
 bif (bR.Kind != (2 : Int)) then
 bif (bR.Op != (0 : Int)) then
 some true
 else
 bif (!(dw bR.Val (ak.mk (0 : Int) (0 : UInt64) ([] : List UInt8)))) then
 some true
 else
 Option.bind (dO bR.Kind) fun aby =>
 some (decide (aby > (gu.length : Int)))
 else
 Option.bind (dO bR.Kind) fun abx =>
 some (decide (abx > (gu.length : Int)))
 else
 bif (!RV) then
 bif (bR.Col != (0 : Int)) then
 some true
 else
 bif (bR.Kind == (2 : Int)) then
 bif (decide (bR.Op < (1 : Int))) then
 some true
 else
 bif (decide (bR.Op > (6 : Int))) then
 some true
 else
 bif (bR.Kind != (2 : Int)) then
 bif (bR.Op != (0 : Int)) then
 some true
 else
 bif (!(dw bR.Val (ak.mk (0 : Int) (0 : UInt64) ([] : List UInt8)))) then
 some true
 else
 Option.bind (dO bR.Kind) fun abw =>
 some (decide (abw > (gu.length : Int)))
 else
 Option.bind (dO bR.Kind) fun abv =>
 some (decide (abv > (gu.length : Int)))
 else
 bif (bR.Kind != (2 : Int)) then
 bif (bR.Op != (0 : Int)) then
 some true
 else
 bif (!(dw bR.Val (ak.mk (0 : Int) (0 : UInt64) ([] : List UInt8)))) then
 some true
 else
 Option.bind (dO bR.Kind) fun abu =>
 some (decide (abu > (gu.length : Int)))
 else
 Option.bind (dO bR.Kind) fun abt =>
 some (decide (abt > (gu.length : Int)))
 else
 bif (bR.Kind == (2 : Int)) then
 bif (decide (bR.Op < (1 : Int))) then
 some true
 else
 bif (decide (bR.Op > (6 : Int))) then
 some true
 else
 bif (bR.Kind != (2 : Int)) then
 bif (bR.Op != (0 : Int)) then
 some true
 else
 bif (!(dw bR.Val (ak.mk (0 : Int) (0 : UInt64) ([] : List UInt8)))) then
 some true
 else
 Option.bind (dO bR.Kind) fun abr =>
 some (decide (abr > (gu.length : Int)))
 else
 Option.bind (dO bR.Kind) fun abq =>
 some (decide (abq > (gu.length : Int)))
 else
 bif (bR.Kind != (2 : Int)) then
 bif (bR.Op != (0 : Int)) then
 some true
 else
 bif (!(dw bR.Val (ak.mk (0 : Int) (0 : UInt64) ([] : List UInt8)))) then
 some true
 else
 Option.bind (dO bR.Kind) fun abp =>
 some (decide (abp > (gu.length : Int)))
 else
 Option.bind (dO bR.Kind) fun abo =>
 some (decide (abo > (gu.length : Int))))
 fun aap =>
 bif aap then
 some (Sum.inr (1 : Int))
 else
 Option.bind (α := Bool)
 (bif (bR.Kind == (2 : Int)) then
 Option.bind (j5 bR.Val) fun abn =>
 bif (!abn) then
 some true
 else
 bif (bR.Val.Kind == (0 : Int)) then
 some true
 else
 Option.bind (bG p0 bR.Col) fun aaV =>
 some (bR.Val.Kind != aaV.Kind)
 else
 some false)
 fun aao =>
 bif aao then
 some (Sum.inr (8 : Int))
 else
 Option.bind (α := Int)
 (Option.bind (dO bR.Kind) fun abm =>
 Option.bind (α := Int)
 (loop (Y := Int × Int) (W := Int) (fun (RU, Ll) =>
 bif (decide (Ll < (gu.length : Int))) then
 Option.bind (α := Int)
 (Option.bind (bG gu Ll) fun aaU =>
 bif (decide (aaU > RU)) then
 Option.bind (bG gu Ll) fun aaT =>
 some aaT
 else
 some RU)
 fun aan =>
 some (Sum.inl (aan, (bF (Ll + (1 : Int)))))
 else
 some (Sum.inr RU)) ((0 : Int), (bF ((gu.length : Int) - abm))))
 (fun e => some e))
 fun Lm =>
 Option.bind (dO bR.Kind) fun LG =>
 bif decide (0 ≤ (bF ((gu.length : Int) - LG)) ∧ (bF ((gu.length : Int) - LG)) ≤ (gu.length : Int)) then
 bif decide (0 + ((bF ((gu.length : Int) - LG)).toNat) ≤ gu.length) then
 bif decide ((((bF ((gu.length : Int) - LG)).toNat) + [(bF (Lm + (1 : Int)))].length) * 8 ≤ room) then
 some (Sum.inl (List.take ((bF ((gu.length : Int) - LG)).toNat) (List.drop 0 gu) ++ [(bF (Lm + (1 : Int)))]))
 else none
 else none
 else none)
 (fun aaq =>
 some (Sum.inl (aaq, (bF (zJ + (1 : Int))))))
 (fun e => some (Sum.inr (Sum.inr e)))
 else
 some (Sum.inr (Sum.inl gu))) (([] : List Int), (0 : Int)))
 (Sum.elim (fun e => some (Sum.inl e)) (fun e => some (Sum.inr e))))
 (fun Vk =>
 bif ((Vk.length : Int) != (1 : Int)) then
 some (1 : Int)
 else
 Option.bind (bG Vk (0 : Int)) fun aaS =>
 bif (decide (aaS > (24 : Int))) then
 some (7 : Int)
 else
 some (0 : Int))
 (fun e => some e)
theorem IQ (p0 : List aB) (p1 : List bq) (r : Int) (h0 : rH p0 p1 = some r) : aO Tryz.prog 39 [.d ((eL 7 bI) p0), .d ((eL 6 au) p1)] [] (.d (eI r)) [] := by
 unfold rH at h0
 refine fn0 [0, 1] Tryz.func39 rfl rfl rfl rfl rfl ?_
 refine sr (sa rfl (sn (sq (sr (sm rfl (s1 (len rfl rfl rfl (bC vQ)) (s1 (bi rfl rfl bM) (sn (cB h0 rfl (fun h0 => ?_) (fun h0 => ?_))))))))))
 ·have q := si h0; subst q
  exact sr (sa rfl (sn (SC.ret (bQ (Wk.refl _) (aZ rfl aX) rfl))))
 ·refine sk (sr (s1 (lX (v := .d .dn) rfl) (sn (SC.seqB h0 (fun y => ⟨mk 171 [(5, .slc 0 1 0 y.length none)], [.row 1 (List.map eI y) true]⟩) ?_ ?_))))
  ·intro alP h1 h0
   obtain ⟨alB, h2, h1⟩ := ob h1
   refine sr (sa rfl (sn (SC.blk (SC.dL h2 (fun y => ⟨mk 171 [(0, .d ((eL 7 bI) p0)), (1, .d ((eL 6 au) p1)), (5, .slc 0 1 0 y.1.length none), (6, .d (eI y.2))], [.row 1 (List.map eI y.1) true]⟩) (Wk.trans (Wk.mo (σ' := [.row 1 (List.map eI ([] : List Int)) true]) (.row 1 [] true) (fun _ hh => by cases hh) rfl) (Wk.trans (Wk.env (e' := [(0, .d ((eL 7 bI) p0)), (1, .d ((eL 6 au) p1)), (5, .slc 0 1 0 (([] : List Int).length) none), (6, .d (eI (0 : Int)))]) (EW.cons (AW.refl _) (EW.cons (AW.refl _) (EW.cons (AW.mg _ _ _) (EW.cons (AW.refl _) EW.nil))))) (wq rfl))) ?_))))
   intro aq4
   rintro ⟨gu, zJ⟩ akG h3 hv3
   refine sq (sr (sm rfl (sm rfl (s1 (len rfl rfl rfl (bC vQ)) (s1 (bi rfl rfl aJ) (sn (cB h3 rfl (fun h3 => ?_) (fun h3 => ?_))))))))
   ·refine sk (SC.seqB h3 (fun y => ⟨mk 171 [(0, .d ((eL 7 bI) p0)), (1, .d ((eL 6 au) p1)), (5, .slc 0 1 0 y.length none), (6, .d (eI zJ))], [.row 1 (List.map eI y) true]⟩) ?_ ?_)
    ·intro alp h4 h3
     obtain ⟨bR, WM, h4⟩ := ob h4
     refine SC.blk (sr (sm rfl (sm rfl (s1 (jo rfl rfl vQ zR (aj WM).1 (aY (aj WM).2) rfl) (s1 (bg (v := .d (au bR)) rfl (bN zR adD rfl)) (s1 (yT (k := 1) adh rfl) (s0 (jP rfl rfl (sB (d' := .d (au bR)) zR rfl rfl rfl rfl rfl rfl rfl)) (sn (SC.bV h4 (fun y => ⟨mk 171 [(0, .d ((eL 7 bI) p0)), (1, .d ((eL 6 au) p1)), (5, .slc 0 1 0 gu.length none), (6, .d (eI zJ)), (7, .ref 1 0 0), (8, .d (eB y))], [.row 1 (List.map eI gu) true, .box (.d (au bR))]⟩) ?_ ?_)))))))))
     ·intro ak5 h5
      refine SC.region (s1 (far (k := 0) rfl eF bD rfl) (s1 (bg rfl (ah bD dH rfl rfl)) (s1 (bi rfl rfl aM) (sm rfl (sp h5 (fun h5 => ?_) (fun h5 => ?_))))))
      ·have q := si h5; subst q
       exact kw rfl (kw rfl (kw rfl (s1 (pkt rfl rfl) (sa rfl (SO.nil ((wq rfl)))))))
      ·have q := si h5; subst q
       exact gw rfl (far (k := 0) rfl eF bD rfl) (gw rfl (bg rfl (ah bD dH rfl rfl)) (gw rfl (bi rfl rfl aM) (s1 (dx rfl rfl) (sa rfl (SO.nil ((wq rfl)))))))
     ·rintro RV h4
      refine sq (SC.bV h4 (fun y => ⟨mk 171 [(0, .d ((eL 7 bI) p0)), (1, .d ((eL 6 au) p1)), (5, .slc 0 1 0 gu.length none), (6, .d (eI zJ)), (7, .ref 1 0 0), (102, .d (eB y))], [.row 1 (List.map eI gu) true, .box (.d (au bR))]⟩) ?_ ?_)
      ·intro ak4 h5
       refine SC.region (s1 (far (k := 0) rfl eF bD rfl) (s1 (bg rfl (ah bD dH rfl rfl)) (s1 (bi rfl rfl aJ) (sm rfl (sp h5 (fun h5 => ?_) (fun h5 => ?_))))))
       ·have q := si h5; subst q
        refine kw rfl (kw rfl (kw rfl (s1 (pkt rfl rfl) (sm rfl (kw rfl (kw rfl (kw rfl (kw rfl (kw rfl ?_)))))))))
        refine kw rfl (kw rfl (kw rfl (kw rfl (kw rfl (kw rfl (kw rfl (kw rfl (s1 (pkt rfl rfl) (sm rfl ?_)))))))))
        refine kw rfl (kw rfl (kw rfl (kw rfl (kw rfl (kw rfl (kw rfl (s1 (pkt rfl rfl) (sm rfl (kw rfl ?_)))))))))
        refine kw rfl (kw rfl (kw rfl (kw rfl (kw rfl (kw rfl (kw rfl (kw rfl (kw rfl (kw rfl ?_)))))))))
        refine kw rfl (kw rfl (s1 (pkt rfl rfl) (sm rfl (kw rfl (kw rfl (kw rfl (kw rfl (kw rfl (kw rfl ?_)))))))))
        refine kw rfl (kw rfl (kw rfl (kw rfl (kw rfl (kw rfl (kw rfl (kw rfl (s1 (pkt rfl rfl) (sm rfl ?_)))))))))
        exact kw rfl (kw rfl (kw rfl (kw rfl (kw rfl (kw rfl (s1 (pkt rfl rfl) (SO.nil ((wq rfl)))))))))
       ·refine gw rfl (far (k := 0) rfl eF bD rfl) (gw rfl (bg rfl (ah bD dH rfl rfl)) (gw rfl (bi rfl rfl bM) (s1 (dx rfl rfl) (sm rfl (sp h5 (fun h5 => ?_) (fun h5 => ?_))))))
        ·have q := si h5; subst q
         refine kw rfl (kw rfl (kw rfl (kw rfl (kw rfl (kw rfl (kw rfl (kw rfl (kw rfl (kw rfl ?_)))))))))
         refine kw rfl (kw rfl (kw rfl (s1 (pkt rfl rfl) (sm rfl (kw rfl (kw rfl (kw rfl (kw rfl (kw rfl ?_)))))))))
         refine kw rfl (kw rfl (s1 (pkt rfl rfl) (sm rfl (kw rfl (kw rfl (kw rfl (kw rfl (kw rfl (kw rfl ?_)))))))))
         refine kw rfl (kw rfl (kw rfl (kw rfl (kw rfl (kw rfl (kw rfl (s1 (pkt rfl rfl) (sm rfl (kw rfl ?_)))))))))
         refine kw rfl (kw rfl (kw rfl (kw rfl (kw rfl (kw rfl (kw rfl (kw rfl (kw rfl (kw rfl ?_)))))))))
         refine kw rfl (kw rfl (kw rfl (s1 (pkt rfl rfl) (sm rfl (kw rfl (kw rfl (kw rfl (kw rfl (kw rfl ?_)))))))))
         exact kw rfl (s1 (pkt rfl rfl) (SO.nil ((wq rfl))))
        ·refine gw rfl (mv rfl) (gw rfl (mv rfl) (sp h5 (fun h5 => ?_) (fun h5 => ?_)))
         ·refine gw rfl (far (k := 1) rfl yH bD rfl) (gw rfl (bg rfl (ah bD dH rfl rfl)) (gw rfl (bi rfl rfl aJ) (gw rfl (mv rfl) (sp h5 (fun h5 => ?_) (fun h5 => ?_)))))
          ·have q := si h5; subst q
           refine kw rfl (kw rfl (kw rfl (kw rfl (kw rfl (gw rfl (pkt rfl rfl) (gw rfl (pkt rfl rfl) (s1 (dx rfl rfl) (sm rfl (kw rfl ?_)))))))))
           refine kw rfl (kw rfl (kw rfl (kw rfl (kw rfl (kw rfl (s1 (pkt rfl rfl) (sm rfl (kw rfl (kw rfl ?_)))))))))
           refine kw rfl (kw rfl (kw rfl (kw rfl (kw rfl (kw rfl (kw rfl (kw rfl (kw rfl (kw rfl ?_)))))))))
           refine kw rfl (s1 (pkt rfl rfl) (sm rfl (kw rfl (kw rfl (kw rfl (kw rfl (kw rfl (kw rfl (kw rfl ?_)))))))))
           refine kw rfl (kw rfl (kw rfl (kw rfl (kw rfl (kw rfl (kw rfl (s1 (pkt rfl rfl) (sm rfl (kw rfl ?_)))))))))
           exact kw rfl (kw rfl (kw rfl (kw rfl (kw rfl (s1 (pkt rfl rfl) (SO.nil ((wq rfl))))))))
          ·refine gw rfl (far (k := 1) rfl yH bD rfl) (gw rfl (bg rfl (ah bD dH rfl rfl)) (gw rfl (mv rfl) (gw rfl (len rfl rfl rfl (bC qp)) (gw rfl (bi rfl rfl dW) (gw rfl (dx rfl rfl) (gw rfl (pkt rfl rfl) (s1 (dx rfl rfl) (sm rfl (sp h5 (fun h5 => ?_) (fun h5 => ?_))))))))))
           ·have q := si h5; subst q
            refine kw rfl (kw rfl (kw rfl (kw rfl (kw rfl (kw rfl (kw rfl (s1 (pkt rfl rfl) (sm rfl (kw rfl ?_)))))))))
            refine kw rfl (kw rfl (kw rfl (kw rfl (kw rfl (kw rfl (kw rfl (kw rfl (kw rfl (kw rfl ?_)))))))))
            refine kw rfl (kw rfl (s1 (pkt rfl rfl) (sm rfl (kw rfl (kw rfl (kw rfl (kw rfl (kw rfl (kw rfl ?_)))))))))
            refine kw rfl (kw rfl (kw rfl (kw rfl (kw rfl (kw rfl (kw rfl (kw rfl (s1 (pkt rfl rfl) (sm rfl ?_)))))))))
            exact kw rfl (kw rfl (kw rfl (kw rfl (kw rfl (kw rfl (s1 (pkt rfl rfl) (SO.nil ((wq rfl)))))))))
           ·refine gw rfl (mv rfl) (gw rfl (nt rfl) (gw rfl (mv rfl) (sp h5 (fun h5 => ?_) (fun h5 => ?_))))
            ·refine gw rfl (far (k := 1) rfl yH bD rfl) (gw rfl (bg rfl (ah bD dH rfl rfl)) (gw rfl (bi rfl rfl bS) (gw rfl (pkt rfl rfl) (s1 (dx rfl rfl) (sm rfl (sp h5 (fun h5 => ?_) (fun h5 => ?_)))))))
             ·have q := si h5; subst q
              refine kw rfl (kw rfl (kw rfl (kw rfl (kw rfl (kw rfl (kw rfl (kw rfl (kw rfl (kw rfl ?_)))))))))
              refine kw rfl (kw rfl (kw rfl (s1 (pkt rfl rfl) (sm rfl (kw rfl (kw rfl (kw rfl (kw rfl (kw rfl ?_)))))))))
              refine kw rfl (kw rfl (kw rfl (kw rfl (kw rfl (kw rfl (kw rfl (kw rfl (kw rfl (s1 (pkt rfl rfl) ?_)))))))))
              exact sm rfl (kw rfl (kw rfl (kw rfl (kw rfl (kw rfl (kw rfl (s1 (pkt rfl rfl) (SO.nil ((wq rfl))))))))))
             ·refine gw rfl (far (k := 0) rfl eF bD rfl) (gw rfl (bg rfl (ah bD dH rfl rfl)) (gw rfl (bi rfl rfl aM) (gw rfl (mv rfl) (sp h5 (fun h5 => ?_) (fun h5 => ?_)))))
              ·refine gw rfl (far (k := 2) rfl jv bD rfl) (gw rfl (bg rfl (ah bD dH rfl rfl)) (gw rfl (bi rfl rfl aJ) (gw rfl (mv rfl) (sp h5 (fun h5 => ?_) (fun h5 => ?_)))))
               ·have q := si h5; subst q
                refine kw rfl (kw rfl (kw rfl (gw rfl (pkt rfl rfl) (gw rfl (pkt rfl rfl) (s1 (dx rfl rfl) (sm rfl (kw rfl (kw rfl (kw rfl ?_)))))))))
                refine kw rfl (kw rfl (kw rfl (kw rfl (kw rfl (kw rfl (kw rfl (kw rfl (kw rfl (kw rfl ?_)))))))))
                refine kw rfl (s1 (pkt rfl rfl) (sm rfl (kw rfl (kw rfl (kw rfl (kw rfl (kw rfl (kw rfl (s1 (pkt rfl rfl) ?_)))))))))
                exact SO.nil ((wq rfl))
               ·refine gw rfl (far (k := 2) rfl jv bD rfl) (gw rfl (bg rfl (ah bD dH rfl rfl)) (gw rfl (bi rfl rfl bM) (gw rfl (dx rfl rfl) (gw rfl (pkt rfl rfl) (s1 (dx rfl rfl) (sm rfl (sp h5 (fun h5 => ?_) (fun h5 => ?_))))))))
                ·have q := si h5; subst q
                 refine kw rfl (kw rfl (kw rfl (kw rfl (kw rfl (kw rfl (kw rfl (kw rfl (kw rfl (kw rfl ?_)))))))))
                 refine kw rfl (kw rfl (kw rfl (kw rfl (s1 (pkt rfl rfl) (sm rfl (kw rfl (kw rfl (kw rfl (kw rfl ?_)))))))))
                 exact kw rfl (kw rfl (s1 (pkt rfl rfl) (SO.nil ((wq rfl)))))
                ·refine gw rfl (far (k := 0) rfl eF bD rfl) (gw rfl (bg rfl (ah bD dH rfl rfl)) (gw rfl (bi rfl rfl bS) (gw rfl (mv rfl) (sp h5 (fun h5 => ?_) (fun h5 => ?_)))))
                 ·refine gw rfl (far (k := 2) rfl jv bD rfl) (gw rfl (bg rfl (ah bD dH rfl rfl)) (gw rfl (bi rfl rfl bS) (gw rfl (mv rfl) (sp h5 (fun h5 => ?_) (fun h5 => ?_)))))
                  ·have q := si h5; subst q
                   refine kw rfl (kw rfl (kw rfl (kw rfl (gw rfl (pkt rfl rfl) (gw rfl (pkt rfl rfl) (s1 (dx rfl rfl) (sm rfl (kw rfl (kw rfl ?_)))))))))
                   exact kw rfl (kw rfl (kw rfl (kw rfl (s1 (pkt rfl rfl) (SO.nil ((wq rfl)))))))
                  ·refine gw rfl (far (k := 3) rfl qF iC rfl) (gw rfl (bg (v := .d (bA bR.Val)) rfl (ah iC o8 rfl rfl)) (gw rfl (xI rfl (Cx )) (gw rfl (bi (v := .d (eB (!(dw bR.Val (ak.mk (0 : Int) (0 : UInt64) ([] : List UInt8)))))) rfl rfl (fun X Y => fZ X Y bR.Val (ak.mk (0 : Int) (0 : UInt64) ([] : List UInt8)))) (gw rfl (dx rfl rfl) (gw rfl (pkt rfl rfl) (s1 (dx rfl rfl) (sm rfl (sp h5 (fun h5 => ?_) (fun h5 => ?_)))))))))
                   ·have q := si h5; subst q
                    exact kw rfl (kw rfl (kw rfl (kw rfl (kw rfl (kw rfl (s1 (pkt rfl rfl) (SO.nil ((wq rfl)))))))))
                   ·obtain ⟨abE, ael, h5⟩ := ob h5; have q := si h5; subst q
                    exact gw rfl (far (k := 0) rfl eF bD rfl) (gw rfl (bg rfl (ah bD dH rfl rfl)) (c0 (dG bR.Kind _ ael) (ww rfl) rfl rfl rfl yO rfl (fun _ => rfl) (fun _ => rfl) (gw rfl (mv rfl) (gw rfl (len rfl rfl rfl (dP bZ)) (gw rfl (bi rfl rfl bM) (s1 (dx rfl rfl) (SO.nil ((wq rfl)))))))))
                 ·obtain ⟨abD, aek, h5⟩ := ob h5; have q := si h5; subst q
                  refine kw rfl (kw rfl (kw rfl (kw rfl (kw rfl (kw rfl (kw rfl (kw rfl (kw rfl (gw rfl (dx rfl rfl) ?_)))))))))
                  refine s1 (dx rfl rfl) (sm rfl (gw rfl (far (k := 0) rfl eF bD rfl) (gw rfl (bg rfl (ah bD dH rfl rfl)) (c0 (dG bR.Kind _ aek) (ww rfl) rfl rfl rfl yO rfl (fun _ => rfl) (fun _ => rfl) (gw rfl (mv rfl) (gw rfl (len rfl rfl rfl (dP bZ)) (gw rfl (bi rfl rfl bM) (s1 (dx rfl rfl) (SO.nil ?_)))))))))
                  exact (wq rfl)
              ·refine kw rfl (kw rfl (kw rfl (kw rfl (kw rfl (kw rfl (kw rfl (kw rfl (gw rfl (dx rfl rfl) (s1 (dx rfl rfl) ?_)))))))))
               refine sm rfl (gw rfl (far (k := 0) rfl eF bD rfl) (gw rfl (bg rfl (ah bD dH rfl rfl)) (gw rfl (bi rfl rfl bS) (gw rfl (mv rfl) (sp h5 (fun h5 => ?_) (fun h5 => ?_))))))
               ·refine gw rfl (far (k := 2) rfl jv bD rfl) (gw rfl (bg rfl (ah bD dH rfl rfl)) (gw rfl (bi rfl rfl bS) (gw rfl (mv rfl) (sp h5 (fun h5 => ?_) (fun h5 => ?_)))))
                ·have q := si h5; subst q
                 refine kw rfl (kw rfl (kw rfl (kw rfl (gw rfl (pkt rfl rfl) (gw rfl (pkt rfl rfl) (s1 (dx rfl rfl) (sm rfl (kw rfl (kw rfl ?_)))))))))
                 exact kw rfl (kw rfl (kw rfl (kw rfl (s1 (pkt rfl rfl) (SO.nil ((wq rfl)))))))
                ·refine gw rfl (far (k := 3) rfl qF iC rfl) (gw rfl (bg (v := .d (bA bR.Val)) rfl (ah iC o8 rfl rfl)) (gw rfl (xI rfl (Cx )) (gw rfl (bi (v := .d (eB (!(dw bR.Val (ak.mk (0 : Int) (0 : UInt64) ([] : List UInt8)))))) rfl rfl (fun X Y => fZ X Y bR.Val (ak.mk (0 : Int) (0 : UInt64) ([] : List UInt8)))) (gw rfl (dx rfl rfl) (gw rfl (pkt rfl rfl) (s1 (dx rfl rfl) (sm rfl (sp h5 (fun h5 => ?_) (fun h5 => ?_)))))))))
                 ·have q := si h5; subst q
                  exact kw rfl (kw rfl (kw rfl (kw rfl (kw rfl (kw rfl (s1 (pkt rfl rfl) (SO.nil ((wq rfl)))))))))
                 ·obtain ⟨abC, aej, h5⟩ := ob h5; have q := si h5; subst q
                  exact gw rfl (far (k := 0) rfl eF bD rfl) (gw rfl (bg rfl (ah bD dH rfl rfl)) (c0 (dG bR.Kind _ aej) (ww rfl) rfl rfl rfl yO rfl (fun _ => rfl) (fun _ => rfl) (gw rfl (mv rfl) (gw rfl (len rfl rfl rfl (dP bZ)) (gw rfl (bi rfl rfl bM) (s1 (dx rfl rfl) (SO.nil ((wq rfl)))))))))
               ·obtain ⟨abB, aei, h5⟩ := ob h5; have q := si h5; subst q
                refine kw rfl (kw rfl (kw rfl (kw rfl (kw rfl (kw rfl (kw rfl (kw rfl (kw rfl (gw rfl (dx rfl rfl) ?_)))))))))
                refine s1 (dx rfl rfl) (sm rfl (gw rfl (far (k := 0) rfl eF bD rfl) (gw rfl (bg rfl (ah bD dH rfl rfl)) (c0 (dG bR.Kind _ aei) (ww rfl) rfl rfl rfl yO rfl (fun _ => rfl) (fun _ => rfl) (gw rfl (mv rfl) (gw rfl (len rfl rfl rfl (dP bZ)) (gw rfl (bi rfl rfl bM) (s1 (dx rfl rfl) (SO.nil ?_)))))))))
                exact (wq rfl)
            ·refine kw rfl (kw rfl (kw rfl (gw rfl (dx rfl rfl) (s1 (dx rfl rfl) (sm rfl (gw rfl (far (k := 0) rfl eF bD rfl) (gw rfl (bg rfl (ah bD dH rfl rfl)) (gw rfl (bi rfl rfl aM) (gw rfl (mv rfl) ?_)))))))))
             refine sp h5 (fun h5 => ?_) (fun h5 => ?_)
             ·refine gw rfl (far (k := 2) rfl jv bD rfl) (gw rfl (bg rfl (ah bD dH rfl rfl)) (gw rfl (bi rfl rfl aJ) (gw rfl (mv rfl) (sp h5 (fun h5 => ?_) (fun h5 => ?_)))))
              ·have q := si h5; subst q
               refine kw rfl (kw rfl (kw rfl (gw rfl (pkt rfl rfl) (gw rfl (pkt rfl rfl) (s1 (dx rfl rfl) (sm rfl (kw rfl (kw rfl (kw rfl ?_)))))))))
               refine kw rfl (kw rfl (kw rfl (kw rfl (kw rfl (kw rfl (kw rfl (kw rfl (kw rfl (kw rfl ?_)))))))))
               refine kw rfl (s1 (pkt rfl rfl) (sm rfl (kw rfl (kw rfl (kw rfl (kw rfl (kw rfl (kw rfl (s1 (pkt rfl rfl) ?_)))))))))
               exact SO.nil ((wq rfl))
              ·refine gw rfl (far (k := 2) rfl jv bD rfl) (gw rfl (bg rfl (ah bD dH rfl rfl)) (gw rfl (bi rfl rfl bM) (gw rfl (dx rfl rfl) (gw rfl (pkt rfl rfl) (s1 (dx rfl rfl) (sm rfl (sp h5 (fun h5 => ?_) (fun h5 => ?_))))))))
               ·have q := si h5; subst q
                refine kw rfl (kw rfl (kw rfl (kw rfl (kw rfl (kw rfl (kw rfl (kw rfl (kw rfl (kw rfl ?_)))))))))
                refine kw rfl (kw rfl (kw rfl (kw rfl (s1 (pkt rfl rfl) (sm rfl (kw rfl (kw rfl (kw rfl (kw rfl ?_)))))))))
                exact kw rfl (kw rfl (s1 (pkt rfl rfl) (SO.nil ((wq rfl)))))
               ·refine gw rfl (far (k := 0) rfl eF bD rfl) (gw rfl (bg rfl (ah bD dH rfl rfl)) (gw rfl (bi rfl rfl bS) (gw rfl (mv rfl) (sp h5 (fun h5 => ?_) (fun h5 => ?_)))))
                ·refine gw rfl (far (k := 2) rfl jv bD rfl) (gw rfl (bg rfl (ah bD dH rfl rfl)) (gw rfl (bi rfl rfl bS) (gw rfl (mv rfl) (sp h5 (fun h5 => ?_) (fun h5 => ?_)))))
                 ·have q := si h5; subst q
                  refine kw rfl (kw rfl (kw rfl (kw rfl (gw rfl (pkt rfl rfl) (gw rfl (pkt rfl rfl) (s1 (dx rfl rfl) (sm rfl (kw rfl (kw rfl ?_)))))))))
                  exact kw rfl (kw rfl (kw rfl (kw rfl (s1 (pkt rfl rfl) (SO.nil ((wq rfl)))))))
                 ·refine gw rfl (far (k := 3) rfl qF iC rfl) (gw rfl (bg (v := .d (bA bR.Val)) rfl (ah iC o8 rfl rfl)) (gw rfl (xI rfl (Cx )) (gw rfl (bi (v := .d (eB (!(dw bR.Val (ak.mk (0 : Int) (0 : UInt64) ([] : List UInt8)))))) rfl rfl (fun X Y => fZ X Y bR.Val (ak.mk (0 : Int) (0 : UInt64) ([] : List UInt8)))) (gw rfl (dx rfl rfl) (gw rfl (pkt rfl rfl) (s1 (dx rfl rfl) (sm rfl (sp h5 (fun h5 => ?_) (fun h5 => ?_)))))))))
                  ·have q := si h5; subst q
                   exact kw rfl (kw rfl (kw rfl (kw rfl (kw rfl (kw rfl (s1 (pkt rfl rfl) (SO.nil ((wq rfl)))))))))
                  ·obtain ⟨abA, aeh, h5⟩ := ob h5; have q := si h5; subst q
                   exact gw rfl (far (k := 0) rfl eF bD rfl) (gw rfl (bg rfl (ah bD dH rfl rfl)) (c0 (dG bR.Kind _ aeh) (ww rfl) rfl rfl rfl yO rfl (fun _ => rfl) (fun _ => rfl) (gw rfl (mv rfl) (gw rfl (len rfl rfl rfl (dP bZ)) (gw rfl (bi rfl rfl bM) (s1 (dx rfl rfl) (SO.nil ((wq rfl)))))))))
                ·obtain ⟨abz, aeg, h5⟩ := ob h5; have q := si h5; subst q
                 refine kw rfl (kw rfl (kw rfl (kw rfl (kw rfl (kw rfl (kw rfl (kw rfl (kw rfl (gw rfl (dx rfl rfl) ?_)))))))))
                 refine s1 (dx rfl rfl) (sm rfl (gw rfl (far (k := 0) rfl eF bD rfl) (gw rfl (bg rfl (ah bD dH rfl rfl)) (c0 (dG bR.Kind _ aeg) (ww rfl) rfl rfl rfl yO rfl (fun _ => rfl) (fun _ => rfl) (gw rfl (mv rfl) (gw rfl (len rfl rfl rfl (dP bZ)) (gw rfl (bi rfl rfl bM) (s1 (dx rfl rfl) (SO.nil ?_)))))))))
                 exact (wq rfl)
             ·refine kw rfl (kw rfl (kw rfl (kw rfl (kw rfl (kw rfl (kw rfl (kw rfl (gw rfl (dx rfl rfl) (s1 (dx rfl rfl) ?_)))))))))
              refine sm rfl (gw rfl (far (k := 0) rfl eF bD rfl) (gw rfl (bg rfl (ah bD dH rfl rfl)) (gw rfl (bi rfl rfl bS) (gw rfl (mv rfl) (sp h5 (fun h5 => ?_) (fun h5 => ?_))))))
              ·refine gw rfl (far (k := 2) rfl jv bD rfl) (gw rfl (bg rfl (ah bD dH rfl rfl)) (gw rfl (bi rfl rfl bS) (gw rfl (mv rfl) (sp h5 (fun h5 => ?_) (fun h5 => ?_)))))
               ·have q := si h5; subst q
                refine kw rfl (kw rfl (kw rfl (kw rfl (gw rfl (pkt rfl rfl) (gw rfl (pkt rfl rfl) (s1 (dx rfl rfl) (sm rfl (kw rfl (kw rfl ?_)))))))))
                exact kw rfl (kw rfl (kw rfl (kw rfl (s1 (pkt rfl rfl) (SO.nil ((wq rfl)))))))
               ·refine gw rfl (far (k := 3) rfl qF iC rfl) (gw rfl (bg (v := .d (bA bR.Val)) rfl (ah iC o8 rfl rfl)) (gw rfl (xI rfl (Cx )) (gw rfl (bi (v := .d (eB (!(dw bR.Val (ak.mk (0 : Int) (0 : UInt64) ([] : List UInt8)))))) rfl rfl (fun X Y => fZ X Y bR.Val (ak.mk (0 : Int) (0 : UInt64) ([] : List UInt8)))) (gw rfl (dx rfl rfl) (gw rfl (pkt rfl rfl) (s1 (dx rfl rfl) (sm rfl (sp h5 (fun h5 => ?_) (fun h5 => ?_)))))))))
                ·have q := si h5; subst q
                 exact kw rfl (kw rfl (kw rfl (kw rfl (kw rfl (kw rfl (s1 (pkt rfl rfl) (SO.nil ((wq rfl)))))))))
                ·obtain ⟨aby, aef, h5⟩ := ob h5; have q := si h5; subst q
                 exact gw rfl (far (k := 0) rfl eF bD rfl) (gw rfl (bg rfl (ah bD dH rfl rfl)) (c0 (dG bR.Kind _ aef) (ww rfl) rfl rfl rfl yO rfl (fun _ => rfl) (fun _ => rfl) (gw rfl (mv rfl) (gw rfl (len rfl rfl rfl (dP bZ)) (gw rfl (bi rfl rfl bM) (s1 (dx rfl rfl) (SO.nil ((wq rfl)))))))))
              ·obtain ⟨abx, aee, h5⟩ := ob h5; have q := si h5; subst q
               refine kw rfl (kw rfl (kw rfl (kw rfl (kw rfl (kw rfl (kw rfl (kw rfl (kw rfl (gw rfl (dx rfl rfl) ?_)))))))))
               refine s1 (dx rfl rfl) (sm rfl (gw rfl (far (k := 0) rfl eF bD rfl) (gw rfl (bg rfl (ah bD dH rfl rfl)) (c0 (dG bR.Kind _ aee) (ww rfl) rfl rfl rfl yO rfl (fun _ => rfl) (fun _ => rfl) (gw rfl (mv rfl) (gw rfl (len rfl rfl rfl (dP bZ)) (gw rfl (bi rfl rfl bM) (s1 (dx rfl rfl) (SO.nil ?_)))))))))
               exact (wq rfl)
         ·refine kw rfl (kw rfl (kw rfl (kw rfl (kw rfl (kw rfl (kw rfl (kw rfl (kw rfl (kw rfl ?_)))))))))
          refine gw rfl (dx rfl rfl) (s1 (dx rfl rfl) (sm rfl (gw rfl (mv rfl) (gw rfl (nt rfl) (gw rfl (mv rfl) (sp h5 (fun h5 => ?_) (fun h5 => ?_)))))))
          ·refine gw rfl (far (k := 1) rfl yH bD rfl) (gw rfl (bg rfl (ah bD dH rfl rfl)) (gw rfl (bi rfl rfl bS) (gw rfl (pkt rfl rfl) (s1 (dx rfl rfl) (sm rfl (sp h5 (fun h5 => ?_) (fun h5 => ?_)))))))
           ·have q := si h5; subst q
            refine kw rfl (kw rfl (kw rfl (kw rfl (kw rfl (kw rfl (kw rfl (kw rfl (kw rfl (kw rfl ?_)))))))))
            refine kw rfl (kw rfl (kw rfl (s1 (pkt rfl rfl) (sm rfl (kw rfl (kw rfl (kw rfl (kw rfl (kw rfl ?_)))))))))
            refine kw rfl (kw rfl (kw rfl (kw rfl (kw rfl (kw rfl (kw rfl (kw rfl (kw rfl (s1 (pkt rfl rfl) ?_)))))))))
            exact sm rfl (kw rfl (kw rfl (kw rfl (kw rfl (kw rfl (kw rfl (s1 (pkt rfl rfl) (SO.nil ((wq rfl))))))))))
           ·refine gw rfl (far (k := 0) rfl eF bD rfl) (gw rfl (bg rfl (ah bD dH rfl rfl)) (gw rfl (bi rfl rfl aM) (gw rfl (mv rfl) (sp h5 (fun h5 => ?_) (fun h5 => ?_)))))
            ·refine gw rfl (far (k := 2) rfl jv bD rfl) (gw rfl (bg rfl (ah bD dH rfl rfl)) (gw rfl (bi rfl rfl aJ) (gw rfl (mv rfl) (sp h5 (fun h5 => ?_) (fun h5 => ?_)))))
             ·have q := si h5; subst q
              refine kw rfl (kw rfl (kw rfl (gw rfl (pkt rfl rfl) (gw rfl (pkt rfl rfl) (s1 (dx rfl rfl) (sm rfl (kw rfl (kw rfl (kw rfl ?_)))))))))
              refine kw rfl (kw rfl (kw rfl (kw rfl (kw rfl (kw rfl (kw rfl (kw rfl (kw rfl (kw rfl ?_)))))))))
              refine kw rfl (s1 (pkt rfl rfl) (sm rfl (kw rfl (kw rfl (kw rfl (kw rfl (kw rfl (kw rfl (s1 (pkt rfl rfl) ?_)))))))))
              exact SO.nil ((wq rfl))
             ·refine gw rfl (far (k := 2) rfl jv bD rfl) (gw rfl (bg rfl (ah bD dH rfl rfl)) (gw rfl (bi rfl rfl bM) (gw rfl (dx rfl rfl) (gw rfl (pkt rfl rfl) (s1 (dx rfl rfl) (sm rfl (sp h5 (fun h5 => ?_) (fun h5 => ?_))))))))
              ·have q := si h5; subst q
               refine kw rfl (kw rfl (kw rfl (kw rfl (kw rfl (kw rfl (kw rfl (kw rfl (kw rfl (kw rfl ?_)))))))))
               refine kw rfl (kw rfl (kw rfl (kw rfl (s1 (pkt rfl rfl) (sm rfl (kw rfl (kw rfl (kw rfl (kw rfl ?_)))))))))
               exact kw rfl (kw rfl (s1 (pkt rfl rfl) (SO.nil ((wq rfl)))))
              ·refine gw rfl (far (k := 0) rfl eF bD rfl) (gw rfl (bg rfl (ah bD dH rfl rfl)) (gw rfl (bi rfl rfl bS) (gw rfl (mv rfl) (sp h5 (fun h5 => ?_) (fun h5 => ?_)))))
               ·refine gw rfl (far (k := 2) rfl jv bD rfl) (gw rfl (bg rfl (ah bD dH rfl rfl)) (gw rfl (bi rfl rfl bS) (gw rfl (mv rfl) (sp h5 (fun h5 => ?_) (fun h5 => ?_)))))
                ·have q := si h5; subst q
                 refine kw rfl (kw rfl (kw rfl (kw rfl (gw rfl (pkt rfl rfl) (gw rfl (pkt rfl rfl) (s1 (dx rfl rfl) (sm rfl (kw rfl (kw rfl ?_)))))))))
                 exact kw rfl (kw rfl (kw rfl (kw rfl (s1 (pkt rfl rfl) (SO.nil ((wq rfl)))))))
                ·refine gw rfl (far (k := 3) rfl qF iC rfl) (gw rfl (bg (v := .d (bA bR.Val)) rfl (ah iC o8 rfl rfl)) (gw rfl (xI rfl (Cx )) (gw rfl (bi (v := .d (eB (!(dw bR.Val (ak.mk (0 : Int) (0 : UInt64) ([] : List UInt8)))))) rfl rfl (fun X Y => fZ X Y bR.Val (ak.mk (0 : Int) (0 : UInt64) ([] : List UInt8)))) (gw rfl (dx rfl rfl) (gw rfl (pkt rfl rfl) (s1 (dx rfl rfl) (sm rfl (sp h5 (fun h5 => ?_) (fun h5 => ?_)))))))))
                 ·have q := si h5; subst q
                  exact kw rfl (kw rfl (kw rfl (kw rfl (kw rfl (kw rfl (s1 (pkt rfl rfl) (SO.nil ((wq rfl)))))))))
                 ·obtain ⟨abw, aed, h5⟩ := ob h5; have q := si h5; subst q
                  exact gw rfl (far (k := 0) rfl eF bD rfl) (gw rfl (bg rfl (ah bD dH rfl rfl)) (c0 (dG bR.Kind _ aed) (ww rfl) rfl rfl rfl yO rfl (fun _ => rfl) (fun _ => rfl) (gw rfl (mv rfl) (gw rfl (len rfl rfl rfl (dP bZ)) (gw rfl (bi rfl rfl bM) (s1 (dx rfl rfl) (SO.nil ((wq rfl)))))))))
               ·obtain ⟨abv, aec, h5⟩ := ob h5; have q := si h5; subst q
                refine kw rfl (kw rfl (kw rfl (kw rfl (kw rfl (kw rfl (kw rfl (kw rfl (kw rfl (gw rfl (dx rfl rfl) ?_)))))))))
                refine s1 (dx rfl rfl) (sm rfl (gw rfl (far (k := 0) rfl eF bD rfl) (gw rfl (bg rfl (ah bD dH rfl rfl)) (c0 (dG bR.Kind _ aec) (ww rfl) rfl rfl rfl yO rfl (fun _ => rfl) (fun _ => rfl) (gw rfl (mv rfl) (gw rfl (len rfl rfl rfl (dP bZ)) (gw rfl (bi rfl rfl bM) (s1 (dx rfl rfl) (SO.nil ?_)))))))))
                exact (wq rfl)
            ·refine kw rfl (kw rfl (kw rfl (kw rfl (kw rfl (kw rfl (kw rfl (kw rfl (gw rfl (dx rfl rfl) (s1 (dx rfl rfl) ?_)))))))))
             refine sm rfl (gw rfl (far (k := 0) rfl eF bD rfl) (gw rfl (bg rfl (ah bD dH rfl rfl)) (gw rfl (bi rfl rfl bS) (gw rfl (mv rfl) (sp h5 (fun h5 => ?_) (fun h5 => ?_))))))
             ·refine gw rfl (far (k := 2) rfl jv bD rfl) (gw rfl (bg rfl (ah bD dH rfl rfl)) (gw rfl (bi rfl rfl bS) (gw rfl (mv rfl) (sp h5 (fun h5 => ?_) (fun h5 => ?_)))))
              ·have q := si h5; subst q
               refine kw rfl (kw rfl (kw rfl (kw rfl (gw rfl (pkt rfl rfl) (gw rfl (pkt rfl rfl) (s1 (dx rfl rfl) (sm rfl (kw rfl (kw rfl ?_)))))))))
               exact kw rfl (kw rfl (kw rfl (kw rfl (s1 (pkt rfl rfl) (SO.nil ((wq rfl)))))))
              ·refine gw rfl (far (k := 3) rfl qF iC rfl) (gw rfl (bg (v := .d (bA bR.Val)) rfl (ah iC o8 rfl rfl)) (gw rfl (xI rfl (Cx )) (gw rfl (bi (v := .d (eB (!(dw bR.Val (ak.mk (0 : Int) (0 : UInt64) ([] : List UInt8)))))) rfl rfl (fun X Y => fZ X Y bR.Val (ak.mk (0 : Int) (0 : UInt64) ([] : List UInt8)))) (gw rfl (dx rfl rfl) (gw rfl (pkt rfl rfl) (s1 (dx rfl rfl) (sm rfl (sp h5 (fun h5 => ?_) (fun h5 => ?_)))))))))
               ·have q := si h5; subst q
                exact kw rfl (kw rfl (kw rfl (kw rfl (kw rfl (kw rfl (s1 (pkt rfl rfl) (SO.nil ((wq rfl)))))))))
               ·obtain ⟨abu, aeb, h5⟩ := ob h5; have q := si h5; subst q
                exact gw rfl (far (k := 0) rfl eF bD rfl) (gw rfl (bg rfl (ah bD dH rfl rfl)) (c0 (dG bR.Kind _ aeb) (ww rfl) rfl rfl rfl yO rfl (fun _ => rfl) (fun _ => rfl) (gw rfl (mv rfl) (gw rfl (len rfl rfl rfl (dP bZ)) (gw rfl (bi rfl rfl bM) (s1 (dx rfl rfl) (SO.nil ((wq rfl)))))))))
             ·obtain ⟨abt, aea, h5⟩ := ob h5; have q := si h5; subst q
              refine kw rfl (kw rfl (kw rfl (kw rfl (kw rfl (kw rfl (kw rfl (kw rfl (kw rfl (gw rfl (dx rfl rfl) ?_)))))))))
              refine s1 (dx rfl rfl) (sm rfl (gw rfl (far (k := 0) rfl eF bD rfl) (gw rfl (bg rfl (ah bD dH rfl rfl)) (c0 (dG bR.Kind _ aea) (ww rfl) rfl rfl rfl yO rfl (fun _ => rfl) (fun _ => rfl) (gw rfl (mv rfl) (gw rfl (len rfl rfl rfl (dP bZ)) (gw rfl (bi rfl rfl bM) (s1 (dx rfl rfl) (SO.nil ?_)))))))))
              exact (wq rfl)
          ·refine kw rfl (kw rfl (kw rfl (gw rfl (dx rfl rfl) (s1 (dx rfl rfl) (sm rfl (gw rfl (far (k := 0) rfl eF bD rfl) (gw rfl (bg rfl (ah bD dH rfl rfl)) (gw rfl (bi rfl rfl aM) (gw rfl (mv rfl) ?_)))))))))
           refine sp h5 (fun h5 => ?_) (fun h5 => ?_)
           ·refine gw rfl (far (k := 2) rfl jv bD rfl) (gw rfl (bg rfl (ah bD dH rfl rfl)) (gw rfl (bi rfl rfl aJ) (gw rfl (mv rfl) (sp h5 (fun h5 => ?_) (fun h5 => ?_)))))
            ·have q := si h5; subst q
             refine kw rfl (kw rfl (kw rfl (gw rfl (pkt rfl rfl) (gw rfl (pkt rfl rfl) (s1 (dx rfl rfl) (sm rfl (kw rfl (kw rfl (kw rfl ?_)))))))))
             refine kw rfl (kw rfl (kw rfl (kw rfl (kw rfl (kw rfl (kw rfl (kw rfl (kw rfl (kw rfl ?_)))))))))
             refine kw rfl (s1 (pkt rfl rfl) (sm rfl (kw rfl (kw rfl (kw rfl (kw rfl (kw rfl (kw rfl (s1 (pkt rfl rfl) ?_)))))))))
             exact SO.nil ((wq rfl))
            ·refine gw rfl (far (k := 2) rfl jv bD rfl) (gw rfl (bg rfl (ah bD dH rfl rfl)) (gw rfl (bi rfl rfl bM) (gw rfl (dx rfl rfl) (gw rfl (pkt rfl rfl) (s1 (dx rfl rfl) (sm rfl (sp h5 (fun h5 => ?_) (fun h5 => ?_))))))))
             ·have q := si h5; subst q
              refine kw rfl (kw rfl (kw rfl (kw rfl (kw rfl (kw rfl (kw rfl (kw rfl (kw rfl (kw rfl ?_)))))))))
              refine kw rfl (kw rfl (kw rfl (kw rfl (s1 (pkt rfl rfl) (sm rfl (kw rfl (kw rfl (kw rfl (kw rfl ?_)))))))))
              exact kw rfl (kw rfl (s1 (pkt rfl rfl) (SO.nil ((wq rfl)))))
             ·refine gw rfl (far (k := 0) rfl eF bD rfl) (gw rfl (bg rfl (ah bD dH rfl rfl)) (gw rfl (bi rfl rfl bS) (gw rfl (mv rfl) (sp h5 (fun h5 => ?_) (fun h5 => ?_)))))
              ·refine gw rfl (far (k := 2) rfl jv bD rfl) (gw rfl (bg rfl (ah bD dH rfl rfl)) (gw rfl (bi rfl rfl bS) (gw rfl (mv rfl) (sp h5 (fun h5 => ?_) (fun h5 => ?_)))))
               ·have q := si h5; subst q
                refine kw rfl (kw rfl (kw rfl (kw rfl (gw rfl (pkt rfl rfl) (gw rfl (pkt rfl rfl) (s1 (dx rfl rfl) (sm rfl (kw rfl (kw rfl ?_)))))))))
                exact kw rfl (kw rfl (kw rfl (kw rfl (s1 (pkt rfl rfl) (SO.nil ((wq rfl)))))))
               ·refine gw rfl (far (k := 3) rfl qF iC rfl) (gw rfl (bg (v := .d (bA bR.Val)) rfl (ah iC o8 rfl rfl)) (gw rfl (xI rfl (Cx )) (gw rfl (bi (v := .d (eB (!(dw bR.Val (ak.mk (0 : Int) (0 : UInt64) ([] : List UInt8)))))) rfl rfl (fun X Y => fZ X Y bR.Val (ak.mk (0 : Int) (0 : UInt64) ([] : List UInt8)))) (gw rfl (dx rfl rfl) (gw rfl (pkt rfl rfl) (s1 (dx rfl rfl) (sm rfl (sp h5 (fun h5 => ?_) (fun h5 => ?_)))))))))
                ·have q := si h5; subst q
                 exact kw rfl (kw rfl (kw rfl (kw rfl (kw rfl (kw rfl (s1 (pkt rfl rfl) (SO.nil ((wq rfl)))))))))
                ·obtain ⟨abr, ad9, h5⟩ := ob h5; have q := si h5; subst q
                 exact gw rfl (far (k := 0) rfl eF bD rfl) (gw rfl (bg rfl (ah bD dH rfl rfl)) (c0 (dG bR.Kind _ ad9) (ww rfl) rfl rfl rfl yO rfl (fun _ => rfl) (fun _ => rfl) (gw rfl (mv rfl) (gw rfl (len rfl rfl rfl (dP bZ)) (gw rfl (bi rfl rfl bM) (s1 (dx rfl rfl) (SO.nil ((wq rfl)))))))))
              ·obtain ⟨abq, ad8, h5⟩ := ob h5; have q := si h5; subst q
               refine kw rfl (kw rfl (kw rfl (kw rfl (kw rfl (kw rfl (kw rfl (kw rfl (kw rfl (gw rfl (dx rfl rfl) ?_)))))))))
               refine s1 (dx rfl rfl) (sm rfl (gw rfl (far (k := 0) rfl eF bD rfl) (gw rfl (bg rfl (ah bD dH rfl rfl)) (c0 (dG bR.Kind _ ad8) (ww rfl) rfl rfl rfl yO rfl (fun _ => rfl) (fun _ => rfl) (gw rfl (mv rfl) (gw rfl (len rfl rfl rfl (dP bZ)) (gw rfl (bi rfl rfl bM) (s1 (dx rfl rfl) (SO.nil ?_)))))))))
               exact (wq rfl)
           ·refine kw rfl (kw rfl (kw rfl (kw rfl (kw rfl (kw rfl (kw rfl (kw rfl (gw rfl (dx rfl rfl) (s1 (dx rfl rfl) ?_)))))))))
            refine sm rfl (gw rfl (far (k := 0) rfl eF bD rfl) (gw rfl (bg rfl (ah bD dH rfl rfl)) (gw rfl (bi rfl rfl bS) (gw rfl (mv rfl) (sp h5 (fun h5 => ?_) (fun h5 => ?_))))))
            ·refine gw rfl (far (k := 2) rfl jv bD rfl) (gw rfl (bg rfl (ah bD dH rfl rfl)) (gw rfl (bi rfl rfl bS) (gw rfl (mv rfl) (sp h5 (fun h5 => ?_) (fun h5 => ?_)))))
             ·have q := si h5; subst q
              refine kw rfl (kw rfl (kw rfl (kw rfl (gw rfl (pkt rfl rfl) (gw rfl (pkt rfl rfl) (s1 (dx rfl rfl) (sm rfl (kw rfl (kw rfl ?_)))))))))
              exact kw rfl (kw rfl (kw rfl (kw rfl (s1 (pkt rfl rfl) (SO.nil ((wq rfl)))))))
             ·refine gw rfl (far (k := 3) rfl qF iC rfl) (gw rfl (bg (v := .d (bA bR.Val)) rfl (ah iC o8 rfl rfl)) (gw rfl (xI rfl (Cx )) (gw rfl (bi (v := .d (eB (!(dw bR.Val (ak.mk (0 : Int) (0 : UInt64) ([] : List UInt8)))))) rfl rfl (fun X Y => fZ X Y bR.Val (ak.mk (0 : Int) (0 : UInt64) ([] : List UInt8)))) (gw rfl (dx rfl rfl) (gw rfl (pkt rfl rfl) (s1 (dx rfl rfl) (sm rfl (sp h5 (fun h5 => ?_) (fun h5 => ?_)))))))))
              ·have q := si h5; subst q
               exact kw rfl (kw rfl (kw rfl (kw rfl (kw rfl (kw rfl (s1 (pkt rfl rfl) (SO.nil ((wq rfl)))))))))
              ·obtain ⟨abp, ad7, h5⟩ := ob h5; have q := si h5; subst q
               exact gw rfl (far (k := 0) rfl eF bD rfl) (gw rfl (bg rfl (ah bD dH rfl rfl)) (c0 (dG bR.Kind _ ad7) (ww rfl) rfl rfl rfl yO rfl (fun _ => rfl) (fun _ => rfl) (gw rfl (mv rfl) (gw rfl (len rfl rfl rfl (dP bZ)) (gw rfl (bi rfl rfl bM) (s1 (dx rfl rfl) (SO.nil ((wq rfl)))))))))
            ·obtain ⟨abo, ad6, h5⟩ := ob h5; have q := si h5; subst q
             refine kw rfl (kw rfl (kw rfl (kw rfl (kw rfl (kw rfl (kw rfl (kw rfl (kw rfl (gw rfl (dx rfl rfl) ?_)))))))))
             refine s1 (dx rfl rfl) (sm rfl (gw rfl (far (k := 0) rfl eF bD rfl) (gw rfl (bg rfl (ah bD dH rfl rfl)) (c0 (dG bR.Kind _ ad6) (ww rfl) rfl rfl rfl yO rfl (fun _ => rfl) (fun _ => rfl) (gw rfl (mv rfl) (gw rfl (len rfl rfl rfl (dP bZ)) (gw rfl (bi rfl rfl bM) (s1 (dx rfl rfl) (SO.nil ?_)))))))))
             exact (wq rfl)
      ·rintro aap h4
       refine cB h4 rfl (fun h4 => ?_) (fun h4 => ?_)
       ·have q := si h4; subst q; have q := si h3; subst q; have q : _ = _ := hv3; subst q; have q := si h1; subst q; have q := si h0; subst q
        exact sr (sa rfl (sn (SC.ret (bQ (wc (e' := [(4, .d (eI (1 : Int)))]) [] [] (by kernel_rfl) rfl (by kernel_rfl)) (aZ rfl aX) rfl))))
       ·refine sk (sq (SC.bV h4 (fun y => ⟨mk 171 [(0, .d ((eL 7 bI) p0)), (1, .d ((eL 6 au) p1)), (5, .slc 0 1 0 gu.length none), (6, .d (eI zJ)), (7, .ref 1 0 0), (129, .d (eB y))], [.row 1 (List.map eI gu) true, .box (.d (au bR))]⟩) ?_ ?_))
        ·intro ak3 h5
         refine SC.draws (by kernel_rfl) (t1 ([], false) (far (k := 0) rfl eF bD rfl) rfl (t1 ([1], false) (bg rfl (ah bD dH rfl rfl)) rfl (t1 ([], false) (bi rfl rfl aM) rfl (t1 ([], false) (mv rfl) rfl (tp h5 (fun h5 => ?_) (fun h5 => ?_))))))
         ·obtain ⟨abn, ad5, h5⟩ := ob h5
          refine u1 ([], false) (ww rfl) (far (k := 3) rfl qF iC rfl) rfl (u1 ([1], false) (ww rfl) (bg (v := .d (bA bR.Val)) rfl (ah iC o8 rfl rfl)) rfl (Fa (Ab bR.Val _ ad5) (ww rfl) rfl rfl rfl ajP rfl (fun _ => rfl) (fun _ => rfl) (u1 ([], false) (ww rfl) (nt rfl) rfl (u1 ([], false) (ww rfl) (mv rfl) rfl (tp h5 (fun h5 => ?_) (fun h5 => ?_))))))
          ·have q := si h5; subst q
           refine jw rfl (jw rfl (jw rfl (jw rfl (u1 ([], false) (ww rfl) (pkt rfl rfl) rfl (u1 ([], false) (ww rfl) (mv rfl) rfl (jw rfl (jw rfl (jw rfl (jw rfl ?_)))))))))
           refine jw rfl (jw rfl (jw rfl (jw rfl (jw rfl (jw rfl (u1 ([], false) (ww rfl) (pkt rfl rfl) rfl (t1 ([], false) (pkt rfl rfl) rfl (ST.nil (And.intro (by decide +kernel) ?_)))))))))
           exact (wq rfl)
          ·refine u1 ([], false) (ww rfl) (far (k := 3) rfl qF iC rfl) rfl (u1 ([], false) (ww rfl) (far (k := 3) rfl kN bD rfl) rfl (u1 ([1], false) (ww rfl) (bg rfl (ah bD dH rfl rfl)) rfl (u1 ([], false) (ww rfl) (bi rfl rfl aM) rfl (u1 ([], false) (ww rfl) (dx rfl rfl) rfl (u1 ([], false) (ww rfl) (mv rfl) rfl (tp h5 (fun h5 => ?_) (fun h5 => ?_)))))))
           ·have q := si h5; subst q
            refine jw rfl (jw rfl (jw rfl (jw rfl (jw rfl (jw rfl (jw rfl (jw rfl (jw rfl (jw rfl ?_)))))))))
            refine u1 ([], false) (ww rfl) (pkt rfl rfl) rfl (t1 ([], false) (pkt rfl rfl) rfl (ST.nil (And.intro (by decide +kernel) ?_)))
            exact (wq rfl)
           ·obtain ⟨aaV, WL, h5⟩ := ob h5; have q := si h5; subst q
            refine u1 ([], false) (ww rfl) (far (k := 3) rfl qF iC rfl) rfl (u1 ([], false) (ww rfl) (far (k := 3) rfl kN bD rfl) rfl (u1 ([1], false) (ww rfl) (bg rfl (ah bD dH rfl rfl)) rfl (u1 ([], false) (ww rfl) (mv rfl) rfl (u1 ([], false) (ww rfl) (far (k := 1) rfl yH bD rfl) rfl (u1 ([1], false) (ww rfl) (bg rfl (ah bD dH rfl rfl)) rfl (u1 ([], false) (ww rfl) (jo rfl rfl qp BJ (aj WL).1 (aY (aj WL).2) rfl) rfl (u1 ([], false) (ww rfl) (fap rfl wD bD rfl) rfl (u1 ([], false) (ww rfl) (bg rfl (bN bD dH rfl)) rfl (u1 ([], false) (ww rfl) (bi rfl rfl bS) rfl ?_)))))))))
            refine u1 ([], false) (ww rfl) (dx rfl rfl) rfl (t1 ([], false) (pkt rfl rfl) rfl (ST.nil (And.intro (by decide +kernel) ?_)))
            exact (wq rfl)
         ·have q := si h5; subst q
          refine jw rfl (jw rfl (jw rfl (jw rfl (jw rfl (jw rfl (jw rfl (jw rfl (jw rfl (jw rfl ?_)))))))))
          refine jw rfl (jw rfl (jw rfl (jw rfl (jw rfl (jw rfl (jw rfl (jw rfl (jw rfl (jw rfl ?_)))))))))
          refine jw rfl (jw rfl (t1 ([], false) (dx rfl rfl) rfl (ST.nil (And.intro (by decide +kernel) ?_))))
          exact (wq rfl)
        ·rintro aao h4
         refine cB h4 rfl (fun h4 => ?_) (fun h4 => ?_)
         ·have q := si h4; subst q; have q := si h3; subst q; have q : _ = _ := hv3; subst q; have q := si h1; subst q; have q := si h0; subst q
          exact sr (sa rfl (sn (SC.ret (bQ (wc (e' := [(4, .d (eI (8 : Int)))]) [] [] (by kernel_rfl) rfl (by kernel_rfl)) (aZ rfl aX) rfl))))
         ·refine sk (sr (sa rfl (sn (SC.bV h4 (fun y => ⟨mk 171 [(0, .d ((eL 7 bI) p0)), (1, .d ((eL 6 au) p1)), (5, .slc 0 1 0 gu.length none), (6, .d (eI zJ)), (7, .ref 1 0 0), (9, .d (eI y))], [.row 1 (List.map eI gu) true, .box (.d (au bR))]⟩) ?_ ?_))))
          ·intro ak2 h5
           obtain ⟨abm, ad4, h5⟩ := ob h5; obtain ⟨akX, h6, h5⟩ := ob h5
           refine sr (sm rfl (s1 (len rfl rfl rfl (dP bZ)) (s1 (far (k := 0) rfl eF bD rfl) (s1 (bg rfl (ah bD dH rfl rfl)) (c0 (dG bR.Kind _ ad4) wf rfl rfl rfl yO rfl (fun _ => rfl) (fun _ => rfl) (s1 (bi rfl rfl dK) (sa rfl (sn (SC.blk ?_)))))))))
           refine SC.dL h6 (fun y => ⟨mk 171 [(0, .d ((eL 7 bI) p0)), (1, .d ((eL 6 au) p1)), (5, .slc 0 1 0 gu.length none), (6, .d (eI zJ)), (7, .ref 1 0 0), (9, .d (eI y.1)), (10, .d (eI y.2))], [.row 1 (List.map eI gu) true, .box (.d (au bR))]⟩) (wq rfl) ?_
           intro aq5
           rintro ⟨RU, Ll⟩ aky h7 hv7
           refine sq (sr (sm rfl (sm rfl (s1 (len rfl rfl rfl (dP bZ)) (s1 (bi rfl rfl aJ) (sn (cB h7 rfl (fun h7 => ?_) (fun h7 => ?_))))))))
           ·refine sk (SC.bV h7 (fun y => ⟨mk 171 [(0, .d ((eL 7 bI) p0)), (1, .d ((eL 6 au) p1)), (5, .slc 0 1 0 gu.length none), (6, .d (eI zJ)), (7, .ref 1 0 0), (9, .d (eI y)), (10, .d (eI Ll))], [.row 1 (List.map eI gu) true, .box (.d (au bR))]⟩) ?_ ?_)
            ·intro akR h8
             obtain ⟨aaU, WK, h8⟩ := ob h8
             refine SC.blk (sr (sm rfl (sm rfl (s1 (JC rfl rfl bZ bD (iL WK)) (s1 (bg rfl (jr bD dH rfl (aY (aj WK).2) rfl)) (sm rfl (s1 (bi rfl rfl bM) (sn (cB h8 rfl (fun h8 => ?_) (fun h8 => ?_))))))))))
             ·obtain ⟨aaT, WJ, h8⟩ := ob h8; have q := si h8; subst q
              exact SC.region (sm rfl (sm rfl (s1 (JC rfl rfl bZ bD (iL WJ)) (s1 (bg rfl (jr bD dH rfl (aY (aj WJ).2) rfl)) (sa rfl (SO.nil ((wq rfl))))))))
             ·have q := si h8; subst q
              exact SC.skip ((wq rfl))
            ·rintro aan h7
             have q := si h7; subst q
             exact SC.region (sm rfl (s1 (bi rfl rfl aT) (sa rfl (SO.nil (lf (wq rfl))))))
           ·have q := si h7; subst q; have q : _ = _ := hv7; subst q; have q := si h5; subst q
            exact SC.exit ((wq rfl))
          ·rintro Lm h4
           obtain ⟨LG, ad3, h4⟩ := ob h4; obtain ⟨ae1, h4⟩ := gd h4; obtain ⟨aeZ, h4⟩ := gd h4; obtain ⟨ae0, h4⟩ := gd h4; have q := si h4; subst q
           refine SC.region (sm rfl (sm rfl (s1 (len rfl rfl rfl (dP bZ)) (s1 (far (k := 0) rfl eF bD rfl) (s1 (bg rfl (ah bD dH rfl rfl)) (c0 (dG bR.Kind _ ad3) wf rfl rfl rfl yO rfl (fun _ => rfl) (fun _ => rfl) (s1 (bi rfl rfl dK) (s1 (VU rfl rfl rfl rfl (sZ bZ bD ae1)) (sm rfl ?_)))))))))
           exact s1 (bi rfl rfl aT) (s1 (sM (k := 2) (ds := List.map eI [(bF (Lm + (1 : Int)))]) (off := 0) (l' := [(bF (Lm + (1 : Int)))].length) rfl bZ xH rfl rfl (by rfl) rfl rfl rfl) (s1 (app rfl rfl rfl rfl yR (aS (f := eI) (xs := gu) (k := 3) bZ xH rfl aeZ (eY (xs := [(bF (Lm + (1 : Int)))]) rfl) ae0 rfl)) (sa rfl (SO.nil (lf (wc [3] [3] (by kernel_rfl) rfl (by kernel_rfl)))))))
    ·rintro aaq h3
     have q := si h3; subst q
     exact SC.region (sm rfl (s1 (bi rfl rfl aT) (sa rfl (SO.nil (lf (wq rfl))))))
   ·have q := si h3; subst q; have q : _ = _ := hv3; subst q; have q := si h1; subst q
    exact SC.exit (lf (wq rfl))
  ·rintro Vk h0
   refine sq (sr (sm rfl (s1 (len rfl rfl rfl (dP bZ)) (s1 (bi rfl rfl bS) (sn (cB h0 rfl (fun h0 => ?_) (fun h0 => ?_)))))))
   ·have q := si h0; subst q
    exact sr (sa rfl (sn (SC.ret (bQ (wc (e' := [(4, .d (eI (1 : Int)))]) [] [] (by kernel_rfl) rfl (by kernel_rfl)) (aZ rfl aX) rfl))))
   ·obtain ⟨aaS, WI, h0⟩ := ob h0
    refine sk (sq (sr (sm rfl (s1 (JC rfl rfl bZ bD (iL WI)) (s1 (bg rfl (jr bD dH rfl (aY (aj WI).2) rfl)) (s1 (bi rfl rfl bM) (sn (cB h0 rfl (fun h0 => ?_) (fun h0 => ?_)))))))))
    ·have q := si h0; subst q
     exact sr (sa rfl (sn (SC.ret (bQ (wc (e' := [(4, .d (eI (7 : Int)))]) [] [] (by kernel_rfl) rfl (by kernel_rfl)) (aZ rfl aX) rfl))))
    ·have q := si h0; subst q
     exact sk (sr (sa rfl (sn (SC.ret (bQ (wc (e' := [(4, .d (eI (0 : Int)))]) [] [] (by kernel_rfl) rfl (by kernel_rfl)) (aZ rfl aX) rfl)))))
noncomputable def rG (p0 : aP) (p1 : bT) : Option Int :=
 Option.bind (rH p0.aV p1.Pred) fun QW =>
 bif (QW != (0 : Int)) then
 some QW
 else
 Option.bind (α := Bool)
 (bif (decide ((p1.aV.length : Int) > (24 : Int))) then
 some true
 else
 bif (decide ((p1.Order.length : Int) > (4 : Int))) then
 some true
 else
 some (decide (p1.Limit < (-1 : Int))))
 fun ags =>
 bif ags then
 some (1 : Int)
 else
 eu (Y := Unit) (E := Int)
 (Option.bind (α := Unit ⊕ Int)
 (loop (Y := Int) (W := Unit ⊕ Int) (fun Tw =>
 bif (decide (Tw < (p1.aV.length : Int))) then
 Option.bind (α := Bool)
 (Option.bind (bG p1.aV Tw) fun agO =>
 bif (decide (agO < (0 : Int))) then
 some true
 else
 Option.bind (bG p1.aV Tw) fun agN =>
 some (decide (agN ≥ (p0.aV.length : Int))))
 fun agq =>
 bif agq then
 some (Sum.inr (Sum.inr (1 : Int)))
 else
 some (Sum.inl (bF (Tw + (1 : Int))))
 else
 some (Sum.inr (Sum.inl ()))) (0 : Int))
 (Sum.elim (fun e => some (Sum.inl e)) (fun e => some (Sum.inr e))))
 (fun _ =>
 eu (Y := Unit) (E := Int)
 (Option.bind (α := Unit ⊕ Int)
 (loop (Y := Int) (W := Unit ⊕ Int) (fun Ml =>
 bif (decide (Ml < (p1.Order.length : Int))) then
 Option.bind (bG p1.Order Ml) fun Vy =>
 Option.bind (α := Bool)
 (bif (decide (Vy.Col < (0 : Int))) then
 some true
 else
 bif (decide (Vy.Col ≥ (p0.aV.length : Int))) then
 some true
 else
 bif decide (0 ≤ Ml ∧ Ml ≤ (p1.Order.length : Int)) then
 Option.bind (jI (List.take Ml.toNat p1.Order)) fun adI =>
 Option.bind (gM adI Vy.Col) fun ahn =>
 some ahn
 else none)
 fun agn =>
 bif agn then
 some (Sum.inr (Sum.inr (1 : Int)))
 else
 some (Sum.inl (bF (Ml + (1 : Int))))
 else
 some (Sum.inr (Sum.inl ()))) (0 : Int))
 (Sum.elim (fun e => some (Sum.inl e)) (fun e => some (Sum.inr e))))
 (fun _ =>
 some (0 : Int))
 (fun e => some e))
 (fun e => some e)
theorem IL (p0 : aP) (p1 : bT) (r : Int) (h0 : rG p0 p1 = some r) : aO Tryz.prog 12 [.d (aK p0), .d (bK p1)] [] (.d (eI r)) [] := by
 unfold rG at h0
 refine fn0 [0, 1] Tryz.func12 rfl rfl rfl rfl rfl ?_
 obtain ⟨QW, Xw, h0⟩ := ob h0
 refine sr (s1 (tH (k := 0) rfl rfl rfl) (s1 (tH (k := 1) rfl rfl rfl) (sa rfl (sn (sr (s1 (far (k := 1) rfl iT iY rfl) (s1 (bg rfl (ah iY tN rfl rfl)) (s1 (far (k := 0) rfl FT GY rfl) (s1 (bg rfl (ah GY VP rfl rfl)) ?_)))))))))
 refine c0 (IQ p0.aV p1.Pred _ Xw) wf rfl rfl rfl aqo rfl (fun _ => rfl) (fun _ => rfl) (sa rfl (sn (sq (sr (sm rfl (s1 (bi rfl rfl bS) (sn (cB h0 rfl (fun h0 => ?_) (fun h0 => ?_)))))))))
 ·have q := si h0; subst q
  exact sr (sm rfl (sa rfl (sn (SC.ret (bQ (wc (e' := [(4, .d (eI QW))]) [] [] (by kernel_rfl) rfl (by kernel_rfl)) (aZ rfl aX) rfl)))))
 ·refine sk (sq (SC.bV h0 (fun y => ⟨mk 87 [(2, .ref 0 0 0), (3, .ref 1 0 0), (31, .d (eB y))], [.box (.d (aK p0)), .box (.d (bK p1))]⟩) ?_ ?_))
  ·intro aoq h1
   refine SC.region (s1 (far (k := 1) rfl JL dQ rfl) (s1 (bg rfl (ah dQ iZ rfl rfl)) (s1 (len rfl rfl rfl (bC bZ)) (s1 (bi rfl rfl bM) (sm rfl (sp h1 (fun h1 => ?_) (fun h1 => ?_)))))))
   ·have q := si h1; subst q
    refine kw rfl (kw rfl (kw rfl (kw rfl (s1 (pkt rfl rfl) (sm rfl (kw rfl (kw rfl (kw rfl (s1 (pkt rfl rfl) ?_)))))))))
    exact SO.nil ((wq rfl))
   ·refine gw rfl (far (k := 2) rfl JK iG rfl) (gw rfl (bg rfl (ah iG rC rfl rfl)) (gw rfl (len rfl rfl rfl (bC jO)) (gw rfl (bi rfl rfl bM) (s1 (dx rfl rfl) (sm rfl (sp h1 (fun h1 => ?_) (fun h1 => ?_)))))))
    ·have q := si h1; subst q
     exact kw rfl (kw rfl (kw rfl (s1 (pkt rfl rfl) (SO.nil ((wq rfl))))))
    ·have q := si h1; subst q
     exact gw rfl (far (k := 3) rfl afk bD rfl) (gw rfl (bg rfl (ah bD dH rfl rfl)) (gw rfl (bi rfl rfl aJ) (s1 (dx rfl rfl) (SO.nil ((wq rfl))))))
  ·rintro ags h0
   refine cB h0 rfl (fun h0 => ?_) (fun h0 => ?_)
   ·have q := si h0; subst q
    exact sr (sa rfl (sn (SC.ret (bQ (wc (e' := [(4, .d (eI (1 : Int)))]) [] [] (by kernel_rfl) rfl (by kernel_rfl)) (aZ rfl aX) rfl))))
   ·refine sk (SC.seqB h0 (fun y => ⟨mk 87 [(2, .ref 0 0 0), (3, .ref 1 0 0)], [.box (.d (aK p0)), .box (.d (bK p1))]⟩) ?_ ?_)
    ·intro aom h1 h0
     obtain ⟨anN, h2, h1⟩ := ob h1
     refine sr (sa rfl (sn (SC.blk (SC.dL h2 (fun y => ⟨mk 87 [(2, .ref 0 0 0), (3, .ref 1 0 0), (6, .d (eI y))], [.box (.d (aK p0)), .box (.d (bK p1))]⟩) (wq rfl) ?_))))
     intro n332
     rintro Tw amk h3 hv3
     refine sq (sr (sm rfl (s1 (far (k := 1) rfl JL dQ rfl) (s1 (bg rfl (ah dQ iZ rfl rfl)) (s1 (len rfl rfl rfl (bC bZ)) (s1 (bi rfl rfl aJ) (sn (cB h3 rfl (fun h3 => ?_) (fun h3 => ?_)))))))))
     ·refine sk (sq (SC.blk (SC.bV h3 (fun y => ⟨mk 87 [(2, .ref 0 0 0), (3, .ref 1 0 0), (6, .d (eI Tw)), (55, .d (eB y))], [.box (.d (aK p0)), .box (.d (bK p1))]⟩) ?_ ?_)))
      ·intro ano h4
       obtain ⟨agO, acE, h4⟩ := ob h4
       refine SC.draws (by kernel_rfl) (t1 ([], false) (far (k := 1) rfl JL dQ rfl) rfl (t1 ([1], false) (bg rfl (ah dQ iZ rfl rfl)) rfl (t1 ([], false) (mv rfl) rfl (t1 ([], false) (jo rfl rfl bZ bD (aj acE).1 (aY (aj acE).2) rfl) rfl (t1 ([], false) (bg rfl (bN bD dH rfl)) rfl (t1 ([], false) (bi rfl rfl aJ) rfl (t1 ([], false) (mv rfl) rfl (tp h4 (fun h4 => ?_) (fun h4 => ?_)))))))))
       ·have q := si h4; subst q
        refine jw rfl (jw rfl (jw rfl (jw rfl (jw rfl (jw rfl (jw rfl (jw rfl (jw rfl (t1 ([], false) (pkt rfl rfl) rfl ?_)))))))))
        refine ST.nil (And.intro (by decide +kernel) ?_)
        exact (wq rfl)
       ·obtain ⟨agN, acD, h4⟩ := ob h4; have q := si h4; subst q
        refine u1 ([], false) (ww rfl) (far (k := 1) rfl JL dQ rfl) rfl (u1 ([1], false) (ww rfl) (bg rfl (ah dQ iZ rfl rfl)) rfl (u1 ([], false) (ww rfl) (mv rfl) rfl (u1 ([], false) (ww rfl) (jo rfl rfl bZ bD (aj acD).1 (aY (aj acD).2) rfl) rfl (u1 ([], false) (ww rfl) (bg rfl (bN bD dH rfl)) rfl (u1 ([], false) (ww rfl) (far (k := 1) rfl iT iY rfl) rfl (u1 ([0], false) (ww rfl) (bg rfl (ah iY tN rfl rfl)) rfl (u1 ([], false) (ww rfl) (len rfl rfl rfl (bC qp)) rfl (u1 ([], false) (ww rfl) (bi rfl rfl dW) rfl (t1 ([], false) (dx rfl rfl) rfl ?_)))))))))
        refine ST.nil (And.intro (by decide +kernel) ?_)
        exact (wq rfl)
      ·rintro agq h3
       refine cB h3 rfl (fun h3 => ?_) (fun h3 => ?_)
       ·have q := si h3; subst q; have q : _ = _ := hv3; subst q; have q := si h1; subst q; have q := si h0; subst q
        exact sr (sa rfl (sn (SC.ret (bQ (wc (e' := [(4, .d (eI (1 : Int)))]) [] [] (by kernel_rfl) rfl (by kernel_rfl)) (aZ rfl aX) rfl))))
       ·refine SC.skip ?_
        change SC _ _ _ _ _
        have q := si h3; subst q
        exact SC.region (sm rfl (s1 (bi rfl rfl aT) (sa rfl (SO.nil (lf (wq rfl))))))
     ·have q := si h3; subst q; have q : _ = _ := hv3; subst q; have q := si h1; subst q
      exact SC.exit (lf (wq rfl))
    ·intro _ h0
     refine SC.seqB h0 (fun y => ⟨mk 87 [], []⟩) ?_ ?_
     ·intro adB h1 h0
      obtain ⟨anK, h2, h1⟩ := ob h1
      refine sr (sa rfl (sn (SC.blk (SC.dL h2 (fun y => ⟨mk 87 [(2, .ref 0 0 0), (3, .ref 1 0 0), (7, .d (eI y))], [.box (.d (aK p0)), .box (.d (bK p1))]⟩) (wq rfl) ?_))))
      intro arJ
      rintro Ml amh h3 hv3
      refine sq (sr (sm rfl (s1 (far (k := 2) rfl JK iG rfl) (s1 (bg rfl (ah iG rC rfl rfl)) (s1 (len rfl rfl rfl (bC jO)) (s1 (bi rfl rfl aJ) (sn (cB h3 rfl (fun h3 => ?_) (fun h3 => ?_)))))))))
      ·obtain ⟨Vy, acA, h3⟩ := ob h3
       refine sk (sq (SC.blk (sr (s1 (far (k := 2) rfl JK iG rfl) (s1 (bg rfl (ah iG rC rfl rfl)) (sm rfl (s1 (jo rfl rfl jO rz (aj acA).1 (aY (aj acA).2) rfl) (s1 (fap rfl wC bD rfl) (s1 (bg rfl (bN bD dH rfl)) ?_)))))))))
       refine sa rfl (sn (SC.bV h3 (fun y => ⟨mk 87 [(2, .ref 0 0 0), (3, .ref 1 0 0), (7, .d (eI Ml)), (86, .d (eB y))], [.box (.d (aK p0)), .box (.d (bK p1))]⟩) ?_ ?_))
       ·intro anj h4
        refine SC.region (sm rfl (s1 (bi rfl rfl aJ) (sm rfl (sp h4 (fun h4 => ?_) (fun h4 => ?_)))))
        ·have q := si h4; subst q
         refine kw rfl (kw rfl (kw rfl (kw rfl (kw rfl (s1 (pkt rfl rfl) (sm rfl (kw rfl (kw rfl (kw rfl ?_)))))))))
         exact kw rfl (kw rfl (kw rfl (kw rfl (s1 (pkt rfl rfl) (SO.nil ((wq rfl)))))))
        ·refine gw rfl (mv rfl) (gw rfl (far (k := 1) rfl iT iY rfl) (gw rfl (bg rfl (ah iY tN rfl rfl)) (gw rfl (len rfl rfl rfl (bC qp)) (gw rfl (bi rfl rfl dW) (s1 (dx rfl rfl) (sm rfl (sp h4 (fun h4 => ?_) (fun h4 => ?_))))))))
         ·have q := si h4; subst q
          exact kw rfl (kw rfl (kw rfl (kw rfl (kw rfl (kw rfl (kw rfl (s1 (pkt rfl rfl) (SO.nil ((wq rfl))))))))))
         ·obtain ⟨ajf, h4⟩ := gd h4; obtain ⟨adI, aio, h4⟩ := ob h4; obtain ⟨ahn, ain, h4⟩ := ob h4; have q := si h4; subst q
          exact gw rfl (far (k := 2) rfl JK iG rfl) (gw rfl (bg rfl (ah iG rC rfl rfl)) (gw rfl (mv rfl) (gw rfl (VU rfl rfl rfl rfl (LA jO rz ajf)) (c0 (nN (List.take Ml.toNat p1.Order) _ aio) (ww rfl) rfl rfl rfl X7 rfl (fun _ => rfl) (fun _ => rfl) (gw rfl (mv rfl) (c0 (jC adI Vy.Col _ ain) (ww rfl) rfl rfl rfl NQ rfl (fun _ => rfl) (fun _ => rfl) (s1 (dx rfl rfl) (SO.nil ((wq rfl))))))))))
       ·rintro agn h3
        refine cB h3 rfl (fun h3 => ?_) (fun h3 => ?_)
        ·have q := si h3; subst q; have q : _ = _ := hv3; subst q; have q := si h1; subst q; have q := si h0; subst q
         exact sr (sa rfl (sn (SC.ret (bQ (wc (e' := [(4, .d (eI (1 : Int)))]) [] [] (by kernel_rfl) rfl (by kernel_rfl)) (aZ rfl aX) rfl))))
        ·refine SC.skip ?_
         change SC _ _ _ _ _
         have q := si h3; subst q
         exact SC.region (sm rfl (s1 (bi rfl rfl aT) (sa rfl (SO.nil (lf (wq rfl))))))
      ·have q := si h3; subst q; have q : _ = _ := hv3; subst q; have q := si h1; subst q
       exact SC.exit (lf (wc [] [] (by kernel_rfl) rfl (by kernel_rfl)))
     ·intro _ h0
      have q := si h0; subst q
      exact sr (sa rfl (sn (SC.ret (bQ (Wk.refl _) (aZ rfl aX) rfl))))
noncomputable def kY (p0 : List bq) : Option ((List Int)) :=
 Option.bind (α := (List Int))
 (Option.bind (α := (List Int))
 (loop (Y := (List Int) × (List Int) × Int) (W := (List Int)) (fun (Ox, Dz, tJ) =>
 bif (decide (tJ < (p0.length : Int))) then
 Option.bind (bG p0 tJ) fun ads =>
 Option.bind (dO ads.Kind) fun MW =>
 Option.bind (α := Int)
 (bif (decide (MW > (0 : Int))) then
 Option.bind (bG Dz (bF ((Dz.length : Int) - MW))) fun agB =>
 Option.bind (bG Ox agB) fun agA =>
 some agA
 else
 some tJ)
 fun Tp =>
 bif decide ((Ox.length + [Tp].length) * 8 ≤ room) then
 bif decide (0 ≤ (bF ((Dz.length : Int) - MW)) ∧ (bF ((Dz.length : Int) - MW)) ≤ (Dz.length : Int)) then
 bif decide (0 + ((bF ((Dz.length : Int) - MW)).toNat) ≤ Dz.length) then
 bif decide ((((bF ((Dz.length : Int) - MW)).toNat) + [tJ].length) * 8 ≤ room) then
 some (Sum.inl ((Ox ++ [Tp]), (List.take ((bF ((Dz.length : Int) - MW)).toNat) (List.drop 0 Dz) ++ [tJ]), (bF (tJ + (1 : Int)))))
 else none
 else none
 else none
 else none
 else
 some (Sum.inr Ox)) (([] : List Int), ([] : List Int), (0 : Int)))
 (fun e => some e))
 fun Oy =>
 bif decide (0 ≤ (p0.length : Int) ∧ (p0.length : Int) * 1 ≤ 70368744177664 ∧ (p0.length : Int) ≤ 70368744177664) then
 Option.bind (bG (List.replicate (p0.length : Int).toNat false) (bF ((p0.length : Int) - (1 : Int)))) fun amG =>
 Option.bind (α := (List Bool))
 (Option.bind (α := (List Bool))
 (loop (Y := (List Bool) × Int) (W := (List Bool)) (fun (Kw, Dx) =>
 bif (decide (Dx ≥ (0 : Int))) then
 Option.bind (α := (List Bool))
 (Option.bind (α := Bool)
 (Option.bind (bG Kw Dx) fun agz =>
 bif agz then
 Option.bind (bG p0 Dx) fun Mw =>
 some (Mw.Kind == (4 : Int))
 else
 some false)
 fun af7 =>
 bif af7 then
 Option.bind (bG Kw (bF (Dx - (1 : Int)))) fun amE =>
 Option.bind (bG Oy (bF (Dx - (1 : Int)))) fun Y7 =>
 Option.bind (bG (List.set Kw ((bF (Dx - (1 : Int))).toNat) true) (bF (Y7 - (1 : Int)))) fun amD =>
 Option.bind (bG (List.set (List.set Kw ((bF (Dx - (1 : Int))).toNat) true) ((bF (Y7 - (1 : Int))).toNat) true) Dx) fun amC =>
 some (List.set (List.set (List.set Kw ((bF (Dx - (1 : Int))).toNat) true) ((bF (Y7 - (1 : Int))).toNat) true) Dx.toNat false)
 else
 some Kw)
 fun af8 =>
 some (Sum.inl (af8, (bF (Dx - (1 : Int)))))
 else
 some (Sum.inr Kw)) ((List.set (List.replicate (p0.length : Int).toNat false) ((bF ((p0.length : Int) - (1 : Int))).toNat) true), (bF ((p0.length : Int) - (1 : Int)))))
 (fun e => some e))
 fun Ky =>
 Option.bind (α := (List Int))
 (Option.bind (α := (List Int))
 (loop (Y := (List Int) × Int) (W := (List Int)) (fun (Gl, wO) =>
 bif (decide (wO < (p0.length : Int))) then
 Option.bind (α := (List Int))
 (Option.bind (α := Bool)
 (Option.bind (bG Ky wO) fun aa8 =>
 bif aa8 then
 Option.bind (bG p0 wO) fun aa7 =>
 bif (aa7.Kind == (2 : Int)) then
 some true
 else
 Option.bind (bG p0 wO) fun aa6 =>
 some (aa6.Kind == (3 : Int))
 else
 some false)
 fun aaN =>
 bif aaN then
 bif decide ((Gl.length + [wO].length) * 8 ≤ room) then
 some (Gl ++ [wO])
 else none
 else
 some Gl)
 fun aaO =>
 some (Sum.inl (aaO, (bF (wO + (1 : Int)))))
 else
 some (Sum.inr Gl)) (([] : List Int), (0 : Int)))
 (fun e => some e))
 fun Sg =>
 some Sg
 else none
theorem CP (p0 : List bq) (r : (List Int)) (h0 : kY p0 = some r) : aO Tryz.prog 83 [.d ((eL 6 au) p0)] [] (.d ((eL 1 eI) r)) [] := by
 unfold kY at h0
 refine fn0 [0] Tryz.func83 rfl rfl rfl rfl rfl ?_
 refine sr (s1 (lX (v := .d .dn) rfl) (sn (sr (s1 (lX (v := .d .dn) rfl) (sn (sr (s1 (lX (v := .d .dn) rfl) (sn (SC.bV h0 (fun y => ⟨mk 123 [(0, .d ((eL 6 au) p0)), (3, .slc 0 1 0 y.length none)], [.row 1 (List.map eI y) true]⟩) ?_ ?_)))))))))
 ·intro aoa h1
  obtain ⟨anA, h2, h1⟩ := ob h1
  refine sr (sa rfl (sn (SC.blk (SC.dL h2 (fun y => ⟨mk 123 [(0, .d ((eL 6 au) p0)), (3, .slc 0 1 0 y.1.length none), (4, .slc 1 1 0 y.2.1.length none), (5, .d (eI y.2.2))], [.row 1 (List.map eI y.1) true, .row 1 (List.map eI y.2.1) true]⟩) (Wk.trans (Wk.mo (σ' := [.row 1 (List.map eI ([] : List Int)) true]) (.row 1 [] true) (fun _ hh => by cases hh) rfl) (Wk.trans (Wk.env (e' := [(0, .d ((eL 6 au) p0)), (3, .slc 0 1 0 (([] : List Int).length) none), (4, .d .dn), (5, .d (eI (0 : Int)))]) (EW.cons (AW.refl _) (EW.cons (AW.mg _ _ _) (EW.cons (AW.refl _) (EW.cons (AW.refl _) EW.nil))))) (Wk.trans (Wk.mo (σ' := [.row 1 (List.map eI ([] : List Int)) true, .row 1 (List.map eI ([] : List Int)) true]) (.row 1 [] true) (fun _ hh => by cases hh) rfl) (Wk.trans (Wk.env (e' := [(0, .d ((eL 6 au) p0)), (3, .slc 0 1 0 (([] : List Int).length) none), (4, .slc 1 1 0 (([] : List Int).length) none), (5, .d (eI (0 : Int)))]) (EW.cons (AW.refl _) (EW.cons (AW.refl _) (EW.cons (AW.mg _ _ _) (EW.cons (AW.refl _) EW.nil))))) (wq rfl))))) ?_))))
  intro arA
  rintro ⟨Ox, Dz, tJ⟩ ama h3 hv3
  refine sq (sr (sm rfl (sm rfl (s1 (len rfl rfl rfl (bC vQ)) (s1 (bi rfl rfl aJ) (sn (cB h3 rfl (fun h3 => ?_) (fun h3 => ?_))))))))
  ·obtain ⟨ads, ab4, h3⟩ := ob h3; obtain ⟨MW, ah1, h3⟩ := ob h3
   refine sk (sq (SC.blk (sr (sm rfl (sm rfl (s1 (jo rfl rfl vQ zR (aj ab4).1 (aY (aj ab4).2) rfl) (s1 (fap rfl eF bD rfl) (s1 (bg rfl (bN bD dH rfl)) (c0 (dG ads.Kind _ ah1) wf rfl rfl rfl yO rfl (fun _ => rfl) (fun _ => rfl) ?_)))))))))
   refine sa rfl (sn (sr (sm rfl (sa rfl (sn (SC.bV h3 (fun y => ⟨mk 123 [(0, .d ((eL 6 au) p0)), (3, .slc 0 1 0 Ox.length none), (4, .slc 1 1 0 Dz.length none), (5, .d (eI tJ)), (6, .d (eI MW)), (7, .d (eI y))], [.row 1 (List.map eI Ox) true, .row 1 (List.map eI Dz) true]⟩) ?_ ?_))))))
   ·intro ane h4
    refine sr (sm rfl (s1 (bi rfl rfl bM) (sn (cB h4 rfl (fun h4 => ?_) (fun h4 => ?_)))))
    ·obtain ⟨agB, ab3, h4⟩ := ob h4; obtain ⟨agA, ab2, h4⟩ := ob h4; have q := si h4; subst q
     refine SC.region (sm rfl (sm rfl (sm rfl (s1 (len rfl rfl rfl (dP bZ)) (sm rfl (s1 (bi rfl rfl dK) (s1 (JC rfl rfl bZ bD (iL ab3)) (s1 (bg rfl (jr bD dH rfl (aY (aj ab3).2) rfl)) (s1 (JC rfl rfl bZ bD (iL ab2)) ?_)))))))))
     exact s1 (bg rfl (jr bD dH rfl (aY (aj ab2).2) rfl)) (sa rfl (SO.nil ((wq rfl))))
    ·have q := si h4; subst q
     exact SC.skip ((wq rfl))
   ·rintro Tp h3
    obtain ⟨ai8, h3⟩ := gd h3; obtain ⟨ai7, h3⟩ := gd h3; obtain ⟨ai5, h3⟩ := gd h3; obtain ⟨ai6, h3⟩ := gd h3
    refine sr (sm rfl (sm rfl (s1 (sM (k := 2) (ds := List.map eI [Tp]) (off := 0) (l' := [Tp].length) rfl bZ xH rfl rfl (by rfl) rfl rfl rfl) (s1 (app rfl rfl rfl rfl yR (aF (f := eI) (xs := Ox) (k := 3) rfl bZ xH rfl (eY (xs := [Tp]) rfl) ai8 rfl)) (sa rfl (sn (SC.region (sm rfl (sm rfl ?_)))))))))
    refine s1 (len rfl rfl rfl (dP bZ)) (sm rfl (s1 (bi rfl rfl dK) (s1 (VU rfl rfl rfl rfl (sZ bZ bD ai7)) (sm rfl (s1 (sM (k := 4) (ds := List.map eI [tJ]) (off := 0) (l' := [tJ].length) rfl bZ xH rfl rfl (by rfl) rfl rfl rfl) (s1 (app rfl rfl rfl rfl yR (aS (f := eI) (xs := Dz) (k := 5) bZ xH rfl ai5 (eY (xs := [tJ]) rfl) ai6 rfl)) (sa rfl (SO.nil ?_))))))))
    change SC _ _ _ _ _
    have q := si h3; subst q
    exact SC.region (sm rfl (s1 (bi rfl rfl aT) (sa rfl (SO.nil (lf (wc [3, 5] [3, 5] (by kernel_rfl) rfl (by kernel_rfl)))))))
  ·have q := si h3; subst q; have q : _ = _ := hv3; subst q; have q := si h1; subst q
   exact SC.exit ((wc [0] [0] (by kernel_rfl) rfl (by kernel_rfl)))
 ·rintro Oy h0
  obtain ⟨ai4, h0⟩ := gd h0; obtain ⟨amG, ab1, h0⟩ := ob h0
  refine sr (sm rfl (s1 (len rfl rfl rfl (bC vQ)) (s1 (mks (f := eB) (u := false) (k := 1) rfl rfl GX ei4 rfl ai4 rfl) (sa rfl (sn (sr (sm rfl (sm rfl (s1 (len rfl rfl rfl (bC vQ)) ?_)))))))))
  refine s1 (bi rfl rfl dK) (s1 (JC rfl rfl GX jZ (iL ab1)) (s0 (jP (b := .d (eB true)) rfl rfl (sR (f := eB) (v := true) jZ rfl rfl rfl rfl (aj ab1).2 rfl rfl)) (sn (sr (s1 (lX (v := .d .dn) rfl) (sn (SC.bV h0 (fun y => ⟨mk 123 [(0, .d ((eL 6 au) p0)), (8, .slc 0 1 0 y.length none), (9, .d .dn)], [.row 1 (List.map eB y) true]⟩) ?_ ?_)))))))
  ·intro an5 h1
   obtain ⟨anw, h2, h1⟩ := ob h1
   refine sr (sm rfl (s1 (len rfl rfl rfl (bC vQ)) (s1 (bi rfl rfl dK) (sa rfl (sn (SC.blk (SC.dL h2 (fun y => ⟨mk 123 [(0, .d ((eL 6 au) p0)), (3, .slc 0 1 0 Oy.length none), (8, .slc 1 1 0 y.1.length none), (9, .d .dn), (10, .d (eI y.2))], [.row 1 (List.map eI Oy) true, .row 1 (List.map eB y.1) true]⟩) (Wk.env (EW.cons (AW.refl _) (EW.cons (AW.refl _) (EW.cons (AW.slc rfl (by simp)) (EW.cons (AW.refl _) (EW.cons (AW.refl _) EW.nil)))))) ?_)))))))
   intro arw
   rintro ⟨Kw, Dx⟩ al7 h3 hv3
   refine sq (sr (sm rfl (s1 (bi rfl rfl dW) (sn (cB h3 rfl (fun h3 => ?_) (fun h3 => ?_))))))
   ·refine sk (SC.bV h3 (fun y => ⟨mk 123 [(0, .d ((eL 6 au) p0)), (3, .slc 0 1 0 Oy.length none), (8, .slc 1 1 0 y.length none), (9, .d .dn), (10, .d (eI Dx))], [.row 1 (List.map eI Oy) true, .row 1 (List.map eB y) true]⟩) ?_ ?_)
    ·intro am9 h4
     refine SC.blk (SC.bV h4 (fun y => ⟨mk 123 [(0, .d ((eL 6 au) p0)), (3, .slc 0 1 0 Oy.length none), (8, .slc 1 1 0 Kw.length none), (9, .d .dn), (10, .d (eI Dx)), (76, .d (eB y))], [.row 1 (List.map eI Oy) true, .row 1 (List.map eB Kw) true]⟩) ?_ ?_)
     ·intro amV h5
      obtain ⟨agz, abY, h5⟩ := ob h5
      refine SC.region (sm rfl (sm rfl (s1 (JC rfl rfl GX jZ (iL abY)) (s1 (bg rfl (jr jZ wS rfl (aY (aj abY).2) rfl)) (sm rfl (sp h5 (fun h5 => ?_) (fun h5 => ?_)))))))
      ·obtain ⟨Mw, PI, h5⟩ := ob h5; have q := si h5; subst q
       exact gw rfl (mv rfl) (gw rfl (mv rfl) (gw rfl (jo rfl rfl vQ zR (aj PI).1 (aY (aj PI).2) rfl) (gw rfl (fap rfl eF bD rfl) (gw rfl (bg rfl (bN bD dH rfl)) (gw rfl (bi rfl rfl aM) (s1 (pkt rfl rfl) (SO.nil ((wq rfl)))))))))
      ·have q := si h5; subst q
       exact kw rfl (kw rfl (kw rfl (kw rfl (kw rfl (kw rfl (s1 (dx rfl rfl) (SO.nil ((wq rfl)))))))))
     ·rintro af7 h4
      refine cB h4 rfl (fun h4 => ?_) (fun h4 => ?_)
      ·obtain ⟨amE, abX, h4⟩ := ob h4; obtain ⟨Y7, abW, h4⟩ := ob h4; obtain ⟨amD, abV, h4⟩ := ob h4; obtain ⟨amC, abU, h4⟩ := ob h4; have q := si h4; subst q
       refine sr (sm rfl (sm rfl (s1 (bi rfl rfl dK) (s1 (JC rfl rfl GX jZ (iL abX)) (s0 (jP (b := .d (eB true)) rfl rfl (sR (f := eB) (v := true) jZ rfl rfl rfl rfl (aj abX).2 rfl rfl)) (sn (sr (sm rfl (sm rfl ?_)))))))))
       refine sm rfl (s1 (bi rfl rfl dK) (s1 (JC rfl rfl bZ bD (iL abW)) (s1 (bg rfl (jr bD dH rfl (aY (aj abW).2) rfl)) (s1 (bi rfl rfl dK) (s1 (JC rfl rfl GX jZ (by have q := iL abV; simpa using q)) (s0 (jP (b := .d (eB true)) rfl rfl (sR (f := eB) (v := true) jZ rfl rfl rfl rfl (aj abV).2 rfl rfl)) (sn (SC.region (sm rfl ?_)))))))))
       exact sm rfl (s1 (JC rfl rfl GX jZ (by have q := iL abU; simpa using q)) (s0 (jP (b := .d (eB false)) rfl rfl (sR (f := eB) (v := false) jZ rfl rfl rfl rfl (aj abU).2 rfl rfl)) (SO.nil ((Wk.env (EW.cons (AW.refl _) (EW.cons (AW.refl _) (EW.cons (AW.slc rfl (by simp)) (EW.cons (AW.refl _) (EW.cons (AW.refl _) EW.nil))))))))))
      ·have q := si h4; subst q
       exact SC.skip ((wq rfl))
    ·rintro af8 h3
     have q := si h3; subst q
     exact SC.region (sm rfl (s1 (bi rfl rfl dK) (sa rfl (SO.nil (lf (wq rfl))))))
   ·have q := si h3; subst q; have q : _ = _ := hv3; subst q; have q := si h1; subst q
    exact SC.exit ((wc [1] [1] (by kernel_rfl) rfl (by kernel_rfl)))
  ·rintro Ky h0
   refine SC.bV h0 (fun y => ⟨mk 123 [(9, .slc 0 1 0 y.length none)], [.row 1 (List.map eI y) true]⟩) ?_ ?_
   ·intro alZ h1
    obtain ⟨alK, h2, h1⟩ := ob h1
    refine sr (sa rfl (sn (SC.blk (SC.dL h2 (fun y => ⟨mk 123 [(0, .d ((eL 6 au) p0)), (8, .slc 0 1 0 Ky.length none), (9, .slc 1 1 0 y.1.length none), (11, .d (eI y.2))], [.row 1 (List.map eB Ky) true, .row 1 (List.map eI y.1) true]⟩) (Wk.trans (Wk.mo (σ' := [.row 1 (List.map eB Ky) true, .row 1 (List.map eI ([] : List Int)) true]) (.row 1 [] true) (fun _ hh => by cases hh) rfl) (Wk.trans (Wk.env (e' := [(0, .d ((eL 6 au) p0)), (8, .slc 0 1 0 Ky.length none), (9, .slc 1 1 0 (([] : List Int).length) none), (11, .d (eI (0 : Int)))]) (EW.cons (AW.refl _) (EW.cons (AW.refl _) (EW.cons (AW.mg _ _ _) (EW.cons (AW.refl _) EW.nil))))) (wq rfl))) ?_))))
    intro arn
    rintro ⟨Gl, wO⟩ akO h3 hv3
    refine sq (sr (sm rfl (sm rfl (s1 (len rfl rfl rfl (bC vQ)) (s1 (bi rfl rfl aJ) (sn (cB h3 rfl (fun h3 => ?_) (fun h3 => ?_))))))))
    ·refine sk (SC.bV h3 (fun y => ⟨mk 123 [(0, .d ((eL 6 au) p0)), (8, .slc 0 1 0 Ky.length none), (9, .slc 1 1 0 y.length none), (11, .d (eI wO))], [.row 1 (List.map eB Ky) true, .row 1 (List.map eI y) true]⟩) ?_ ?_)
     ·intro alz h4
      refine SC.blk (SC.bV h4 (fun y => ⟨mk 123 [(0, .d ((eL 6 au) p0)), (8, .slc 0 1 0 Ky.length none), (9, .slc 1 1 0 Gl.length none), (11, .d (eI wO)), (117, .d (eB y))], [.row 1 (List.map eB Ky) true, .row 1 (List.map eI Gl) true]⟩) ?_ ?_)
      ·intro alm h5
       obtain ⟨aa8, Xn, h5⟩ := ob h5
       refine SC.region (sm rfl (sm rfl (s1 (JC rfl rfl GX jZ (iL Xn)) (s1 (bg rfl (jr jZ wS rfl (aY (aj Xn).2) rfl)) (sm rfl (sp h5 (fun h5 => ?_) (fun h5 => ?_)))))))
       ·obtain ⟨aa7, Xm, h5⟩ := ob h5
        refine gw rfl (mv rfl) (gw rfl (mv rfl) (gw rfl (jo rfl rfl vQ zR (aj Xm).1 (aY (aj Xm).2) rfl) (gw rfl (fap rfl eF bD rfl) (gw rfl (bg rfl (bN bD dH rfl)) (gw rfl (bi rfl rfl aM) (gw rfl (mv rfl) (sp h5 (fun h5 => ?_) (fun h5 => ?_))))))))
        ·have q := si h5; subst q
         exact kw rfl (kw rfl (kw rfl (kw rfl (kw rfl (kw rfl (gw rfl (pkt rfl rfl) (s1 (pkt rfl rfl) (SO.nil ((wq rfl))))))))))
        ·obtain ⟨aa6, Xl, h5⟩ := ob h5; have q := si h5; subst q
         exact gw rfl (mv rfl) (gw rfl (mv rfl) (gw rfl (jo rfl rfl vQ zR (aj Xl).1 (aY (aj Xl).2) rfl) (gw rfl (fap rfl eF bD rfl) (gw rfl (bg rfl (bN bD dH rfl)) (gw rfl (bi rfl rfl aM) (gw rfl (dx rfl rfl) (s1 (pkt rfl rfl) (SO.nil ((wq rfl))))))))))
       ·have q := si h5; subst q
        refine kw rfl (kw rfl (kw rfl (kw rfl (kw rfl (kw rfl (kw rfl (kw rfl (kw rfl (kw rfl ?_)))))))))
        exact kw rfl (kw rfl (kw rfl (kw rfl (s1 (dx rfl rfl) (SO.nil ((wq rfl)))))))
      ·rintro aaN h4
       refine cB h4 rfl (fun h4 => ?_) (fun h4 => ?_)
       ·obtain ⟨afh, h4⟩ := gd h4; have q := si h4; subst q
        exact SC.region (sm rfl (sm rfl (s1 (sM (k := 2) (ds := List.map eI [wO]) (off := 0) (l' := [wO].length) rfl bZ xH rfl rfl (by rfl) rfl rfl rfl) (s1 (app rfl rfl rfl rfl yR (aF (f := eI) (xs := Gl) (k := 3) rfl bZ xH rfl (eY (xs := [wO]) rfl) afh rfl)) (sa rfl (SO.nil ((wc [0, 3] [0, 3] (by kernel_rfl) rfl (by kernel_rfl)))))))))
       ·have q := si h4; subst q
        exact SC.skip ((wq rfl))
     ·rintro aaO h3
      have q := si h3; subst q
      exact SC.region (sm rfl (s1 (bi rfl rfl aT) (sa rfl (SO.nil (lf (wq rfl))))))
    ·have q := si h3; subst q; have q : _ = _ := hv3; subst q; have q := si h1; subst q
     exact SC.exit ((wc [1] [1] (by kernel_rfl) rfl (by kernel_rfl)))
   ·rintro Sg h0
    have q := si h0; subst q
    exact sr (sm rfl (sa rfl (sn (SC.ret (bQ (Wk.trans (Wk.mM (i := 2) (x := .slc 0 1 0 Sg.length none) rfl rfl (fF rfl rfl rfl)) (wc (e' := [(2, .d ((eL 1 eI) Sg))]) [] [] (by kernel_rfl) rfl (by kernel_rfl))) (aZ rfl aX) rfl)))))
noncomputable def jJ (p0 : UInt64) (p1 : Int) : Option ((List UInt8)) :=
 Option.bind (α := (List UInt8))
 (loop (Y := Int × (List UInt8)) (W := (List UInt8)) (fun (BS, y31) =>
 bif (decide (BS ≥ (0 : Int))) then
 bif decide (0 ≤ (bF ((8 : Int) * BS))) then
 bif decide ((y31.length + [((dR p0 ((bF ((8 : Int) * BS)).toNat)).toUInt8)].length) * 1 ≤ room) then
 some (Sum.inl ((bF (BS - (1 : Int))), (y31 ++ [((dR p0 ((bF ((8 : Int) * BS)).toNat)).toUInt8)])))
 else none
 else none
 else
 some (Sum.inr y31)) ((bF (p1 - (1 : Int))), ([] : List UInt8)))
 (fun e => some e)
theorem wZ (p0 : UInt64) (p1 : Int) (r : (List UInt8)) (h0 : jJ p0 p1 = some r) : aO Tryz.prog 147 [.ref 0 0 0, .d (jM p0), .d (eI p1)] [.box (.d (.agg [.dn]))] (.tuple []) [.box (.agg [.slc 1 1 0 r.length none]), .row 1 (List.map gH r) true] := by
 unfold jJ at h0
 refine fn0 [0, 1, 2] Tryz.func147 rfl rfl rfl rfl rfl ?_
 obtain ⟨abh, h1, h0⟩ := ob h0
 refine sr (sm rfl (s1 (bi rfl rfl dK) (sa rfl (sn (SC.blk (SC.dL h1 (fun y => ⟨mk 27 [(0, .ref 0 0 0), (1, .d (jM p0)), (6, .d (eI y.1))], [.box (.agg [.slc 1 1 0 y.2.length none]), .row 1 (List.map gH y.2) true]⟩) (Wk.trans (Wk.mo (σ' := [.box (.d (.agg [.dn])), .row 1 (List.map gH ([] : List UInt8)) true]) (.row 1 [] true) (fun _ hh => by cases hh) rfl) (Wk.trans (Wk.Z4 (id := 0) (y := .agg [.slc 1 1 0 (([] : List UInt8).length) none]) (σ' := [.box (.agg [.slc 1 1 0 (([] : List UInt8).length) none]), .row 1 (List.map gH ([] : List UInt8)) true]) rfl (nK.cons (AW.mg _ _ _) nK.nil) rfl) (wq rfl))) ?_))))))
 intro n40
 rintro ⟨BS, y31⟩ agy h2 hv2
 refine sq (sr (sm rfl (s1 (bi rfl rfl dW) (sn (cB h2 rfl (fun h2 => ?_) (fun h2 => ?_))))))
 ·obtain ⟨ae8, h2⟩ := gd h2; obtain ⟨ae3, h2⟩ := gd h2
  refine sk (sq (SC.blk (SC.draws (by kernel_rfl) (t1 ([], false) (mv rfl) rfl (t1 ([], false) (mv rfl) rfl (t1 ([], false) (K8 rfl) rfl (t1 ([], false) (far (k := 0) rfl vK j4 rfl) rfl (t1 ([0], false) (bg rfl (ah j4 DY rfl rfl)) rfl (t1 ([], false) (mv rfl) rfl ?_)))))))))
  refine t1 ([], false) (mv rfl) rfl (t1 ([], false) (bi rfl rfl ng) rfl (t1 ([], false) (bi (v := .d (jM (dR p0 ((bF ((8 : Int) * BS)).toNat)))) rfl rfl (fun X Y => F8 _ X Y p0 _ ae8)) rfl (t1 ([], false) (Qw rfl (FZ QI TI (dR p0 ((bF ((8 : Int) * BS)).toNat)))) rfl (t1 ([2], true) (sM (k := 2) (ds := List.map gH [((dR p0 ((bF ((8 : Int) * BS)).toNat)).toUInt8)]) (off := 0) (l' := [((dR p0 ((bF ((8 : Int) * BS)).toNat)).toUInt8)].length) rfl iw PW rfl rfl (by rfl) rfl rfl rfl) rfl (t1 ([1, 2, 3], true) (app rfl rfl rfl rfl bc156 (aF (f := gH) (xs := y31) (k := 3) rfl iw PW rfl (eY (xs := [((dR p0 ((bF ((8 : Int) * BS)).toNat)).toUInt8)]) rfl) ae3 rfl)) rfl (t1 ([], false) (K8 rfl) rfl (t1 ([], false) (far (k := 0) rfl vK j4 rfl) rfl (t0 ([0, 3], true) (jP rfl rfl (sB (d' := .agg [.slc 3 1 0 ((y31 ++ [((dR p0 ((bF ((8 : Int) * BS)).toNat)).toUInt8)]).length) none]) j4 rfl rfl rfl rfl rfl rfl rfl)) rfl (ST.nil (And.intro (by decide +kernel) ?_))))))))))
  change SC _ _ _ _ _
  have q := si h2; subst q
  exact SC.region (sm rfl (s1 (bi rfl rfl dK) (sa rfl (SO.nil (lf (wc [0, 3] [0, 0] (by kernel_rfl) rfl (by kernel_rfl)))))))
 ·have q := si h2; subst q; have q : _ = _ := hv2; subst q; have q := si h0; subst q
  exact SC.exit (EK (Wk.refl _) aX rfl)
noncomputable def cO (p0 : UInt64) (p1 : Int) (p2 : List UInt8) : Option ((List UInt8)) :=
 Option.bind (α := (List UInt8))
 (loop (Y := Int × (List UInt8)) (W := (List UInt8)) (fun (BS, y31) =>
 bif (decide (BS ≥ (0 : Int))) then
 bif decide (0 ≤ (bF ((8 : Int) * BS))) then
 bif decide ((y31.length + [((dR p0 ((bF ((8 : Int) * BS)).toNat)).toUInt8)].length) * 1 ≤ room) then
 some (Sum.inl ((bF (BS - (1 : Int))), (y31 ++ [((dR p0 ((bF ((8 : Int) * BS)).toNat)).toUInt8)])))
 else none
 else none
 else
 some (Sum.inr y31)) ((bF (p1 - (1 : Int))), p2))
 (fun e => some e)
theorem iD (p0 : UInt64) (p1 : Int) (p2 : List UInt8) (r : (List UInt8)) (h0 : cO p0 p1 p2 = some r) : aO Tryz.prog 147 [.ref 0 0 0, .d (jM p0), .d (eI p1)] [.box (.agg [.slc 1 1 0 p2.length none]), .row 1 (List.map gH p2) true] (.tuple []) [.box (.agg [.slc 2 1 0 r.length none]), .dead, .row 1 (List.map gH r) true] := by
 unfold cO at h0
 refine fn0 [0, 1, 2] Tryz.func147 rfl rfl rfl rfl rfl ?_
 obtain ⟨abh, h1, h0⟩ := ob h0
 refine sr (sm rfl (s1 (bi rfl rfl dK) (sa rfl (sn (SC.blk (SC.dL h1 (fun y => ⟨mk 27 [(0, .ref 0 0 0), (1, .d (jM p0)), (6, .d (eI y.1))], [.box (.agg [.slc 2 1 0 y.2.length none]), .dead, .row 1 (List.map gH y.2) true]⟩) (Wk.trans (wq (e' := [(0, .ref 0 0 0), (1, .d (jM p0)), (6, .d (eI (bF (p1 - (1 : Int)))))]) rfl) (Wk.trans (Wk.move (e' := [(0, .ref 0 0 0), (1, .d (jM p0)), (6, .d (eI (bF (p1 - (1 : Int)))))]) (os := [.box (.agg [.slc 2 1 0 p2.length none]), .row 1 (List.map gH p2) true]) (o := .row 1 (List.map gH p2) true) (σ' := [.box (.agg [.slc 2 1 0 p2.length none]), .dead, .row 1 (List.map gH p2) true]) 1 (Nat.le_of_ble_eq_true rfl) rfl rfl rfl rfl) (wq rfl))) ?_))))))
 intro n40
 rintro ⟨BS, y31⟩ agy h2 hv2
 refine sq (sr (sm rfl (s1 (bi rfl rfl dW) (sn (cB h2 rfl (fun h2 => ?_) (fun h2 => ?_))))))
 ·obtain ⟨ae8, h2⟩ := gd h2; obtain ⟨ae3, h2⟩ := gd h2
  refine sk (sq (SC.blk (SC.draws (by kernel_rfl) (t1 ([], false) (mv rfl) rfl (t1 ([], false) (mv rfl) rfl (t1 ([], false) (K8 rfl) rfl (t1 ([], false) (far (k := 0) rfl vK j4 rfl) rfl (t1 ([0], false) (bg rfl (ah j4 DY rfl rfl)) rfl (t1 ([], false) (mv rfl) rfl ?_)))))))))
  refine t1 ([], false) (mv rfl) rfl (t1 ([], false) (bi rfl rfl ng) rfl (t1 ([], false) (bi (v := .d (jM (dR p0 ((bF ((8 : Int) * BS)).toNat)))) rfl rfl (fun X Y => F8 _ X Y p0 _ ae8)) rfl (t1 ([], false) (Qw rfl (FZ QI TI (dR p0 ((bF ((8 : Int) * BS)).toNat)))) rfl (t1 ([3], true) (sM (k := 3) (ds := List.map gH [((dR p0 ((bF ((8 : Int) * BS)).toNat)).toUInt8)]) (off := 0) (l' := [((dR p0 ((bF ((8 : Int) * BS)).toNat)).toUInt8)].length) rfl iw PW rfl rfl (by rfl) rfl rfl rfl) rfl (t1 ([2, 3, 4], true) (app rfl rfl rfl rfl bc156 (aF (f := gH) (xs := y31) (k := 4) rfl iw PW rfl (eY (xs := [((dR p0 ((bF ((8 : Int) * BS)).toNat)).toUInt8)]) rfl) ae3 rfl)) rfl (t1 ([], false) (K8 rfl) rfl (t1 ([], false) (far (k := 0) rfl vK j4 rfl) rfl (t0 ([0, 4], true) (jP rfl rfl (sB (d' := .agg [.slc 4 1 0 ((y31 ++ [((dR p0 ((bF ((8 : Int) * BS)).toNat)).toUInt8)]).length) none]) j4 rfl rfl rfl rfl rfl rfl rfl)) rfl (ST.nil (And.intro (by decide +kernel) ?_))))))))))
  change SC _ _ _ _ _
  have q := si h2; subst q
  exact SC.region (sm rfl (s1 (bi rfl rfl dK) (sa rfl (SO.nil (lf (Wk.trans (wq (e' := [(0, .ref 0 0 0), (1, .d (jM p0)), (6, .d (eI (bF (BS - (1 : Int)))))]) rfl) (wc [0, 1, 4] [0, 1, 0] (by kernel_rfl) rfl (by kernel_rfl))))))))
 ·have q := si h2; subst q; have q : _ = _ := hv2; subst q; have q := si h0; subst q
  exact SC.exit (EK (Wk.refl _) aX rfl)
noncomputable def pR (p0 : ak) (p1 : Bool) : Option ((List UInt8)) :=
 Option.bind (α := (List UInt8))
 (bif (p0.Kind == (0 : Int)) then
 Option.bind (jJ (0 : UInt64) (1 : Int)) fun ahm =>
 some ahm
 else
 Option.bind (jJ (1 : UInt64) (1 : Int)) fun V4 =>
 some V4)
 fun Ih =>
 Option.bind (α := (List UInt8))
 (bif (p0.Kind == (1 : Int)) then
 Option.bind (cO (p0.N ^^^ (9223372036854775808 : UInt64)) (8 : Int) Ih) fun ahk =>
 some ahk
 else
 bif (p0.Kind == (2 : Int)) then
 Option.bind (cO p0.N (8 : Int) Ih) fun ahj =>
 some ahj
 else
 bif (p0.Kind == (3 : Int)) then
 Option.bind (cO p0.N (1 : Int) Ih) fun ahi =>
 some ahi
 else
 Option.bind (α := Bool)
 (bif (p0.Kind == (4 : Int)) then
 some (p0.Kind == (4 : Int))
 else
 some (p0.Kind == (5 : Int)))
 fun agi =>
 bif agi then
 Option.bind (α := (List UInt8))
 (Option.bind (α := (List UInt8))
 (loop (Y := Int × (List UInt8)) (W := (List UInt8)) (fun (Cz, YJ) =>
 bif (decide (Cz < (p0.S.length : Int))) then
 Option.bind (α := (List UInt8))
 (Option.bind (bG p0.S Cz) fun Y8 =>
 Option.bind (cO (Y8.toUInt64) (1 : Int) YJ) fun Zq =>
 Option.bind (bG p0.S Cz) fun agC =>
 bif (agC == (0 : UInt8)) then
 Option.bind (cO (255 : UInt64) (1 : Int) Zq) fun ahh =>
 some ahh
 else
 some Zq)
 fun agh =>
 some (Sum.inl ((bF (Cz + (1 : Int))), agh))
 else
 some (Sum.inr YJ)) ((0 : Int), Ih))
 (fun e => some e))
 fun adn =>
 Option.bind (cO (0 : UInt64) (2 : Int) adn) fun ahg =>
 some ahg
 else
 some Ih)
 fun agj =>
 Option.bind (α := (List UInt8))
 (Option.bind (α := (List UInt8))
 (loop (Y := Int × (List UInt8)) (W := (List UInt8)) (fun (tJ, Ie) =>
 Option.bind (α := Bool)
 (bif (decide (tJ < (Ie.length : Int))) then
 some p1
 else
 some false)
 fun agd =>
 bif agd then
 Option.bind (bG Ie tJ) fun QB =>
 Option.bind (bG Ie tJ) fun amH =>
 some (Sum.inl ((bF (tJ + (1 : Int))), (List.set Ie tJ.toNat ((255 : UInt8) - QB))))
 else
 some (Sum.inr Ie)) ((0 : Int), agj))
 (fun e => some e))
 fun YI =>
 some YI
theorem G8 (p0 : ak) (p1 : Bool) (r : (List UInt8)) (h0 : pR p0 p1 = some r) : aO Tryz.prog 139 [.d (bA p0), .d (eB p1)] [] (.d ((eL 1 gH) r)) [] := by
 unfold pR at h0
 refine fn0 [0, 1] Tryz.func139 rfl rfl rfl rfl rfl ?_
 refine sr (s1 (tH (k := 0) rfl rfl rfl) (s1 (lX (v := .d .dn) rfl) (sn (sr (s1 (xI rfl (afM )) (s1 (tH (k := 1) rfl rfl rfl) (sa rfl (sn (SC.bV h0 (fun y => ⟨mk 94 [(1, .d (eB p1)), (2, .ref 0 0 0), (5, .ref 1 0 0)], [.box (.d (bA p0)), .box (.agg [.slc 2 1 0 y.length none]), .row 1 (List.map gH y) true]⟩) ?_ ?_)))))))))
 ·intro aoi h1
  refine sr (s1 (far (k := 0) rfl kN bD rfl) (s1 (bg rfl (ah bD dH rfl rfl)) (s1 (bi rfl rfl aM) (sn (cB h1 rfl (fun h1 => ?_) (fun h1 => ?_))))))
  ·obtain ⟨ahm, aij, h1⟩ := ob h1; have q := si h1; subst q
   exact SC.region (sm rfl (cq [1] [2] (wZ (0 : UInt64) (1 : Int) _ aij) wf rfl rfl rfl GI rfl rfl rfl rfl rfl rfl rfl rfl (SO.nil ((wq rfl)))))
  ·obtain ⟨V4, Xu, h1⟩ := ob h1; have q := si h1; subst q
   exact SC.region (sm rfl (cq [1] [2] (wZ (1 : UInt64) (1 : Int) _ Xu) wf rfl rfl rfl GI rfl rfl rfl rfl rfl rfl rfl rfl (SO.nil ((wq rfl)))))
 ·rintro Ih h0
  refine SC.bV h0 (fun y => ⟨mk 94 [(1, .d (eB p1)), (5, .ref 0 0 0)], [.box (.agg [.slc 1 1 0 y.length none]), .row 1 (List.map gH y) true]⟩) ?_ ?_
  ·intro aod h1
   refine sr (s1 (far (k := 0) rfl kN bD rfl) (s1 (bg rfl (ah bD dH rfl rfl)) (sn (SC.blk (sr (s1 (bi rfl rfl aM) (sa rfl (sn (cB h1 rfl (fun h1 => ?_) (fun h1 => ?_))))))))))
   ·obtain ⟨ahk, aie, h1⟩ := ob h1; have q := si h1; subst q
    exact SC.region (sm rfl (s1 (far (k := 1) rfl qI rA rfl) (s1 (bg rfl (ah rA CF rfl rfl)) (s1 (bi rfl rfl (LJ (b := (9223372036854775808 : UInt64)))) (cq [1, 2] [3] (iD (p0.N ^^^ (9223372036854775808 : UInt64)) (8 : Int) Ih _ aie) wf rfl rfl rfl GI rfl rfl rfl rfl rfl rfl rfl rfl (SO.nil ((wc [1, 3] [1] (by kernel_rfl) rfl (by kernel_rfl)))))))))
   ·refine sr (s1 (bi rfl rfl aM) (sa rfl (sn (cB h1 rfl (fun h1 => ?_) (fun h1 => ?_)))))
    ·obtain ⟨ahj, aic, h1⟩ := ob h1; have q := si h1; subst q
     exact SC.region (sm rfl (s1 (far (k := 1) rfl qI rA rfl) (s1 (bg rfl (ah rA CF rfl rfl)) (cq [1, 2] [3] (iD p0.N (8 : Int) Ih _ aic) wf rfl rfl rfl GI rfl rfl rfl rfl rfl rfl rfl rfl (SO.nil ((wc [1, 3] [1] (by kernel_rfl) rfl (by kernel_rfl))))))))
    ·refine sr (s1 (bi rfl rfl aM) (sa rfl (sn (cB h1 rfl (fun h1 => ?_) (fun h1 => ?_)))))
     ·obtain ⟨ahi, aib, h1⟩ := ob h1; have q := si h1; subst q
      exact SC.region (sm rfl (s1 (far (k := 1) rfl qI rA rfl) (s1 (bg rfl (ah rA CF rfl rfl)) (cq [1, 2] [3] (iD p0.N (1 : Int) Ih _ aib) wf rfl rfl rfl GI rfl rfl rfl rfl rfl rfl rfl rfl (SO.nil ((wc [1, 3] [1] (by kernel_rfl) rfl (by kernel_rfl))))))))
     ·refine SC.bV h1 (fun y => ⟨mk 94 [(1, .d (eB p1)), (2, .ref 0 0 0), (5, .ref 1 0 0), (38, .d (eB y))], [.box (.d (bA p0)), .box (.agg [.slc 2 1 0 Ih.length none]), .row 1 (List.map gH Ih) true]⟩) ?_ ?_
      ·intro anG h2
       refine sr (s1 (bi rfl rfl aM) (sa rfl (sn (cB h2 rfl (fun h2 => ?_) (fun h2 => ?_)))))
       ·have q := si h2; subst q
        exact SC.skip ((wq rfl))
       ·have q := si h2; subst q
        exact SC.region (s1 (bi rfl rfl aM) (sa rfl (SO.nil ((wq rfl)))))
      ·rintro agi h1
       refine cB h1 rfl (fun h1 => ?_) (fun h1 => ?_)
       ·refine SC.bV h1 (fun y => ⟨mk 94 [(1, .d (eB p1)), (5, .ref 0 0 0)], [.box (.agg [.slc 1 1 0 y.length none]), .row 1 (List.map gH y) true]⟩) ?_ ?_
        ·intro anD h2
         obtain ⟨anv, h3, h2⟩ := ob h2
         refine sr (sa rfl (sn (SC.blk (SC.dL h3 (fun y => ⟨mk 94 [(1, .d (eB p1)), (2, .ref 0 0 0), (5, .ref 1 0 0), (6, .d (eI y.1))], [.box (.d (bA p0)), .box (.agg [.slc 2 1 0 y.2.length none]), .row 1 (List.map gH y.2) true]⟩) (wq rfl) ?_))))
         intro arE
         rintro ⟨Cz, YJ⟩ al6 h4 hv4
         refine sq (sr (sm rfl (s1 (far (k := 2) rfl mO lY rfl) (s1 (bg rfl (ah lY xG rfl rfl)) (s1 (len rfl rfl rfl (ny uR)) (s1 (bi rfl rfl aJ) (sn (cB h4 rfl (fun h4 => ?_) (fun h4 => ?_)))))))))
         ·refine sk (SC.bV h4 (fun y => ⟨mk 94 [(1, .d (eB p1)), (2, .ref 0 0 0), (5, .ref 1 0 0), (6, .d (eI Cz))], [.box (.d (bA p0)), .box (.agg [.slc 2 1 0 y.length none]), .row 1 (List.map gH y) true]⟩) ?_ ?_)
          ·intro am1 h5
           obtain ⟨Y8, acf, h5⟩ := ob h5; obtain ⟨Zq, ah5, h5⟩ := ob h5; obtain ⟨agC, ace, h5⟩ := ob h5
           refine SC.blk (sr (sm rfl (s1 (far (k := 2) rfl mO lY rfl) (s1 (bg rfl (ah lY xG rfl rfl)) (sm rfl (s1 (ixs rfl rfl rfl rfl (lH uR (aj acf).1 (aj acf).2)) (s1 (Qw rfl (Uu TI QI Y8)) (cq [1, 2] [3] (iD (Y8.toUInt64) (1 : Int) YJ _ ah5) wf rfl rfl rfl GI rfl rfl rfl rfl rfl rfl rfl rfl (sn ?_)))))))))
           refine sr (s1 (far (k := 2) rfl mO lY rfl) (s1 (bg rfl (ah lY xG rfl rfl)) (sm rfl (s1 (ixs rfl rfl rfl rfl (lH uR (aj ace).1 (aj ace).2)) (s1 (bi rfl rfl (Pf (b := (0 : UInt8)))) (sn (cB h5 rfl (fun h5 => ?_) (fun h5 => ?_))))))))
           ·obtain ⟨ahh, ah4, h5⟩ := ob h5; have q := si h5; subst q
            exact SC.region (sm rfl (cq [1, 3] [4] (iD (255 : UInt64) (1 : Int) Zq _ ah4) wf rfl rfl rfl GI rfl rfl rfl rfl rfl rfl rfl rfl (SO.nil ((wc [0, 1, 4] [0, 1] (by kernel_rfl) rfl (by kernel_rfl))))))
           ·have q := si h5; subst q
            exact SC.skip ((wc [0, 1, 3] [0, 1] (by kernel_rfl) rfl (by kernel_rfl)))
          ·rintro agh h4
           have q := si h4; subst q
           exact SC.region (sm rfl (s1 (bi rfl rfl aT) (sa rfl (SO.nil (lf (wq rfl))))))
         ·have q := si h4; subst q; have q : _ = _ := hv4; subst q; have q := si h2; subst q
          exact SC.exit ((wc [1, 2] [1] (by kernel_rfl) rfl (by kernel_rfl)))
        ·rintro adn h1
         obtain ⟨ahg, ah3, h1⟩ := ob h1; have q := si h1; subst q
         exact SC.region (sm rfl (cq [0, 1] [2] (iD (0 : UInt64) (2 : Int) adn _ ah3) wf rfl rfl rfl GI rfl rfl rfl rfl rfl rfl rfl rfl (SO.nil ((wc [0, 2] [0] (by kernel_rfl) rfl (by kernel_rfl))))))
       ·have q := si h1; subst q
        exact SC.skip ((wc [1, 2] [1] (by kernel_rfl) rfl (by kernel_rfl)))
  ·rintro agj h0
   refine SC.bV h0 (fun y => ⟨mk 94 [(5, .ref 0 0 0)], [.box (.agg [.slc 1 1 0 y.length none]), .row 1 (List.map gH y) true]⟩) ?_ ?_
   ·intro an9 h1
    obtain ⟨anB, h2, h1⟩ := ob h1
    refine sr (sa rfl (sn (SC.blk (SC.dL h2 (fun y => ⟨mk 94 [(1, .d (eB p1)), (5, .ref 0 0 0), (7, .d (eI y.1))], [.box (.agg [.slc 1 1 0 y.2.length none]), .row 1 (List.map gH y.2) true]⟩) (wq rfl) ?_))))
    intro arD
    rintro ⟨tJ, Ie⟩ amb h3 hv3
    refine sq (SC.bV h3 (fun y => ⟨mk 94 [(1, .d (eB p1)), (5, .ref 0 0 0), (7, .d (eI tJ)), (73, .d (eB y))], [.box (.agg [.slc 1 1 0 Ie.length none]), .row 1 (List.map gH Ie) true]⟩) ?_ ?_)
    ·intro anf h4
     refine SC.region (sm rfl (sm rfl (s1 (K8 rfl) (s1 (far (k := 0) rfl vK j4 rfl) (s1 (bg rfl (ah j4 DY rfl rfl)) (s1 (len rfl rfl rfl (dP iw)) (s1 (bi rfl rfl aJ) (sm rfl (sp h4 (fun h4 => ?_) (fun h4 => ?_))))))))))
     ·have q := si h4; subst q
      exact gw rfl (mv rfl) (s1 (pkt rfl rfl) (SO.nil ((wq rfl))))
     ·have q := si h4; subst q
      exact kw rfl (s1 (dx rfl rfl) (SO.nil ((wq rfl))))
    ·rintro agd h3
     refine cB h3 rfl (fun h3 => ?_) (fun h3 => ?_)
     ·obtain ⟨QB, ab8, h3⟩ := ob h3; obtain ⟨amH, ab7, h3⟩ := ob h3
      refine sk (sq (SC.blk (SC.draws (by kernel_rfl) (t1 ([], false) (mv rfl) rfl (t1 ([], false) (K8 rfl) rfl (t1 ([], false) (far (k := 0) rfl vK j4 rfl) rfl (t1 ([0], false) (bg rfl (ah j4 DY rfl rfl)) rfl (t1 ([], false) (mv rfl) rfl (t1 ([], false) (mv rfl) rfl ?_)))))))))
      refine t1 ([], false) (K8 rfl) rfl (t1 ([], false) (far (k := 0) rfl vK j4 rfl) rfl (t1 ([0], false) (bg rfl (ah j4 DY rfl rfl)) rfl (t1 ([], false) (mv rfl) rfl (t1 ([], false) (JC rfl rfl iw Qu (iL ab8)) rfl (t1 ([1], false) (bg rfl (jr Qu ta5 rfl (aY (aj ab8).2) rfl)) rfl (t1 ([], false) (bi rfl rfl (Wo (a := (255 : UInt8)))) rfl (t1 ([], false) (JC rfl rfl iw Qu (iL ab7)) rfl (t0 ([1], true) (jP (b := .d (gH ((255 : UInt8) - QB))) rfl rfl (sR (f := gH) (v := ((255 : UInt8) - QB)) Qu rfl rfl rfl rfl (aj ab7).2 rfl rfl)) rfl (ST.nil (And.intro (by decide +kernel) ?_))))))))))
      change SC _ _ _ _ _
      have q := si h3; subst q
      exact SC.region (sm rfl (s1 (bi rfl rfl aT) (sa rfl (SO.nil (lf (Wk.trans (wq (e' := [(1, .d (eB p1)), (5, .ref 0 0 0), (7, .d (eI (bF (tJ + (1 : Int)))))]) rfl) (Wk.Z4 (id := 0) (y := .agg [.slc 1 1 0 ((List.set Ie tJ.toNat ((255 : UInt8) - QB)).length) none]) (σ' := [.box (.agg [.slc 1 1 0 ((List.set Ie tJ.toNat ((255 : UInt8) - QB)).length) none]), .row 1 (List.map gH (List.set Ie tJ.toNat ((255 : UInt8) - QB))) true]) rfl (nK.cons (AW.slc rfl (by simp)) nK.nil) rfl)))))))
     ·have q := si h3; subst q; have q : _ = _ := hv3; subst q; have q := si h1; subst q
      exact SC.exit ((wq rfl))
   ·rintro YI h0
    have q := si h0; subst q
    exact sr (sm rfl (s1 (K8 rfl) (s1 (far (k := 0) rfl vK j4 rfl) (s1 (bg rfl (ah j4 DY rfl rfl)) (sa rfl (sn (SC.ret (bQ (Wk.trans (Wk.mM (i := 4) (x := .slc 1 1 0 YI.length none) rfl rfl (fF rfl rfl rfl)) (wc (e' := [(4, .d ((eL 1 gH) YI))]) [] [] (by kernel_rfl) rfl (by kernel_rfl))) (aZ rfl aX) rfl))))))))
noncomputable def rO (p0 : List ak) (p1 : List Bool) : Option ((List UInt8)) :=
 Option.bind (α := (List UInt8))
 (Option.bind (α := (List UInt8))
 (loop (Y := (List UInt8) × Int) (W := (List UInt8)) (fun (tK, GV) =>
 bif (decide (GV < (p0.length : Int))) then
 Option.bind (bG p0 GV) fun Fq =>
 Option.bind (bG p1 GV) fun sN =>
 Option.bind (pR Fq sN) fun adP =>
 bif decide ((tK.length + adP.length) * 1 ≤ room) then
 some (Sum.inl ((tK ++ adP), (bF (GV + (1 : Int)))))
 else none
 else
 some (Sum.inr tK)) (([] : List UInt8), (0 : Int)))
 (fun e => some e))
 fun KH =>
 some KH
theorem IZ (p0 : List ak) (p1 : List Bool) (r : (List UInt8)) (h0 : rO p0 p1 = some r) : aO Tryz.prog 120 [.d ((eL 3 bA) p0), .d ((eL 1 eB) p1)] [] (.d (eS r)) [] := by
 unfold rO at h0
 refine fn0 [0, 1] Tryz.func120 rfl rfl rfl rfl rfl ?_
 refine sr (s1 (lX (v := .d (eS ([] : List UInt8))) rfl) (sn (sr (s1 (lX (v := .d .dn) rfl) (sn (SC.bV h0 (fun y => ⟨mk 26 [(5, .slc 0 1 0 y.length none)], [.row 1 (List.map gH y) true]⟩) ?_ ?_))))))
 ·intro adC h1
  obtain ⟨adA, h2, h1⟩ := ob h1
  refine sr (sa rfl (sn (SC.blk (SC.dL h2 (fun y => ⟨mk 26 [(0, .d ((eL 3 bA) p0)), (1, .d ((eL 1 eB) p1)), (5, .slc 0 1 0 y.1.length none), (6, .d (eI y.2))], [.row 1 (List.map gH y.1) true]⟩) (Wk.trans (Wk.mo (σ' := [.row 1 (List.map gH ([] : List UInt8)) true]) (.row 1 [] true) (fun _ hh => by cases hh) rfl) (Wk.trans (Wk.env (e' := [(0, .d ((eL 3 bA) p0)), (1, .d ((eL 1 eB) p1)), (5, .slc 0 1 0 (([] : List UInt8).length) none), (6, .d (eI (0 : Int)))]) (EW.cons (AW.refl _) (EW.cons (AW.refl _) (EW.cons (AW.mg _ _ _) (EW.cons (AW.refl _) EW.nil))))) (wq rfl))) ?_))))
  intro n139
  rintro ⟨tK, GV⟩ adq h3 hv3
  refine sq (sr (sm rfl (sm rfl (s1 (len rfl rfl rfl (bC ME)) (s1 (bi rfl rfl aJ) (sn (cB h3 rfl (fun h3 => ?_) (fun h3 => ?_))))))))
  ·obtain ⟨Fq, PN, h3⟩ := ob h3; obtain ⟨sN, GD, h3⟩ := ob h3; obtain ⟨adP, aiW, h3⟩ := ob h3; obtain ⟨XG, h3⟩ := gd h3
   refine sk (sq (SC.blk (SC.draws (by kernel_rfl) (t1 ([], false) (mv rfl) rfl (t1 ([], false) (mv rfl) rfl (t1 ([], false) (mv rfl) rfl (t1 ([], false) (jo rfl rfl ME iC (aj PN).1 (aY (aj PN).2) rfl) rfl (t1 ([], false) (bg (v := .d (bA Fq)) rfl (bN iC o8 rfl)) rfl (t1 ([], false) (mv rfl) rfl ?_)))))))))
   refine t1 ([], false) (mv rfl) rfl (t1 ([], false) (jo rfl rfl GX jZ (aj GD).1 (aY (aj GD).2) rfl) rfl (t1 ([], false) (bg rfl (bN jZ wS rfl)) rfl (Fa (G8 Fq sN _ aiW) wf rfl rfl rfl aj6 rfl (fun _ => rfl) (fun _ => rfl) (t1 ([0, 1], true) (app rfl rfl rfl rfl bc156 (aF (f := gH) (xs := tK) (k := 1) rfl iw PW rfl uH XG rfl)) rfl (t1 ([], false) (lX rfl) rfl (ST.nil (And.intro (by decide +kernel) ?_)))))))
   change SC _ _ _ _ _
   have q := si h3; subst q
   exact SC.region (sm rfl (s1 (bi rfl rfl aT) (sa rfl (SO.nil (lf (wc [1] [1] (by kernel_rfl) rfl (by kernel_rfl)))))))
  ·have q := si h3; subst q; have q : _ = _ := hv3; subst q; have q := si h1; subst q
   exact SC.exit ((wq rfl))
 ·rintro KH h0
  have q := si h0; subst q
  exact sr (sm rfl (s1 (Qw (v := .d (eS KH)) rfl (sU iw uR TI (eY (xs := KH) rfl) (fun _ hh => by cases hh))) (sa rfl (sn (SC.ret (bQ (wc (e' := [(4, .d (eS KH))]) [] [] (by kernel_rfl) rfl (by kernel_rfl)) (aZ rfl aX) rfl))))))
noncomputable def tu (p0 : ak) (p1 : Bool) : Option ((List UInt8)) :=
 Option.bind (rO [p0] [p1]) fun r7 =>
 some r7
theorem D8 (p0 : ak) (p1 : Bool) (r : (List UInt8)) (h0 : tu p0 p1 = some r) : aO Tryz.prog 84 [.d (bA p0), .d (eB p1)] [] (.d (eS r)) [] := by
 unfold tu at h0
 refine fn0 [0, 1] Tryz.func84 rfl rfl rfl rfl rfl ?_
 obtain ⟨r7, Hr, h0⟩ := ob h0; have q := si h0; subst q
 refine sr (s1 (tH (k := 0) rfl rfl rfl) (s1 (lX (v := .d (eS ([] : List UInt8))) rfl) (sn (sr (s1 (bg (v := .d (bA p0)) rfl (ah iC o8 rfl rfl)) (s1 (sM (k := 1) (ds := List.map bA [p0]) (off := 0) (l' := [p0].length) rfl ME ajD rfl rfl (by rfl) rfl rfl rfl) (sm rfl (s1 (sM (k := 2) (ds := List.map eB [p1]) (off := 0) (l' := [p1].length) rfl GX ei4 rfl rfl (by rfl) rfl rfl rfl) (cq (args' := [.slc 0 3 0 ([p0].length) none, .slc 1 1 0 ([p1].length) none]) (lM := [.row 3 (List.map bA [p0]) true, .row 1 (List.map eB [p1]) true]) [1, 2] [] (aO.mM (gQ.mM (fF rfl rfl rfl) (gQ.mM (fF rfl rfl rfl) (gQ.nil _))) (fq [] [] (IZ [p0] [p1] _ Hr) rfl rfl rfl rfl rfl rfl rfl rfl)) wf rfl rfl rfl akd rfl rfl rfl rfl rfl rfl rfl rfl ?_)))))))))
 exact sa rfl (sn (SC.ret (bQ (wc (e' := [(4, .d (eS r7))]) [] [] (by kernel_rfl) rfl (by kernel_rfl)) (aZ rfl aX) rfl)))
noncomputable def oI (p0 : List UInt8) : Option ((List UInt8) × Bool) :=
 eu (Y := Unit) (E := (List UInt8) × Bool)
 (Option.bind (α := Unit ⊕ ((List UInt8) × Bool))
 (loop (Y := Int) (W := Unit ⊕ ((List UInt8) × Bool)) (fun y95 =>
 bif (decide (y95 ≥ (0 : Int))) then
 Option.bind (bG p0 y95) fun agT =>
 bif (decide (agT < (255 : UInt8))) then
 bif decide (0 ≤ y95 ∧ y95 ≤ (p0.length : Int)) then
 Option.bind (bG p0 y95) fun v105 =>
 bif decide ((List.take y95.toNat p0).length + [(v105 + (1 : UInt8))].length ≤ 9223372036854775807) then
 some (Sum.inr (Sum.inr (((List.take y95.toNat p0) ++ [(v105 + (1 : UInt8))]), true)))
 else none
 else none
 else
 some (Sum.inl (bF (y95 - (1 : Int))))
 else
 some (Sum.inr (Sum.inl ()))) (bF ((p0.length : Int) - (1 : Int))))
 (Sum.elim (fun e => some (Sum.inl e)) (fun e => some (Sum.inr e))))
 (fun _ =>
 some (([] : List UInt8), false))
 (fun e => some e)
theorem zZ (p0 : List UInt8) (r : (List UInt8) × Bool) (h0 : oI p0 = some r) : aO Tryz.prog 121 [.d (eS p0)] [] (.tuple [.d (eS r.1), .d (eB r.2)]) [] := by
 unfold oI at h0
 refine fn0 [0] Tryz.func121 rfl rfl rfl rfl rfl ?_
 refine sr (s1 (lX (v := .d (eS ([] : List UInt8))) rfl) (sa rfl (sn (SC.seqB h0 (fun y => ⟨mk 26 [], []⟩) ?_ ?_))))
 ·intro aqQ h1 h0
  obtain ⟨an3, h2, h1⟩ := ob h1
  refine sr (sm rfl (s1 (len rfl rfl rfl (ny uR)) (s1 (bi rfl rfl dK) (sa rfl (sn (SC.blk (SC.dL h2 (fun y => ⟨mk 26 [(0, .d (eS p0)), (4, .d (eI y))], []⟩) (wq rfl) ?_)))))))
  intro n107
  rintro y95 amB h3 hv3
  refine sq (sr (sm rfl (s1 (bi rfl rfl dW) (sn (cB h3 rfl (fun h3 => ?_) (fun h3 => ?_))))))
  ·obtain ⟨agT, ac6, h3⟩ := ob h3
   refine sk (sq (SC.blk (sr (sm rfl (sm rfl (s1 (ixs rfl rfl rfl rfl (lH uR (aj ac6).1 (aj ac6).2)) (s1 (bi rfl rfl (Ai (b := (255 : UInt8)))) (sn (cB h3 rfl (fun h3 => ?_) (fun h3 => ?_))))))))))
   ·obtain ⟨ajv, h3⟩ := gd h3; obtain ⟨v105, ac5, h3⟩ := ob h3; obtain ⟨aju, h3⟩ := gd h3; have q := si h3; subst q; have q : _ = _ := hv3; subst q; have q := si h1; subst q; have q := si h0; subst q
    refine sd (by kernel_rfl) (t1 ([], false) (mv rfl) rfl (t1 ([], false) (mv rfl) rfl (t1 ([], false) (VU rfl rfl rfl rfl (TM uR ajv)) rfl (t1 ([], false) (mv rfl) rfl (t1 ([], false) (mv rfl) rfl (t1 ([], false) (ixs rfl rfl rfl rfl (lH uR (aj ac5).1 (aj ac5).2)) rfl (t1 ([], false) (bi rfl rfl (Pg (b := (1 : UInt8)))) rfl (t1 ([0], true) (sM (k := 0) (ds := List.map gH [(v105 + (1 : UInt8))]) (off := 0) (l' := [(v105 + (1 : UInt8))].length) rfl iw PW rfl rfl (by rfl) rfl rfl rfl) rfl (t1 ([0], false) (Qw (v := .d (eS [(v105 + (1 : UInt8))])) rfl (sU iw uR TI (eY (xs := [(v105 + (1 : UInt8))]) rfl) (fun _ hh => by cases hh))) rfl ?_)))))))))
    exact t1 ([], false) (bi (v := .d (eS ((List.take y95.toNat p0) ++ [(v105 + (1 : UInt8))]))) rfl rfl (fun X Y => jY _ X Y (List.take y95.toNat p0) [(v105 + (1 : UInt8))] aju)) rfl (t1 ([], false) (lX rfl) rfl (t1 ([], false) (lX rfl) rfl (tn (by decide +kernel) (SC.ret (bQ (wc (e' := [(2, .d (eS ((List.take y95.toNat p0) ++ [(v105 + (1 : UInt8))]))), (3, .d (eB true))]) [] [] (by kernel_rfl) rfl (by kernel_rfl)) (aZ rfl (aZ rfl aX)) rfl)))))
   ·refine SC.skip ?_
    change SC _ _ _ _ _
    have q := si h3; subst q
    exact SC.region (sm rfl (s1 (bi rfl rfl dK) (sa rfl (SO.nil (lf (wq rfl))))))
  ·have q := si h3; subst q; have q : _ = _ := hv3; subst q; have q := si h1; subst q
   exact SC.exit (lf (wq rfl))
 ·intro _ h0
  have q := si h0; subst q
  exact sr (s1 (lX (v := .d (eS ([] : List UInt8))) rfl) (sa rfl (sn (SC.ret (bQ (Wk.refl _) (aZ rfl (aZ rfl aX)) rfl)))))
noncomputable def oH (p0 : List UInt8) : Option aW :=
 Option.bind (oI p0) fun (r9, M0) =>
 some (aW.mk p0 r9 (!M0))
theorem zX (p0 : List UInt8) (r : aW) (h0 : oH p0 = some r) : aO Tryz.prog 85 [.d (eS p0)] [] (.d (bB r)) [.box (.d (bB r))] := by
 unfold oH at h0
 refine fn0 [0] Tryz.func85 rfl rfl rfl rfl rfl ?_
 obtain ⟨⟨r9, M0⟩, hq8, h0⟩ := ob h0; have q := si h0; subst q
 refine sr (s1 (yT (k := 0) Mk rfl) (sn (sr (sm rfl (c0 (zZ p0 _ hq8) wf rfl rfl rfl adf rfl (fun _ => rfl) (fun _ => rfl) (sm rfl (s1 (ext rfl rfl) (s1 (ext rfl rfl) (sa rfl ?_)))))))))
 refine sa rfl (sn (sr (sm rfl (sm rfl (sm rfl (s1 (nt rfl) (s1 (xI rfl (J5 p0 r9 (!M0))) (s0 (jP rfl rfl (sB (d' := .d (bB (aW.mk p0 r9 (!M0)))) nE rfl rfl rfl rfl rfl rfl rfl)) (sn ?_)))))))))
 exact SC.ret (bQ (Wk.refl _) (Cr rfl (ah nE CG rfl rfl) aX) rfl)
noncomputable def iW (p0 : List UInt8) : Option ((List UInt8)) :=
 Option.bind (oI p0) fun (r9, M0) =>
 some r9
theorem pO (p0 : List UInt8) (r : (List UInt8)) (h0 : iW p0 = some r) : aO Tryz.prog 86 [.d (eS p0)] [] (.d (eS r)) [] := by
 unfold iW at h0
 refine fn0 [0] Tryz.func86 rfl rfl rfl rfl rfl ?_
 obtain ⟨⟨r9, M0⟩, hq8, h0⟩ := ob h0; have q := si h0; subst q
 refine sr (s1 (lX (v := .d (eS ([] : List UInt8))) rfl) (sn (sr (sm rfl (c0 (zZ p0 _ hq8) wf rfl rfl rfl adf rfl (fun _ => rfl) (fun _ => rfl) (sm rfl (s1 (ext rfl rfl) (s1 (ext rfl rfl) (sa rfl ?_)))))))))
 exact sa rfl (sn (sr (sm rfl (sa rfl (sn (SC.ret (bQ (Wk.refl _) (aZ rfl aX) rfl)))))))
end Lv
