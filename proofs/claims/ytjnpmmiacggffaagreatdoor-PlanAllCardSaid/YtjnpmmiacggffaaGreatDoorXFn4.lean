/- Part of the proof of a law: functions and their walks. -/
import Derived.Test.YtjnpmmiacggffaaGreatDoorXFn3
namespace Lv
open Go Go.Proofs
set_option linter.unusedVariables false
set_option linter.unusedSimpArgs false
set_option linter.unusedSectionVars false
set_option maxRecDepth 100000
variable [bJ] [uO]
noncomputable def kD (p0 : List aI) (p1 : List bq) : Option (Int × Bool × aW) :=
 Option.bind (kY p1) fun oK =>
 Option.bind (α := (List UInt8) × Int)
 (Option.bind (α := (List UInt8) × Int)
 (loop (Y := (List UInt8) × Int) (W := (List UInt8) × Int) (fun (Vm, yX) =>
 bif (decide (yX < (p0.length : Int))) then
 Option.bind (α := (List UInt8) × Bool)
 (Option.bind (α := (List UInt8) × Bool)
 (loop (Y := (List UInt8) × Bool × Int) (W := (List UInt8) × Bool) (fun (DF, Lp, Ii) =>
 Option.bind (α := Bool)
 (bif (decide (Ii < (oK.length : Int))) then
 some (!Lp)
 else
 some false)
 fun aaC =>
 bif aaC then
 Option.bind (α := (List UInt8) × Bool)
 (Option.bind (bG oK Ii) fun aaY =>
 Option.bind (bG p1 aaY) fun BZ =>
 Option.bind (α := Bool)
 (Option.bind (bG p0 yX) fun aaX =>
 bif (BZ.Col == aaX.Col) then
 bif (BZ.Kind == (3 : Int)) then
 some true
 else
 some (BZ.Op == (3 : Int))
 else
 some false)
 fun aaz =>
 bif aaz then
 Option.bind (bG p0 yX) fun Vz =>
 Option.bind (tu BZ.Val Vz.Down) fun O9 =>
 bif decide (DF.length + O9.length ≤ 9223372036854775807) then
 some ((DF ++ O9), true)
 else none
 else
 some (DF, Lp))
 fun (aaB, aaA) =>
 some (Sum.inl (aaB, aaA, (bF (Ii + (1 : Int)))))
 else
 some (Sum.inr (DF, Lp))) (Vm, false, (0 : Int)))
 (fun e => some e))
 fun (Vl, aaD) =>
 bif (!aaD) then
 some (Sum.inr (Vl, yX))
 else
 some (Sum.inl (Vl, (bF (yX + (1 : Int)))))
 else
 some (Sum.inr (Vm, yX))) (([] : List UInt8), (0 : Int)))
 (fun e => some e))
 fun (gU, qX) =>
 bif (qX == (p0.length : Int)) then
 Option.bind (oH gU) fun V6 =>
 some (qX, false, V6)
 else
 Option.bind (bG p0 qX) fun qm =>
 bif decide (gU.length + ([1] : List UInt8).length ≤ 9223372036854775807) then
 bif decide (gU.length + ([1] : List UInt8).length ≤ 9223372036854775807) then
 Option.bind (iW (gU ++ ([1] : List UInt8))) fun abI =>
 Option.bind (α := (List UInt8) × (List UInt8))
 (bif qm.Down then
 bif decide (gU.length + ([254] : List UInt8).length ≤ 9223372036854775807) then
 Option.bind (iW (gU ++ ([254] : List UInt8))) fun abH =>
 some (gU, abH)
 else none
 else
 some ((gU ++ ([1] : List UInt8)), abI))
 fun (aay, aax) =>
 Option.bind (α := (List UInt8) × (List UInt8) × Bool)
 (Option.bind (α := (List UInt8) × (List UInt8) × Bool)
 (loop (Y := (List UInt8) × (List UInt8) × Bool × Int) (W := (List UInt8) × (List UInt8) × Bool) (fun (yV, zI, RY, BR) =>
 bif (decide (BR < (oK.length : Int))) then
 Option.bind (α := (List UInt8) × (List UInt8) × Bool)
 (Option.bind (bG oK BR) fun aaW =>
 Option.bind (bG p1 aaW) fun qZ =>
 Option.bind (α := Bool)
 (bif (qZ.Kind != (2 : Int)) then
 some true
 else
 bif (qZ.Col != qm.Col) then
 some true
 else
 bif (qZ.Op == (3 : Int)) then
 some true
 else
 some (qZ.Op == (6 : Int)))
 fun aas =>
 bif aas then
 some (yV, zI, RY)
 else
 Option.bind (tu qZ.Val qm.Down) fun Ae =>
 bif decide (gU.length + Ae.length ≤ 9223372036854775807) then
 Option.bind (α := Bool)
 (bif (qZ.Op == (2 : Int)) then
 some true
 else
 some (qZ.Op == (4 : Int)))
 fun Vj =>
 bif ((decide (qZ.Op ≥ (4 : Int))) != qm.Down) then
 Option.bind (α := (List UInt8))
 (bif (!Vj) then
 Option.bind (iW (gU ++ Ae)) fun abG =>
 some abG
 else
 some (gU ++ Ae))
 fun RX =>
 Option.bind (α := (List UInt8))
 (bif (!(AA RX yV || RX == yV)) then
 some RX
 else
 some yV)
 fun aar =>
 some (aar, zI, true)
 else
 Option.bind (α := (List UInt8))
 (bif Vj then
 Option.bind (iW (gU ++ Ae)) fun abF =>
 some abF
 else
 some (gU ++ Ae))
 fun Vi =>
 bif (AA Vi zI) then
 some (yV, Vi, true)
 else
 some (yV, zI, true)
 else none)
 fun (aav, aau, aat) =>
 some (Sum.inl (aav, aau, aat, (bF (BR + (1 : Int)))))
 else
 some (Sum.inr (yV, zI, RY))) (aay, aax, false, (0 : Int)))
 (fun e => some e))
 fun (R3, RZ, aaw) =>
 bif (!aaw) then
 Option.bind (oH gU) fun V5 =>
 some (qX, false, V5)
 else
 some (qX, true, (aW.mk R3 RZ false))
 else none
 else none
theorem yZ (p0 : List aI) (p1 : List bq) (r : Int × Bool × aW) (h0 : kD p0 p1 = some r) : aO Tryz.prog 46 [.d ((eL 2 aR) p0), .d ((eL 6 au) p1)] [] (.tuple [.d (bB r.2.2), .d (eI r.1), .d (eB r.2.1)]) [.box (.d (bB r.2.2))] := by
 unfold kD at h0
 refine fn0 [0, 1] Tryz.func46 rfl rfl rfl rfl rfl ?_
 obtain ⟨oK, aeF, h0⟩ := ob h0
 refine sr (s1 (yT (k := 0) Mk rfl) (sa rfl (sa rfl (sn (sr (sm rfl (c0 (CP p1 _ aeF) wf rfl rfl rfl ap8 rfl (fun _ => rfl) (fun _ => rfl) (sa rfl (sn ?_)))))))))
 refine sr (s1 (lX (v := .d (eS ([] : List UInt8))) rfl) (sn (sr (sa rfl (sn (SC.bV h0 (fun y => ⟨mk 178 [(0, .d ((eL 2 aR) p0)), (1, .d ((eL 6 au) p1)), (4, .ref 0 0 0), (7, .d ((eL 1 eI) oK)), (8, .d (eS y.1)), (9, .d (eI y.2))], [.box (.d (bB (aW.mk ([] : List UInt8) ([] : List UInt8) false)))]⟩) ?_ ?_))))))
 ·intro alQ h1
  obtain ⟨alD, h2, h1⟩ := ob h1
  refine SC.blk (SC.dL h2 (fun y => ⟨mk 178 [(0, .d ((eL 2 aR) p0)), (1, .d ((eL 6 au) p1)), (4, .ref 0 0 0), (7, .d ((eL 1 eI) oK)), (8, .d (eS y.1)), (9, .d (eI y.2))], [.box (.d (bB (aW.mk ([] : List UInt8) ([] : List UInt8) false)))]⟩) (wq rfl) ?_)
  intro aq7
  rintro ⟨Vm, yX⟩ akI h3 hv3
  refine sq (sr (sm rfl (sm rfl (s1 (len rfl rfl rfl (bC jO)) (s1 (bi rfl rfl aJ) (sn (cB h3 rfl (fun h3 => ?_) (fun h3 => ?_))))))))
  ·refine sk (SC.blk (sr (sa rfl (sn (SC.bV h3 (fun y => ⟨mk 178 [(0, .d ((eL 2 aR) p0)), (1, .d ((eL 6 au) p1)), (4, .ref 0 0 0), (7, .d ((eL 1 eI) oK)), (8, .d (eS y.1)), (9, .d (eI yX)), (10, .d (eB y.2))], [.box (.d (bB (aW.mk ([] : List UInt8) ([] : List UInt8) false)))]⟩) ?_ ?_)))))
   ·intro alr h4
    obtain ⟨alb, h5, h4⟩ := ob h4
    refine sr (sa rfl (sn (SC.blk (SC.dL h5 (fun y => ⟨mk 178 [(0, .d ((eL 2 aR) p0)), (1, .d ((eL 6 au) p1)), (4, .ref 0 0 0), (7, .d ((eL 1 eI) oK)), (8, .d (eS y.1)), (9, .d (eI yX)), (10, .d (eB y.2.1)), (11, .d (eI y.2.2))], [.box (.d (bB (aW.mk ([] : List UInt8) ([] : List UInt8) false)))]⟩) (wq rfl) ?_))))
    intro aq8
    rintro ⟨DF, Lp, Ii⟩ akD h6 hv6
    refine sq (SC.bV h6 (fun y => ⟨mk 178 [(0, .d ((eL 2 aR) p0)), (1, .d ((eL 6 au) p1)), (4, .ref 0 0 0), (7, .d ((eL 1 eI) oK)), (8, .d (eS DF)), (9, .d (eI yX)), (10, .d (eB Lp)), (11, .d (eI Ii)), (35, .d (eB y))], [.box (.d (bB (aW.mk ([] : List UInt8) ([] : List UInt8) false)))]⟩) ?_ ?_)
    ·intro akV h7
     refine SC.region (sm rfl (sm rfl (s1 (len rfl rfl rfl (bC bZ)) (s1 (bi rfl rfl aJ) (sm rfl (sp h7 (fun h7 => ?_) (fun h7 => ?_)))))))
     ·have q := si h7; subst q
      exact gw rfl (mv rfl) (gw rfl (nt rfl) (s1 (pkt rfl rfl) (SO.nil ((wq rfl)))))
     ·have q := si h7; subst q
      exact kw rfl (kw rfl (s1 (dx rfl rfl) (SO.nil ((wq rfl)))))
    ·rintro aaC h6
     refine cB h6 rfl (fun h6 => ?_) (fun h6 => ?_)
     ·refine sk (SC.bV h6 (fun y => ⟨mk 178 [(0, .d ((eL 2 aR) p0)), (1, .d ((eL 6 au) p1)), (4, .ref 0 0 0), (7, .d ((eL 1 eI) oK)), (8, .d (eS y.1)), (9, .d (eI yX)), (10, .d (eB y.2)), (11, .d (eI Ii))], [.box (.d (bB (aW.mk ([] : List UInt8) ([] : List UInt8) false)))]⟩) ?_ ?_)
      ·intro akU h7
       obtain ⟨aaY, WV, h7⟩ := ob h7; obtain ⟨BZ, WU, h7⟩ := ob h7
       refine SC.blk (sr (sm rfl (sm rfl (sm rfl (s1 (jo rfl rfl bZ bD (aj WV).1 (aY (aj WV).2) rfl) (s1 (bg rfl (bN bD dH rfl)) (s1 (jo rfl rfl vQ zR (aj WU).1 (aY (aj WU).2) rfl) (s1 (bg (v := .d (au BZ)) rfl (bN zR adD rfl)) (s1 (yT (k := 1) adh rfl) ?_)))))))))
       refine s0 (jP rfl rfl (sB (d' := .d (au BZ)) zR rfl rfl rfl rfl rfl rfl rfl)) (sn (SC.bV h7 (fun y => ⟨mk 178 [(0, .d ((eL 2 aR) p0)), (1, .d ((eL 6 au) p1)), (4, .ref 0 0 0), (7, .d ((eL 1 eI) oK)), (8, .d (eS DF)), (9, .d (eI yX)), (10, .d (eB Lp)), (11, .d (eI Ii)), (12, .ref 1 0 0), (62, .d (eB y))], [.box (.d (bB (aW.mk ([] : List UInt8) ([] : List UInt8) false))), .box (.d (au BZ))]⟩) ?_ ?_))
       ·intro akS h8
        obtain ⟨aaX, WT, h8⟩ := ob h8
        refine SC.draws (by kernel_rfl) (t1 ([], false) (far (k := 1) rfl yH bD rfl) rfl (t1 ([1], false) (bg rfl (ah bD dH rfl rfl)) rfl (t1 ([], false) (mv rfl) rfl (t1 ([], false) (mv rfl) rfl (t1 ([], false) (jo rfl rfl jO rz (aj WT).1 (aY (aj WT).2) rfl) rfl (t1 ([], false) (fap rfl wC bD rfl) rfl (t1 ([], false) (bg rfl (bN bD dH rfl)) rfl (t1 ([], false) (bi rfl rfl aM) rfl (t1 ([], false) (mv rfl) rfl ?_)))))))))
        refine tp h8 (fun h8 => ?_) (fun h8 => ?_)
        ·refine u1 ([], false) (ww rfl) (far (k := 0) rfl eF bD rfl) rfl (u1 ([1], false) (ww rfl) (bg rfl (ah bD dH rfl rfl)) rfl (u1 ([], false) (ww rfl) (bi rfl rfl aM) rfl (u1 ([], false) (ww rfl) (mv rfl) rfl (tp h8 (fun h8 => ?_) (fun h8 => ?_)))))
         ·have q := si h8; subst q
          refine jw rfl (jw rfl (jw rfl (u1 ([], false) (ww rfl) (pkt rfl rfl) rfl (t1 ([], false) (pkt rfl rfl) rfl (ST.nil (And.intro (by decide +kernel) ?_))))))
          exact (wq rfl)
         ·have q := si h8; subst q
          refine u1 ([], false) (ww rfl) (far (k := 2) rfl jv bD rfl) rfl (u1 ([1], false) (ww rfl) (bg rfl (ah bD dH rfl rfl)) rfl (u1 ([], false) (ww rfl) (bi rfl rfl aM) rfl (u1 ([], false) (ww rfl) (dx rfl rfl) rfl (t1 ([], false) (pkt rfl rfl) rfl (ST.nil (And.intro (by decide +kernel) ?_))))))
          exact (wq rfl)
        ·have q := si h8; subst q
         refine jw rfl (jw rfl (jw rfl (jw rfl (jw rfl (jw rfl (jw rfl (jw rfl (t1 ([], false) (dx rfl rfl) rfl (ST.nil (And.intro (by decide +kernel) ?_))))))))))
         exact (wq rfl)
       ·rintro aaz h7
        refine cB h7 rfl (fun h7 => ?_) (fun h7 => ?_)
        ·obtain ⟨Vz, WS, h7⟩ := ob h7; obtain ⟨O9, aew, h7⟩ := ob h7; obtain ⟨ae7, h7⟩ := gd h7; have q := si h7; subst q
         refine sd (by kernel_rfl) (t1 ([], false) (mv rfl) rfl (t1 ([], false) (far (k := 3) rfl qF iC rfl) rfl (t1 ([1], false) (bg (v := .d (bA BZ.Val)) rfl (ah iC o8 rfl rfl)) rfl (t1 ([], false) (mv rfl) rfl (t1 ([], false) (mv rfl) rfl (t1 ([], false) (jo rfl rfl jO rz (aj WS).1 (aY (aj WS).2) rfl) rfl (t1 ([], false) (fap rfl yJ jZ rfl) rfl (t1 ([], false) (bg rfl (bN jZ wS rfl)) rfl (Fa (D8 BZ.Val Vz.Down _ aew) wf rfl rfl rfl ajK rfl (fun _ => rfl) (fun _ => rfl) ?_)))))))))
         exact t1 ([], false) (bi (v := .d (eS (DF ++ O9))) rfl rfl (fun X Y => jY _ X Y DF O9 ae7)) rfl (t1 ([], false) (lX rfl) rfl (tn (by decide +kernel) (SC.region (sa rfl (SO.nil ((wc [0] [0] (by kernel_rfl) rfl (by kernel_rfl))))))))
        ·have q := si h7; subst q
         exact SC.skip ((wc [0] [0] (by kernel_rfl) rfl (by kernel_rfl)))
      ·rintro ⟨aaB, aaA⟩ h6
       have q := si h6; subst q
       exact SC.region (sm rfl (s1 (bi rfl rfl aT) (sa rfl (SO.nil (lf (wq rfl))))))
     ·have q := si h6; subst q; have q : _ = _ := hv6; subst q; have q := si h4; subst q
      exact SC.exit ((wq rfl))
   ·rintro ⟨Vl, aaD⟩ h3
    refine sq (sr (sm rfl (s1 (nt rfl) (sn (cB h3 rfl (fun h3 => ?_) (fun h3 => ?_))))))
    ·have q := si h3; subst q; have q : _ = _ := hv3; subst q; have q := si h1; subst q
     exact SC.exit ((wq rfl))
    ·have q := si h3; subst q
     exact sk (SC.region (sm rfl (s1 (bi rfl rfl aT) (sa rfl (SO.nil (lf (wq rfl)))))))
  ·have q := si h3; subst q; have q : _ = _ := hv3; subst q; have q := si h1; subst q
   exact SC.exit ((wq rfl))
 ·rintro ⟨gU, qX⟩ h0
  refine sq (sr (sm rfl (sm rfl (s1 (len rfl rfl rfl (bC jO)) (s1 (bi rfl rfl aM) (sn (cB h0 rfl (fun h0 => ?_) (fun h0 => ?_))))))))
  ·obtain ⟨V6, aev, h0⟩ := ob h0; have q := si h0; subst q
   exact sr (sm rfl (cq [] [1] (zX gU _ aev) wf rfl rfl rfl ajJ rfl rfl rfl rfl rfl rfl rfl rfl (sm rfl (s0 (jP rfl rfl (sB (d' := .d (bB V6)) nE rfl rfl rfl rfl rfl rfl rfl)) (sa rfl (sa rfl (sn (SC.ret (bQ (wc (e' := [(4, .ref 0 0 0), (5, .d (eI qX)), (6, .d (eB false))]) [0] [0] (by kernel_rfl) rfl (by kernel_rfl)) (Cr rfl (ah nE CG rfl rfl) (aZ rfl (aZ rfl aX))) rfl)))))))))
  ·obtain ⟨qm, WR, h0⟩ := ob h0; obtain ⟨ae6, h0⟩ := gd h0; obtain ⟨ae5, h0⟩ := gd h0; obtain ⟨abI, aeu, h0⟩ := ob h0
   refine sk (sr (sm rfl (sm rfl (s1 (jo rfl rfl jO rz (aj WR).1 (aY (aj WR).2) rfl) (s1 (bg (v := .d (aR qm)) rfl (bN rz OU rfl)) (s1 (yT (k := 1) YF rfl) (s0 (jP rfl rfl (sB (d' := .d (aR qm)) rz rfl rfl rfl rfl rfl rfl rfl)) (sn (sr ?_)))))))))
   refine sm rfl (s1 (bi (v := .d (eS (gU ++ ([1] : List UInt8)))) rfl rfl (fun X Y => jY _ X Y gU ([1] : List UInt8) ae6)) (sa rfl (sn (sr (sm rfl (s1 (bi (v := .d (eS (gU ++ ([1] : List UInt8)))) rfl rfl (fun X Y => jY _ X Y gU ([1] : List UInt8) ae5)) (c0 (pO (gU ++ ([1] : List UInt8)) _ aeu) wf rfl rfl rfl Z0 rfl (fun _ => rfl) (fun _ => rfl) (sa rfl (sn ?_)))))))))
   refine SC.bV h0 (fun y => ⟨mk 178 [(1, .d ((eL 6 au) p1)), (4, .ref 0 0 0), (7, .d ((eL 1 eI) oK)), (8, .d (eS gU)), (9, .d (eI qX)), (13, .ref 1 0 0), (14, .d (eS y.1)), (15, .d (eS y.2))], [.box (.d (bB (aW.mk ([] : List UInt8) ([] : List UInt8) false))), .box (.d (aR qm))]⟩) ?_ ?_
   ·intro alO h1
    refine sr (s1 (far (k := 1) rfl yJ jZ rfl) (s1 (bg rfl (ah jZ wS rfl rfl)) (sn (cB h1 rfl (fun h1 => ?_) (fun h1 => ?_)))))
    ·obtain ⟨ae4, h1⟩ := gd h1; obtain ⟨abH, aes, h1⟩ := ob h1; have q := si h1; subst q
     refine sr (sm rfl (sa rfl (sn (SC.region (sm rfl (s1 (bi (v := .d (eS (gU ++ ([254] : List UInt8)))) rfl rfl (fun X Y => jY _ X Y gU ([254] : List UInt8) ae4)) (c0 (pO (gU ++ ([254] : List UInt8)) _ aes) wf rfl rfl rfl Z0 rfl (fun _ => rfl) (fun _ => rfl) (sa rfl (SO.nil ?_)))))))))
     exact (wq rfl)
    ·have q := si h1; subst q
     exact SC.skip ((wq rfl))
   ·rintro ⟨aay, aax⟩ h0
    refine sr (sa rfl (sn (SC.bV h0 (fun y => ⟨mk 178 [(4, .ref 0 0 0), (8, .d (eS gU)), (9, .d (eI qX)), (14, .d (eS y.1)), (15, .d (eS y.2.1)), (16, .d (eB y.2.2))], [.box (.d (bB (aW.mk ([] : List UInt8) ([] : List UInt8) false)))]⟩) ?_ ?_)))
    ·intro alN h1
     obtain ⟨alC, h2, h1⟩ := ob h1
     refine sr (sa rfl (sn (SC.blk (SC.dL h2 (fun y => ⟨mk 178 [(1, .d ((eL 6 au) p1)), (4, .ref 0 0 0), (7, .d ((eL 1 eI) oK)), (8, .d (eS gU)), (9, .d (eI qX)), (13, .ref 1 0 0), (14, .d (eS y.1)), (15, .d (eS y.2.1)), (16, .d (eB y.2.2.1)), (17, .d (eI y.2.2.2))], [.box (.d (bB (aW.mk ([] : List UInt8) ([] : List UInt8) false))), .box (.d (aR qm))]⟩) (wq rfl) ?_))))
     intro aq6
     rintro ⟨yV, zI, RY, BR⟩ akH h3 hv3
     refine sq (sr (sm rfl (sm rfl (s1 (len rfl rfl rfl (bC bZ)) (s1 (bi rfl rfl aJ) (sn (cB h3 rfl (fun h3 => ?_) (fun h3 => ?_))))))))
     ·refine sk (SC.bV h3 (fun y => ⟨mk 178 [(1, .d ((eL 6 au) p1)), (4, .ref 0 0 0), (7, .d ((eL 1 eI) oK)), (8, .d (eS gU)), (9, .d (eI qX)), (13, .ref 1 0 0), (14, .d (eS y.1)), (15, .d (eS y.2.1)), (16, .d (eB y.2.2)), (17, .d (eI BR))], [.box (.d (bB (aW.mk ([] : List UInt8) ([] : List UInt8) false))), .box (.d (aR qm))]⟩) ?_ ?_)
      ·intro alq h4
       obtain ⟨aaW, WQ, h4⟩ := ob h4; obtain ⟨qZ, WO, h4⟩ := ob h4
       refine SC.blk (sr (sm rfl (sm rfl (sm rfl (s1 (jo rfl rfl bZ bD (aj WQ).1 (aY (aj WQ).2) rfl) (s1 (bg rfl (bN bD dH rfl)) (s1 (jo rfl rfl vQ zR (aj WO).1 (aY (aj WO).2) rfl) (s1 (bg (v := .d (au qZ)) rfl (bN zR adD rfl)) (s1 (yT (k := 2) adh rfl) ?_)))))))))
       refine s0 (jP rfl rfl (sB (d' := .d (au qZ)) zR rfl rfl rfl rfl rfl rfl rfl)) (sn (sq (SC.bV h4 (fun y => ⟨mk 178 [(1, .d ((eL 6 au) p1)), (4, .ref 0 0 0), (7, .d ((eL 1 eI) oK)), (8, .d (eS gU)), (9, .d (eI qX)), (13, .ref 1 0 0), (14, .d (eS yV)), (15, .d (eS zI)), (16, .d (eB RY)), (17, .d (eI BR)), (18, .ref 2 0 0), (131, .d (eB y))], [.box (.d (bB (aW.mk ([] : List UInt8) ([] : List UInt8) false))), .box (.d (aR qm)), .box (.d (au qZ))]⟩) ?_ ?_)))
       ·intro ala h5
        refine SC.region (s1 (far (k := 0) rfl eF bD rfl) (s1 (bg rfl (ah bD dH rfl rfl)) (s1 (bi rfl rfl bS) (sm rfl (sp h5 (fun h5 => ?_) (fun h5 => ?_))))))
        ·have q := si h5; subst q
         refine kw rfl (kw rfl (kw rfl (kw rfl (kw rfl (s1 (pkt rfl rfl) (sm rfl (kw rfl (kw rfl (kw rfl ?_)))))))))
         exact s1 (pkt rfl rfl) (sm rfl (kw rfl (kw rfl (kw rfl (s1 (pkt rfl rfl) (SO.nil ((wq rfl))))))))
        ·refine gw rfl (far (k := 1) rfl yH bD rfl) (gw rfl (bg rfl (ah bD dH rfl rfl)) (gw rfl (far (k := 0) rfl wC bD rfl) (gw rfl (bg rfl (ah bD dH rfl rfl)) (gw rfl (bi rfl rfl bS) (s1 (dx rfl rfl) (sm rfl (sp h5 (fun h5 => ?_) (fun h5 => ?_))))))))
         ·have q := si h5; subst q
          refine kw rfl (kw rfl (kw rfl (s1 (pkt rfl rfl) (sm rfl (kw rfl (kw rfl (kw rfl (s1 (pkt rfl rfl) (SO.nil ?_)))))))))
          exact (wq rfl)
         ·refine gw rfl (far (k := 2) rfl jv bD rfl) (gw rfl (bg rfl (ah bD dH rfl rfl)) (gw rfl (bi rfl rfl aM) (s1 (dx rfl rfl) (sm rfl (sp h5 (fun h5 => ?_) (fun h5 => ?_))))))
          ·have q := si h5; subst q
           exact kw rfl (kw rfl (kw rfl (s1 (pkt rfl rfl) (SO.nil ((wq rfl))))))
          ·have q := si h5; subst q
           exact gw rfl (far (k := 2) rfl jv bD rfl) (gw rfl (bg rfl (ah bD dH rfl rfl)) (gw rfl (bi rfl rfl aM) (s1 (dx rfl rfl) (SO.nil ((wq rfl))))))
       ·rintro aas h4
        refine cB h4 rfl (fun h4 => ?_) (fun h4 => ?_)
        ·have q := si h4; subst q
         exact SC.exit ((wc [0, 1] [0, 1] (by kernel_rfl) rfl (by kernel_rfl)))
        ·obtain ⟨Ae, aer, h4⟩ := ob h4; obtain ⟨ae2, h4⟩ := gd h4
         refine sk (sr (sa rfl (sn (sr (sm rfl (s1 (far (k := 3) rfl qF iC rfl) (s1 (bg (v := .d (bA qZ.Val)) rfl (ah iC o8 rfl rfl)) (s1 (far (k := 1) rfl yJ jZ rfl) (s1 (bg rfl (ah jZ wS rfl rfl)) ?_)))))))))
         refine c0 (D8 qZ.Val qm.Down _ aer) wf rfl rfl rfl ajK rfl (fun _ => rfl) (fun _ => rfl) (s1 (bi (v := .d (eS (gU ++ Ae))) rfl rfl (fun X Y => jY _ X Y gU Ae ae2)) (sa rfl (sn (SC.bV h4 (fun y => ⟨mk 178 [(1, .d ((eL 6 au) p1)), (4, .ref 0 0 0), (7, .d ((eL 1 eI) oK)), (8, .d (eS gU)), (9, .d (eI qX)), (13, .ref 1 0 0), (14, .d (eS yV)), (15, .d (eS zI)), (16, .d (eB true)), (17, .d (eI BR)), (18, .ref 2 0 0), (19, .d (eS (gU ++ Ae))), (20, .d (eB y))], [.box (.d (bB (aW.mk ([] : List UInt8) ([] : List UInt8) false))), .box (.d (aR qm)), .box (.d (au qZ))]⟩) ?_ ?_))))
         ·intro ak9 h5
          refine SC.region (s1 (far (k := 2) rfl jv bD rfl) (s1 (bg rfl (ah bD dH rfl rfl)) (s1 (bi rfl rfl aM) (sm rfl (sp h5 (fun h5 => ?_) (fun h5 => ?_))))))
          ·have q := si h5; subst q
           exact kw rfl (kw rfl (kw rfl (s1 (pkt rfl rfl) (sa rfl (SO.nil ((wq rfl)))))))
          ·have q := si h5; subst q
           exact gw rfl (far (k := 2) rfl jv bD rfl) (gw rfl (bg rfl (ah bD dH rfl rfl)) (gw rfl (bi rfl rfl aM) (s1 (dx rfl rfl) (sa rfl (SO.nil ((wq rfl)))))))
         ·rintro Vj h4
          refine sr (s1 (far (k := 2) rfl jv bD rfl) (s1 (bg rfl (ah bD dH rfl rfl)) (s1 (bi rfl rfl dW) (s1 (far (k := 1) rfl yJ jZ rfl) (s1 (bg rfl (ah jZ wS rfl rfl)) (s1 (bi (v := .d (eB ((decide (qZ.Op ≥ (4 : Int))) != qm.Down))) rfl rfl (fun X Y => Dt Yz X Y (decide (qZ.Op ≥ (4 : Int))) qm.Down)) (sa rfl (sn (sq ?_)))))))))
          refine sr (sm rfl (sn (cB h4 rfl (fun h4 => ?_) (fun h4 => ?_))))
          ·refine SC.bV h4 (fun y => ⟨mk 178 [(1, .d ((eL 6 au) p1)), (4, .ref 0 0 0), (7, .d ((eL 1 eI) oK)), (8, .d (eS gU)), (9, .d (eI qX)), (13, .ref 1 0 0), (14, .d (eS yV)), (15, .d (eS zI)), (16, .d (eB true)), (17, .d (eI BR)), (19, .d (eS y))], [.box (.d (bB (aW.mk ([] : List UInt8) ([] : List UInt8) false))), .box (.d (aR qm))]⟩) ?_ ?_
           ·intro ak8 h5
            refine sr (sm rfl (s1 (nt rfl) (sn (cB h5 rfl (fun h5 => ?_) (fun h5 => ?_)))))
            ·obtain ⟨abG, aep, h5⟩ := ob h5; have q := si h5; subst q
             exact SC.region (sm rfl (c0 (pO (gU ++ Ae) _ aep) wf rfl rfl rfl Z0 rfl (fun _ => rfl) (fun _ => rfl) (sa rfl (SO.nil ((wc [0, 1] [0, 1] (by kernel_rfl) rfl (by kernel_rfl)))))))
            ·have q := si h5; subst q
             exact SC.skip ((wc [0, 1] [0, 1] (by kernel_rfl) rfl (by kernel_rfl)))
           ·rintro RX h4
            refine SC.bV h4 (fun y => ⟨mk 178 [(1, .d ((eL 6 au) p1)), (4, .ref 0 0 0), (7, .d ((eL 1 eI) oK)), (8, .d (eS gU)), (9, .d (eI qX)), (13, .ref 1 0 0), (14, .d (eS y)), (15, .d (eS zI)), (16, .d (eB true)), (17, .d (eI BR))], [.box (.d (bB (aW.mk ([] : List UInt8) ([] : List UInt8) false))), .box (.d (aR qm))]⟩) ?_ ?_
            ·intro ak7 h5
             refine sr (sm rfl (sm rfl (s1 (bi rfl rfl Uf) (sn (cB h5 rfl (fun h5 => ?_) (fun h5 => ?_))))))
             ·have q := si h5; subst q
              exact SC.region (sm rfl (sa rfl (SO.nil ((wq rfl)))))
             ·have q := si h5; subst q
              exact SC.skip ((wq rfl))
            ·rintro aar h4
             have q := si h4; subst q
             exact SC.exit ((wq rfl))
          ·refine sk (SC.bV h4 (fun y => ⟨mk 178 [(1, .d ((eL 6 au) p1)), (4, .ref 0 0 0), (7, .d ((eL 1 eI) oK)), (8, .d (eS gU)), (9, .d (eI qX)), (13, .ref 1 0 0), (14, .d (eS yV)), (15, .d (eS zI)), (16, .d (eB true)), (17, .d (eI BR)), (19, .d (eS y))], [.box (.d (bB (aW.mk ([] : List UInt8) ([] : List UInt8) false))), .box (.d (aR qm))]⟩) ?_ ?_)
           ·intro ak6 h5
            refine sr (sm rfl (sn (cB h5 rfl (fun h5 => ?_) (fun h5 => ?_))))
            ·obtain ⟨abF, aeo, h5⟩ := ob h5; have q := si h5; subst q
             exact SC.region (sm rfl (c0 (pO (gU ++ Ae) _ aeo) wf rfl rfl rfl Z0 rfl (fun _ => rfl) (fun _ => rfl) (sa rfl (SO.nil ((wc [0, 1] [0, 1] (by kernel_rfl) rfl (by kernel_rfl)))))))
            ·have q := si h5; subst q
             exact SC.skip ((wc [0, 1] [0, 1] (by kernel_rfl) rfl (by kernel_rfl)))
           ·rintro Vi h4
            refine sr (sm rfl (sm rfl (s1 (bi rfl rfl Ue) (sn (cB h4 rfl (fun h4 => ?_) (fun h4 => ?_))))))
            ·have q := si h4; subst q
             exact SC.region (sm rfl (sa rfl (SO.nil ((wq rfl)))))
            ·have q := si h4; subst q
             exact SC.skip ((wq rfl))
      ·rintro ⟨aav, aau, aat⟩ h3
       have q := si h3; subst q
       exact SC.region (sm rfl (s1 (bi rfl rfl aT) (sa rfl (SO.nil (lf (wq rfl))))))
     ·have q := si h3; subst q; have q : _ = _ := hv3; subst q; have q := si h1; subst q
      exact SC.exit ((wc [0] [0] (by kernel_rfl) rfl (by kernel_rfl)))
    ·rintro ⟨R3, RZ, aaw⟩ h0
     refine sq (sr (sm rfl (s1 (nt rfl) (sn (cB h0 rfl (fun h0 => ?_) (fun h0 => ?_))))))
     ·obtain ⟨V5, aen, h0⟩ := ob h0; have q := si h0; subst q
      exact sr (sm rfl (cq [] [1] (zX gU _ aen) wf rfl rfl rfl ajJ rfl rfl rfl rfl rfl rfl rfl rfl (sm rfl (s0 (jP rfl rfl (sB (d' := .d (bB V5)) nE rfl rfl rfl rfl rfl rfl rfl)) (sa rfl (sa rfl (sn (SC.ret (bQ (wc (e' := [(4, .ref 0 0 0), (5, .d (eI qX)), (6, .d (eB false))]) [0] [0] (by kernel_rfl) rfl (by kernel_rfl)) (Cr rfl (ah nE CG rfl rfl) (aZ rfl (aZ rfl aX))) rfl)))))))))
     ·have q := si h0; subst q
      refine sk (sr (sm rfl (sm rfl (s1 (xI rfl (J6 R3 RZ)) (sm rfl (s0 (jP rfl rfl (sB (d' := .d (bB (aW.mk R3 RZ false))) nE rfl rfl rfl rfl rfl rfl rfl)) (sa rfl (sa rfl (sn ?_)))))))))
      exact SC.ret (bQ (Wk.refl _) (Cr rfl (ah nE CG rfl rfl) (aZ rfl (aZ rfl aX))) rfl)
noncomputable def og (p0 : Int) (p1 : Bool) (p2 : Bool) : Option Int :=
 bif p2 then
 some (1 : Int)
 else
 Option.bind (α := Int)
 (Option.bind (α := Int)
 (loop (Y := Int × Int) (W := Int) (fun (RQ, Yy) =>
 bif (decide (Yy < p0)) then
 some (Sum.inl ((bF (Int.tdiv RQ (10 : Int))), (bF (Yy + (1 : Int)))))
 else
 some (Sum.inr RQ)) ((1000 : Int), (0 : Int)))
 (fun e => some e))
 fun RS =>
 Option.bind (α := Int)
 (bif p1 then
 some (bF (Int.tdiv RS (3 : Int)))
 else
 some RS)
 fun Yx =>
 bif (decide (Yx < (1 : Int))) then
 some (1 : Int)
 else
 some Yx
theorem vV (p0 : Int) (p1 : Bool) (p2 : Bool) (r : Int) (h0 : og p0 p1 p2 = some r) : aO Tryz.prog 47 [.d (eI p0), .d (eB p1), .d (eB p2)] [] (.d (eI r)) [] := by
 unfold og at h0
 refine fn0 [0, 1, 2] Tryz.func47 rfl rfl rfl rfl rfl ?_
 refine sr (sa rfl (sn (sq (sr (sm rfl (sn (cB h0 rfl (fun h0 => ?_) (fun h0 => ?_))))))))
 ·have q := si h0; subst q
  exact sr (sa rfl (sn (SC.ret (bQ (Wk.refl _) (aZ rfl aX) rfl))))
 ·refine sk (sr (sa rfl (sn (SC.bV h0 (fun y => ⟨mk 23 [(1, .d (eB p1)), (7, .d (eI y))], []⟩) ?_ ?_))))
  ·intro ag0 h1
   obtain ⟨agX, h2, h1⟩ := ob h1
   refine sr (sa rfl (sn (SC.blk (SC.dL h2 (fun y => ⟨mk 23 [(0, .d (eI p0)), (1, .d (eB p1)), (7, .d (eI y.1)), (8, .d (eI y.2))], []⟩) (wq rfl) ?_))))
   intro n53
   rintro ⟨RQ, Yy⟩ agx h3 hv3
   refine sq (sr (sm rfl (sm rfl (s1 (bi rfl rfl aJ) (sn (cB h3 rfl (fun h3 => ?_) (fun h3 => ?_)))))))
   ·refine sk (sq (SC.blk (SC.region (sm rfl (s1 (bi (v := .d (eI (bF (Int.tdiv RQ (10 : Int))))) rfl rfl (fun X Y => xE _ X Y RQ (10 : Int) (by decide))) (sa rfl (SO.nil ?_)))))))
    change SC _ _ _ _ _
    have q := si h3; subst q
    exact SC.region (sm rfl (s1 (bi rfl rfl aT) (sa rfl (SO.nil (lf (wq rfl))))))
   ·have q := si h3; subst q; have q : _ = _ := hv3; subst q; have q := si h1; subst q
    exact SC.exit ((wq rfl))
  ·rintro RS h0
   refine SC.bV h0 (fun y => ⟨mk 23 [(7, .d (eI y))], []⟩) ?_ ?_
   ·intro agZ h1
    refine sr (sm rfl (sn (cB h1 rfl (fun h1 => ?_) (fun h1 => ?_))))
    ·have q := si h1; subst q
     exact SC.region (sm rfl (s1 (bi (v := .d (eI (bF (Int.tdiv RS (3 : Int))))) rfl rfl (fun X Y => xE _ X Y RS (3 : Int) (by decide))) (sa rfl (SO.nil ((wq rfl))))))
    ·have q := si h1; subst q
     exact SC.skip ((wq rfl))
   ·rintro Yx h0
    refine sq (sr (sm rfl (s1 (bi rfl rfl aJ) (sn (cB h0 rfl (fun h0 => ?_) (fun h0 => ?_))))))
    ·have q := si h0; subst q
     exact sr (sa rfl (sn (SC.ret (bQ (Wk.refl _) (aZ rfl aX) rfl))))
    ·have q := si h0; subst q
     exact sk (sr (sm rfl (sa rfl (sn (SC.ret (bQ (Wk.refl _) (aZ rfl aX) rfl))))))
noncomputable def tZ (p0 : List bq) : Option ((List Int)) :=
 Option.bind (α := (List Int))
 (Option.bind (α := (List Int))
 (loop (Y := (List Int) × Int) (W := (List Int)) (fun (BX, wM) =>
 bif (decide (wM < (24 : Int))) then
 Option.bind (α := (List Int))
 (Option.bind (α := Bool)
 (Option.bind (α := Bool)
 (loop (Y := Bool × Int) (W := Bool) (fun (Vq, BU) =>
 bif (decide (BU < (p0.length : Int))) then
 bif Vq then
 some (Sum.inl (true, (bF (BU + (1 : Int)))))
 else
 Option.bind (bG p0 BU) fun aa4 =>
 bif (aa4.Kind == (2 : Int)) then
 Option.bind (bG p0 BU) fun aa3 =>
 some (Sum.inl ((aa3.Col == wM), (bF (BU + (1 : Int)))))
 else
 Option.bind (bG p0 BU) fun aa2 =>
 bif (aa2.Kind == (3 : Int)) then
 Option.bind (bG p0 BU) fun aa1 =>
 some (Sum.inl ((aa1.Col == wM), (bF (BU + (1 : Int)))))
 else
 some (Sum.inl (false, (bF (BU + (1 : Int)))))
 else
 some (Sum.inr Vq)) (false, (0 : Int)))
 (fun e => some e))
 fun aaJ =>
 bif aaJ then
 bif decide ((BX.length + [wM].length) * 8 ≤ room) then
 some (BX ++ [wM])
 else none
 else
 some BX)
 fun aaK =>
 some (Sum.inl (aaK, (bF (wM + (1 : Int)))))
 else
 some (Sum.inr BX)) (([] : List Int), (0 : Int)))
 (fun e => some e))
 fun aaL =>
 some aaL
theorem KO (p0 : List bq) (r : (List Int)) (h0 : tZ p0 = some r) : aO Tryz.prog 50 [.d ((eL 6 au) p0)] [] (.slc 0 1 0 r.length none) [.row 1 (List.map eI r) true] := by
 unfold tZ at h0
 refine fn0 [0] Tryz.func50 rfl rfl rfl rfl rfl ?_
 refine sr (s1 (lX (v := .d .dn) rfl) (sn (sr (s1 (lX (v := .d .dn) rfl) (sn (SC.bV h0 (fun y => ⟨mk 49 [(3, .slc 0 1 0 y.length none)], [.row 1 (List.map eI y) true]⟩) ?_ ?_))))))
 ·intro alU h1
  obtain ⟨alH, h2, h1⟩ := ob h1
  refine sr (sa rfl (sn (SC.blk (SC.dL h2 (fun y => ⟨mk 49 [(0, .d ((eL 6 au) p0)), (3, .slc 0 1 0 y.1.length none), (4, .d (eI y.2))], [.row 1 (List.map eI y.1) true]⟩) (Wk.trans (Wk.mo (σ' := [.row 1 (List.map eI ([] : List Int)) true]) (.row 1 [] true) (fun _ hh => by cases hh) rfl) (Wk.trans (Wk.env (e' := [(0, .d ((eL 6 au) p0)), (3, .slc 0 1 0 (([] : List Int).length) none), (4, .d (eI (0 : Int)))]) (EW.cons (AW.refl _) (EW.cons (AW.mg _ _ _) (EW.cons (AW.refl _) EW.nil)))) (wq rfl))) ?_))))
  intro arf
  rintro ⟨BX, wM⟩ akL h3 hv3
  refine sq (sr (sm rfl (s1 (bi rfl rfl aJ) (sn (cB h3 rfl (fun h3 => ?_) (fun h3 => ?_))))))
  ·refine sk (SC.bV h3 (fun y => ⟨mk 49 [(0, .d ((eL 6 au) p0)), (3, .slc 0 1 0 y.length none), (4, .d (eI wM))], [.row 1 (List.map eI y) true]⟩) ?_ ?_)
   ·intro alv h4
    refine SC.blk (sr (sa rfl (sn (SC.bV h4 (fun y => ⟨mk 49 [(0, .d ((eL 6 au) p0)), (3, .slc 0 1 0 BX.length none), (4, .d (eI wM)), (5, .d (eB y))], [.row 1 (List.map eI BX) true]⟩) ?_ ?_))))
    ·intro alg h5
     obtain ⟨akZ, h6, h5⟩ := ob h5
     refine sr (sa rfl (sn (SC.blk (SC.dL h6 (fun y => ⟨mk 49 [(0, .d ((eL 6 au) p0)), (3, .slc 0 1 0 BX.length none), (4, .d (eI wM)), (5, .d (eB y.1)), (6, .d (eI y.2))], [.row 1 (List.map eI BX) true]⟩) (wq rfl) ?_))))
     intro arh
     rintro ⟨Vq, BU⟩ akA h7 hv7
     refine sq (sr (sm rfl (sm rfl (s1 (len rfl rfl rfl (bC vQ)) (s1 (bi rfl rfl aJ) (sn (cB h7 rfl (fun h7 => ?_) (fun h7 => ?_))))))))
     ·refine sk (sq (SC.blk (SC.region (sm rfl (sm rfl (sp h7 (fun h7 => ?_) (fun h7 => ?_)))))))
      ·refine kw rfl (kw rfl (kw rfl (kw rfl (kw rfl (kw rfl (kw rfl (kw rfl (kw rfl (kw rfl ?_)))))))))
       refine kw rfl (kw rfl (kw rfl (kw rfl (kw rfl (kw rfl (kw rfl (kw rfl (kw rfl (kw rfl ?_)))))))))
       refine kw rfl (kw rfl (kw rfl (s1 (pkt rfl rfl) (sa rfl (SO.nil ?_)))))
       change SC _ _ _ _ _
       have q := si h7; subst q
       exact SC.region (sm rfl (s1 (bi rfl rfl aT) (sa rfl (SO.nil (lf (wq rfl))))))
      ·obtain ⟨aa4, Xe, h7⟩ := ob h7
       refine gw rfl (mv rfl) (gw rfl (mv rfl) (gw rfl (jo rfl rfl vQ zR (aj Xe).1 (aY (aj Xe).2) rfl) (gw rfl (fap rfl eF bD rfl) (gw rfl (bg rfl (bN bD dH rfl)) (gw rfl (bi rfl rfl aM) (gw rfl (mv rfl) (sp h7 (fun h7 => ?_) (fun h7 => ?_))))))))
       ·obtain ⟨aa3, Xd, h7⟩ := ob h7
        refine kw rfl (kw rfl (kw rfl (kw rfl (kw rfl (kw rfl (gw rfl (pkt rfl rfl) (gw rfl (mv rfl) (gw rfl (mv rfl) (gw rfl (mv rfl) ?_)))))))))
        refine gw rfl (jo rfl rfl vQ zR (aj Xd).1 (aY (aj Xd).2) rfl) (gw rfl (fap rfl yH bD rfl) (gw rfl (bg rfl (bN bD dH rfl)) (gw rfl (mv rfl) (gw rfl (bi rfl rfl aM) (gw rfl (pkt rfl rfl) (s1 (dx rfl rfl) (sa rfl (SO.nil ?_))))))))
        change SC _ _ _ _ _
        have q := si h7; subst q
        exact SC.region (sm rfl (s1 (bi rfl rfl aT) (sa rfl (SO.nil (lf (wq rfl))))))
       ·obtain ⟨aa2, Xc, h7⟩ := ob h7
        refine gw rfl (mv rfl) (gw rfl (mv rfl) (gw rfl (jo rfl rfl vQ zR (aj Xc).1 (aY (aj Xc).2) rfl) (gw rfl (fap rfl eF bD rfl) (gw rfl (bg rfl (bN bD dH rfl)) (gw rfl (bi rfl rfl aM) (gw rfl (dx rfl rfl) (gw rfl (mv rfl) (sp h7 (fun h7 => ?_) (fun h7 => ?_)))))))))
        ·obtain ⟨aa1, Xb, h7⟩ := ob h7
         refine gw rfl (mv rfl) (gw rfl (mv rfl) (gw rfl (jo rfl rfl vQ zR (aj Xb).1 (aY (aj Xb).2) rfl) (gw rfl (fap rfl yH bD rfl) (gw rfl (bg rfl (bN bD dH rfl)) (gw rfl (mv rfl) (gw rfl (bi rfl rfl aM) (gw rfl (pkt rfl rfl) (s1 (dx rfl rfl) (sa rfl ?_)))))))))
         refine SO.nil ?_
         change SC _ _ _ _ _
         have q := si h7; subst q
         exact SC.region (sm rfl (s1 (bi rfl rfl aT) (sa rfl (SO.nil (lf (wq rfl))))))
        ·refine kw rfl (kw rfl (kw rfl (kw rfl (kw rfl (kw rfl (kw rfl (gw rfl (dx rfl rfl) (s1 (dx rfl rfl) (sa rfl ?_)))))))))
         refine SO.nil ?_
         change SC _ _ _ _ _
         have q := si h7; subst q
         exact SC.region (sm rfl (s1 (bi rfl rfl aT) (sa rfl (SO.nil (lf (wq rfl))))))
     ·have q := si h7; subst q; have q : _ = _ := hv7; subst q; have q := si h5; subst q
      exact SC.exit ((wq rfl))
    ·rintro aaJ h4
     refine sr (sm rfl (sn (cB h4 rfl (fun h4 => ?_) (fun h4 => ?_))))
     ·obtain ⟨afc, h4⟩ := gd h4; have q := si h4; subst q
      exact SC.region (sm rfl (sm rfl (s1 (sM (k := 1) (ds := List.map eI [wM]) (off := 0) (l' := [wM].length) rfl bZ xH rfl rfl (by rfl) rfl rfl rfl) (s1 (app rfl rfl rfl rfl yR (aF (f := eI) (xs := BX) (k := 2) rfl bZ xH rfl (eY (xs := [wM]) rfl) afc rfl)) (sa rfl (SO.nil ((wc [2] [2] (by kernel_rfl) rfl (by kernel_rfl)))))))))
     ·have q := si h4; subst q
      exact SC.skip ((wq rfl))
   ·rintro aaK h3
    have q := si h3; subst q
    exact SC.region (sm rfl (s1 (bi rfl rfl aT) (sa rfl (SO.nil (lf (wq rfl))))))
  ·have q := si h3; subst q; have q : _ = _ := hv3; subst q; have q := si h1; subst q
   exact SC.exit ((wq rfl))
 ·rintro aaL h0
  have q := si h0; subst q
  exact sr (sm rfl (sa rfl (sn (SC.ret (bQ (Wk.refl _) (aZ rfl aX) rfl)))))
noncomputable def mh (p0 : bT) : Option ((List Int)) :=
 Option.bind (tZ p0.Pred) fun BK =>
 bif decide ((BK.length + p0.aV.length) * 8 ≤ room) then
 Option.bind (jI p0.Order) fun Fv =>
 bif decide (((BK ++ p0.aV).length + Fv.length) * 8 ≤ room) then
 Option.bind (α := (List Int))
 (Option.bind (α := (List Int))
 (loop (Y := (List Int) × Int) (W := (List Int)) (fun (BH, uQ) =>
 bif (decide (uQ < (24 : Int))) then
 Option.bind (α := (List Int))
 (Option.bind (gM ((BK ++ p0.aV) ++ Fv) uQ) fun I8 =>
 bif I8 then
 bif decide ((BH.length + [uQ].length) * 8 ≤ room) then
 some (BH ++ [uQ])
 else none
 else
 some BH)
 fun agt =>
 some (Sum.inl (agt, (bF (uQ + (1 : Int)))))
 else
 some (Sum.inr BH)) (([] : List Int), (0 : Int)))
 (fun e => some e))
 fun Y2 =>
 some Y2
 else none
 else none
theorem zW (p0 : bT) (r : (List Int)) (h0 : mh p0 = some r) : aO Tryz.prog 17 [.d (bK p0)] [] (.d ((eL 1 eI) r)) [] := by
 unfold mh at h0
 refine fn0 [0] Tryz.func17 rfl rfl rfl rfl rfl ?_
 obtain ⟨BK, aiV, h0⟩ := ob h0; obtain ⟨ajo, h0⟩ := gd h0; obtain ⟨Fv, aiT, h0⟩ := ob h0; obtain ⟨ajm, h0⟩ := gd h0
 refine sr (s1 (tH (k := 0) rfl rfl rfl) (s1 (lX (v := .d .dn) rfl) (sn (sd (by kernel_rfl) (t1 ([], false) (far (k := 0) rfl FT GY rfl) rfl (t1 ([0], false) (bg rfl (ah GY VP rfl rfl)) rfl (tq [] [1] ([1], true) (KO p0.Pred _ aiV) wf rfl rfl rfl aqk rfl rfl rfl rfl rfl rfl rfl rfl rfl (t1 ([], false) (far (k := 1) rfl JL dQ rfl) rfl (t1 ([0], false) (bg rfl (ah dQ iZ rfl rfl)) rfl ?_)))))))))
 refine t1 ([1, 2], true) (app rfl rfl rfl rfl yR (aF (f := eI) (xs := BK) (k := 2) rfl bZ xH rfl uH ajo rfl)) rfl (t1 ([], false) (far (k := 2) rfl JK iG rfl) rfl (t1 ([0], false) (bg rfl (ah iG rC rfl rfl)) rfl (Fa (nN p0.Order _ aiT) wf rfl rfl rfl X7 rfl (fun _ => rfl) (fun _ => rfl) (t1 ([2, 3], true) (app rfl rfl rfl rfl yR (aF (f := eI) (xs := (BK ++ p0.aV)) (k := 3) rfl bZ xH rfl uH ajm rfl)) rfl (t1 ([], false) (lX rfl) rfl (tn (by decide +kernel) (sr (s1 (lX (v := .d .dn) rfl) (sn ?_)))))))))
 refine SC.bV h0 (fun y => ⟨mk 28 [(4, .slc 0 1 0 y.length none)], [.row 1 (List.map eI y) true]⟩) ?_ ?_
 ·intro aoD h1
  obtain ⟨anW, h2, h1⟩ := ob h1
  refine sr (sa rfl (sn (SC.blk (SC.dL h2 (fun y => ⟨mk 28 [(3, .slc 0 1 0 (((BK ++ p0.aV) ++ Fv).length) none), (4, .slc 1 1 0 y.1.length none), (5, .d (eI y.2))], [.row 1 (List.map eI ((BK ++ p0.aV) ++ Fv)) false, .row 1 (List.map eI y.1) true]⟩) (Wk.trans (Wk.mo (σ' := [.box (.d (bK p0)), .dead, .dead, .row 1 (List.map eI ((BK ++ p0.aV) ++ Fv)) true, .row 1 (List.map eI ([] : List Int)) true]) (.row 1 [] true) (fun _ hh => by cases hh) rfl) (Wk.trans (Wk.env (e' := [(3, .slc 3 1 0 (((BK ++ p0.aV) ++ Fv).length) none), (4, .slc 4 1 0 (([] : List Int).length) none), (5, .d (eI (0 : Int)))]) (EW.cons (AW.refl _) (EW.cons (AW.mg _ _ _) (EW.cons (AW.refl _) EW.nil)))) (Wk.trans (wq (e' := [(3, .slc 3 1 0 (((BK ++ p0.aV) ++ Fv).length) none), (4, .slc 4 1 0 (([] : List Int).length) none), (5, .d (eI (0 : Int)))]) rfl) (Wk.trans (fro 3 rfl rfl) (wc [3, 4] [3, 4] (by kernel_rfl) rfl (by kernel_rfl)))))) ?_))))
  intro n211
  rintro ⟨BH, uQ⟩ amt h3 hv3
  refine sq (sr (sm rfl (s1 (bi rfl rfl aJ) (sn (cB h3 rfl (fun h3 => ?_) (fun h3 => ?_))))))
  ·refine sk (SC.bV h3 (fun y => ⟨mk 28 [(3, .slc 0 1 0 (((BK ++ p0.aV) ++ Fv).length) none), (4, .slc 1 1 0 y.length none), (5, .d (eI uQ))], [.row 1 (List.map eI ((BK ++ p0.aV) ++ Fv)) false, .row 1 (List.map eI y) true]⟩) ?_ ?_)
   ·intro anr h4
    obtain ⟨I8, XA, h4⟩ := ob h4
    refine SC.blk (sr (sm rfl (sm rfl (cq (args' := [.slc 0 1 0 (((BK ++ p0.aV) ++ Fv).length) none, .d (eI uQ)]) (lM := [.row 1 (List.map eI ((BK ++ p0.aV) ++ Fv)) false]) [0] [] (aO.mM (gQ.mM (fF rfl rfl rfl) (gQ.keep (gQ.nil _))) (fq [] [] (jC ((BK ++ p0.aV) ++ Fv) uQ _ XA) rfl rfl rfl rfl rfl rfl rfl rfl)) wf rfl rfl rfl NQ rfl rfl rfl rfl rfl rfl rfl rfl (sn (cB h4 rfl (fun h4 => ?_) (fun h4 => ?_)))))))
    ·obtain ⟨XF, h4⟩ := gd h4; have q := si h4; subst q
     exact SC.region (sm rfl (sm rfl (s1 (sM (k := 2) (ds := List.map eI [uQ]) (off := 0) (l' := [uQ].length) rfl bZ xH rfl rfl (by rfl) rfl rfl rfl) (s1 (app rfl rfl rfl rfl yR (aF (f := eI) (xs := BH) (k := 3) rfl bZ xH rfl (eY (xs := [uQ]) rfl) XF rfl)) (sa rfl (SO.nil ((wc [0, 3] [0, 3] (by kernel_rfl) rfl (by kernel_rfl)))))))))
    ·have q := si h4; subst q
     exact SC.skip ((wq rfl))
   ·rintro agt h3
    have q := si h3; subst q
    exact SC.region (sm rfl (s1 (bi rfl rfl aT) (sa rfl (SO.nil (lf (wq rfl))))))
  ·have q := si h3; subst q; have q : _ = _ := hv3; subst q; have q := si h1; subst q
   exact SC.exit ((wc [1] [1] (by kernel_rfl) rfl (by kernel_rfl)))
 ·rintro Y2 h0
  have q := si h0; subst q
  exact sr (sm rfl (sa rfl (sn (SC.ret (bQ (Wk.trans (Wk.mM (i := 2) (x := .slc 0 1 0 Y2.length none) rfl rfl (fF rfl rfl rfl)) (wc (e' := [(2, .d ((eL 1 eI) Y2))]) [] [] (by kernel_rfl) rfl (by kernel_rfl))) (aZ rfl aX) rfl)))))
noncomputable def rF (p0 : aP) (p1 : bT) : Option ((List aD)) :=
 Option.bind (wY p0.aH) fun Wd =>
 Option.bind (kD Wd p1.Pred) fun (w9, Ah, Cj) =>
 Option.bind (α := (List aD))
 (Option.bind (α := Bool)
 (bif (decide (w9 > (0 : Int))) then
 some true
 else
 some Ah)
 fun aaF =>
 bif aaF then
 Option.bind (og w9 Ah (w9 == (p0.aH.length : Int))) fun I7 =>
 bif decide (([(aD.mk (-1 : Int) (aW.mk ([] : List UInt8) ([] : List UInt8) true) (0 : Int) false false (2000 : Int))].length + [(aD.mk (-2 : Int) Cj w9 Ah false (bF ((1 : Int) + (bF ((2 : Int) * I7)))))].length) * 72 ≤ room) then
 some ([(aD.mk (-1 : Int) (aW.mk ([] : List UInt8) ([] : List UInt8) true) (0 : Int) false false (2000 : Int))] ++ [(aD.mk (-2 : Int) Cj w9 Ah false (bF ((1 : Int) + (bF ((2 : Int) * I7)))))])
 else none
 else
 some [(aD.mk (-1 : Int) (aW.mk ([] : List UInt8) ([] : List UInt8) true) (0 : Int) false false (2000 : Int))])
 fun aaG =>
 Option.bind (mh p1) fun Ag =>
 Option.bind (α := (List aD))
 (Option.bind (α := (List aD))
 (loop (Y := (List aD) × Int) (W := (List aD)) (fun (uZ, yY) =>
 bif (decide (yY < (p0.bn.length : Int))) then
 Option.bind (α := (List aD))
 (Option.bind (bG p0.bn yY) fun tL =>
 bif (!tL.Ready) then
 some uZ
 else
 Option.bind (kD tL.Parts p1.Pred) fun (Af, Ci, LH) =>
 Option.bind (α := aD)
 (Option.bind (α := aD)
 (loop (Y := Int × aD) (W := aD) (fun (DI, gy) =>
 bif (decide (DI < (Ag.length : Int))) then
 bif gy.Covers then
 Option.bind (jI tL.Parts) fun V8 =>
 Option.bind (bG Ag DI) fun VD =>
 Option.bind (gM V8 VD) fun abM =>
 bif abM then
 some (Sum.inl ((bF (DI + (1 : Int))), (aD.mk gy.Index gy.Span gy.Fixed gy.Bounded true gy.jL)))
 else
 Option.bind (bG Ag DI) fun VB =>
 Option.bind (gM tL.Extra VB) fun abL =>
 bif abL then
 some (Sum.inl ((bF (DI + (1 : Int))), (aD.mk gy.Index gy.Span gy.Fixed gy.Bounded true gy.jL)))
 else
 Option.bind (bG Ag DI) fun VA =>
 Option.bind (gM p0.aH VA) fun V7 =>
 some (Sum.inl ((bF (DI + (1 : Int))), (aD.mk gy.Index gy.Span gy.Fixed gy.Bounded V7 gy.jL)))
 else
 some (Sum.inl ((bF (DI + (1 : Int))), (aD.mk gy.Index gy.Span gy.Fixed gy.Bounded false gy.jL)))
 else
 some (Sum.inr gy)) ((0 : Int), (aD.mk yY LH Af Ci true (0 : Int))))
 (fun e => some e))
 fun lZ =>
 Option.bind (α := Int)
 (bif (Af == (tL.Parts.length : Int)) then
 Option.bind (og Af Ci tL.Unique) fun abK =>
 some abK
 else
 Option.bind (og Af Ci false) fun abJ =>
 some abJ)
 fun OA =>
 Option.bind (α := aD)
 (bif lZ.Covers then
 some (aD.mk lZ.Index lZ.Span lZ.Fixed lZ.Bounded lZ.Covers (bF ((1 : Int) + OA)))
 else
 some (aD.mk lZ.Index lZ.Span lZ.Fixed lZ.Bounded lZ.Covers (bF ((2 : Int) + (bF ((4 : Int) * OA))))))
 fun Ij =>
 bif decide ((uZ.length + [Ij].length) * 72 ≤ room) then
 some (uZ ++ [Ij])
 else none)
 fun aaE =>
 some (Sum.inl (aaE, (bF (yY + (1 : Int)))))
 else
 some (Sum.inr uZ)) (aaG, (0 : Int)))
 (fun e => some e))
 fun R4 =>
 some R4
theorem IK (p0 : aP) (p1 : bT) (r : (List aD)) (h0 : rF p0 p1 = some r) : aO Tryz.prog 14 [.d (aK p0), .d (bK p1)] [] (.d ((eL 8 aL) r)) [] := by
 unfold rF at h0
 refine fn0 [0, 1] Tryz.func14 rfl rfl rfl rfl rfl ?_
 obtain ⟨Wd, aeK, h0⟩ := ob h0; obtain ⟨⟨w9, Ah, Cj⟩, aeJ, h0⟩ := ob h0
 refine sr (s1 (tH (k := 0) rfl rfl rfl) (s1 (tH (k := 1) rfl rfl rfl) (s1 (lX (v := .d .dn) rfl) (sn (sr (s1 (xI rfl (afL true)) (s1 (xI rfl (Rz (-1 : Int) (aW.mk ([] : List UInt8) ([] : List UInt8) true) (2000 : Int))) (s1 (sM (k := 2) (ds := List.map aL [(aD.mk (-1 : Int) (aW.mk ([] : List UInt8) ([] : List UInt8) true) (0 : Int) false false (2000 : Int))]) (off := 0) (l' := [(aD.mk (-1 : Int) (aW.mk ([] : List UInt8) ([] : List UInt8) true) (0 : Int) false false (2000 : Int))].length) rfl Iu XY rfl rfl (by rfl) rfl rfl rfl) (sa rfl ?_)))))))))
 refine sn (sd (by kernel_rfl) (t1 ([], false) (far (k := 2) rfl nI dQ rfl) rfl (t1 ([0], false) (bg rfl (ah dQ iZ rfl rfl)) rfl (Fa (Gq p0.aH _ aeK) wf rfl rfl rfl ajX rfl (fun _ => rfl) (fun _ => rfl) (t1 ([], false) (far (k := 0) rfl FT GY rfl) rfl (t1 ([1], false) (bg rfl (ah GY VP rfl rfl)) rfl (tq [] [3] ([3], true) (yZ Wd p1.Pred _ aeJ) wf rfl rfl rfl ajS rfl rfl rfl rfl rfl rfl rfl rfl rfl (t1 ([], false) (mv rfl) rfl (t1 ([], false) (ext rfl rfl) rfl ?_)))))))))
 refine t1 ([], false) (ext rfl rfl) rfl (t1 ([], false) (ext rfl rfl) rfl (t1 ([4], true) (yT (k := 4) Mk rfl) rfl (t0 ([4], true) (jP rfl rfl (sB (d' := .d (bB Cj)) nE rfl rfl rfl rfl rfl rfl rfl)) rfl (t1 ([], false) (lX rfl) rfl (t1 ([], false) (lX rfl) rfl (tn (by decide +kernel) (SC.bV h0 (fun y => ⟨mk 147 [(2, .ref 0 0 0), (3, .ref 1 0 0), (5, .slc 2 8 0 y.length none)], [.box (.d (aK p0)), .box (.d (bK p1)), .row 8 (List.map aL y) true]⟩) ?_ ?_)))))))
 ·intro alS h1
  refine SC.bV h1 (fun y => ⟨mk 147 [(2, .ref 0 0 0), (3, .ref 1 0 0), (5, .slc 2 8 0 ([(aD.mk (-1 : Int) (aW.mk ([] : List UInt8) ([] : List UInt8) true) (0 : Int) false false (2000 : Int))].length) none), (6, .ref 3 0 0), (7, .d (eI w9)), (8, .d (eB Ah)), (35, .d (eB y))], [.box (.d (aK p0)), .box (.d (bK p1)), .row 8 (List.map aL [(aD.mk (-1 : Int) (aW.mk ([] : List UInt8) ([] : List UInt8) true) (0 : Int) false false (2000 : Int))]) true, .box (.d (bB Cj))]⟩) ?_ ?_
  ·intro alF h2
   refine SC.region (sm rfl (s1 (bi rfl rfl bM) (sm rfl (sp h2 (fun h2 => ?_) (fun h2 => ?_)))))
   ·have q := si h2; subst q
    exact kw rfl (s1 (pkt rfl rfl) (SO.nil ((wc [0, 1, 2, 4] [0, 1, 2, 4] (by kernel_rfl) rfl (by kernel_rfl)))))
   ·have q := si h2; subst q
    exact gw rfl (mv rfl) (s1 (dx rfl rfl) (SO.nil ((wc [0, 1, 2, 4] [0, 1, 2, 4] (by kernel_rfl) rfl (by kernel_rfl)))))
  ·rintro aaF h1
   refine cB h1 rfl (fun h1 => ?_) (fun h1 => ?_)
   ·obtain ⟨I7, aeI, h1⟩ := ob h1; obtain ⟨afa, h1⟩ := gd h1; have q := si h1; subst q
    refine SC.draws (by kernel_rfl) (t1 ([], false) (mv rfl) rfl (t1 ([3], false) (bg (v := .d (bB Cj)) rfl (ah nE CG rfl rfl)) rfl (t1 ([], false) (mv rfl) rfl (t1 ([], false) (mv rfl) rfl (t1 ([], false) (mv rfl) rfl (t1 ([], false) (mv rfl) rfl (t1 ([], false) (mv rfl) rfl (t1 ([], false) (far (k := 2) rfl nI dQ rfl) rfl (t1 ([0], false) (bg rfl (ah dQ iZ rfl rfl)) rfl ?_)))))))))
    refine t1 ([], false) (len rfl rfl rfl (bC bZ)) rfl (t1 ([], false) (bi rfl rfl aM) rfl (Fa (vV w9 Ah (w9 == (p0.aH.length : Int)) _ aeI) wf rfl rfl rfl afA rfl (fun _ => rfl) (fun _ => rfl) (t1 ([], false) (bi rfl rfl ng) rfl (t1 ([], false) (bi rfl rfl aT) rfl (t1 ([], false) (xI rfl (J3 (-2 : Int) Cj w9 Ah (bF ((1 : Int) + (bF ((2 : Int) * I7)))))) rfl (t1 ([4], true) (sM (k := 4) (ds := List.map aL [(aD.mk (-2 : Int) Cj w9 Ah false (bF ((1 : Int) + (bF ((2 : Int) * I7)))))]) (off := 0) (l' := [(aD.mk (-2 : Int) Cj w9 Ah false (bF ((1 : Int) + (bF ((2 : Int) * I7)))))].length) rfl Iu XY rfl rfl (by rfl) rfl rfl rfl) rfl (t1 ([2, 4, 5], true) (app rfl rfl rfl rfl bc43 (aF (f := aL) (xs := [(aD.mk (-1 : Int) (aW.mk ([] : List UInt8) ([] : List UInt8) true) (0 : Int) false false (2000 : Int))]) (k := 5) rfl Iu XY rfl (eY (xs := [(aD.mk (-2 : Int) Cj w9 Ah false (bF ((1 : Int) + (bF ((2 : Int) * I7)))))]) rfl) afa rfl)) rfl (t1 ([], false) (lX rfl) rfl (ST.nil (And.intro (by decide +kernel) ?_))))))))))
    exact (wc [0, 1, 5] [0, 1, 5] (by kernel_rfl) rfl (by kernel_rfl))
   ·have q := si h1; subst q
    exact SC.skip ((wc [0, 1, 2] [0, 1, 2] (by kernel_rfl) rfl (by kernel_rfl)))
 ·rintro aaG h0
  obtain ⟨Ag, aeH, h0⟩ := ob h0
  refine sr (s1 (bg (v := .d (bK p1)) rfl (ah MH TL rfl rfl)) (c0 (zW p1 _ aeH) wf rfl rfl rfl aj2 rfl (fun _ => rfl) (fun _ => rfl) (sa rfl (sn (SC.bV h0 (fun y => ⟨mk 147 [(5, .slc 0 8 0 y.length none)], [.row 8 (List.map aL y) true]⟩) ?_ ?_)))))
  ·intro alR h1
   obtain ⟨alE, h2, h1⟩ := ob h1
   refine sr (sa rfl (sn (SC.blk (SC.dL h2 (fun y => ⟨mk 147 [(2, .ref 0 0 0), (3, .ref 1 0 0), (5, .slc 2 8 0 y.1.length none), (9, .d ((eL 1 eI) Ag)), (10, .d (eI y.2))], [.box (.d (aK p0)), .box (.d (bK p1)), .row 8 (List.map aL y.1) true]⟩) (wq rfl) ?_))))
   intro aq9
   rintro ⟨uZ, yY⟩ akJ h3 hv3
   refine sq (sr (sm rfl (s1 (far (k := 3) rfl nH nL rfl) (s1 (bg rfl (ah nL DX rfl rfl)) (s1 (len rfl rfl rfl (bC zx)) (s1 (bi rfl rfl aJ) (sn (cB h3 rfl (fun h3 => ?_) (fun h3 => ?_)))))))))
   ·refine sk (SC.bV h3 (fun y => ⟨mk 147 [(2, .ref 0 0 0), (3, .ref 1 0 0), (5, .slc 2 8 0 y.length none), (9, .d ((eL 1 eI) Ag)), (10, .d (eI yY))], [.box (.d (aK p0)), .box (.d (bK p1)), .row 8 (List.map aL y) true]⟩) ?_ ?_)
    ·intro als h4
     obtain ⟨tL, WZ, h4⟩ := ob h4
     refine SC.blk (sr (s1 (far (k := 3) rfl nH nL rfl) (s1 (bg rfl (ah nL DX rfl rfl)) (sm rfl (s1 (jo rfl rfl zx uT (aj WZ).1 (aY (aj WZ).2) rfl) (s1 (bg (v := .d (bH tL)) rfl (bN uT MJ rfl)) (s1 (yT (k := 3) Tn rfl) (s0 (jP rfl rfl (sB (d' := .d (bH tL)) uT rfl rfl rfl rfl rfl rfl rfl)) (sn ?_)))))))))
     refine sq (sr (s1 (far (k := 4) rfl NA jZ rfl) (s1 (bg rfl (ah jZ wS rfl rfl)) (s1 (nt rfl) (sn (cB h4 rfl (fun h4 => ?_) (fun h4 => ?_)))))))
     ·have q := si h4; subst q
      exact SC.exit ((wc [0, 1, 2] [0, 1, 2] (by kernel_rfl) rfl (by kernel_rfl)))
     ·obtain ⟨⟨Af, Ci, LH⟩, aeD, h4⟩ := ob h4
      refine sk (sr (s1 (far (k := 1) rfl lI iG rfl) (s1 (bg rfl (ah iG rC rfl rfl)) (s1 (far (k := 0) rfl FT GY rfl) (s1 (bg rfl (ah GY VP rfl rfl)) (cq [] [4] (yZ tL.Parts p1.Pred _ aeD) wf rfl rfl rfl ajS rfl rfl rfl rfl rfl rfl rfl rfl (sm rfl (s1 (ext rfl rfl) (s1 (ext rfl rfl) ?_)))))))))
      refine s1 (ext rfl rfl) (s1 (yT (k := 5) Mk rfl) (s0 (jP rfl rfl (sB (d' := .d (bB LH)) nE rfl rfl rfl rfl rfl rfl rfl)) (sa rfl (sa rfl (sn (sr (sm rfl (s1 (bg (v := .d (bB LH)) rfl (ah nE CG rfl rfl)) (sm rfl ?_)))))))))
      refine sm rfl (s1 (xI rfl (J4 yY LH Af Ci true)) (s1 (yT (k := 6) afZ rfl) (s0 (jP rfl rfl (sB (d' := .d (aL (aD.mk yY LH Af Ci true (0 : Int)))) OP rfl rfl rfl rfl rfl rfl rfl)) (sn (SC.bV h4 (fun y => ⟨mk 147 [(2, .ref 0 0 0), (3, .ref 1 0 0), (5, .slc 2 8 0 uZ.length none), (9, .d ((eL 1 eI) Ag)), (10, .d (eI yY)), (11, .ref 3 0 0), (13, .d (eI Af)), (14, .d (eB Ci)), (15, .ref 4 0 0)], [.box (.d (aK p0)), .box (.d (bK p1)), .row 8 (List.map aL uZ) true, .box (.d (bH tL)), .box (.d (aL y))]⟩) ?_ ?_)))))
      ·intro ale h5
       obtain ⟨akY, h6, h5⟩ := ob h5
       refine sr (sa rfl (sn (SC.blk (SC.dL h6 (fun y => ⟨mk 147 [(2, .ref 0 0 0), (3, .ref 1 0 0), (5, .slc 2 8 0 uZ.length none), (9, .d ((eL 1 eI) Ag)), (10, .d (eI yY)), (11, .ref 3 0 0), (13, .d (eI Af)), (14, .d (eB Ci)), (15, .ref 4 0 0), (16, .d (eI y.1))], [.box (.d (aK p0)), .box (.d (bK p1)), .row 8 (List.map aL uZ) true, .box (.d (bH tL)), .box (.d (aL y.2))]⟩) (wc [0, 1, 2, 3, 6] [0, 1, 2, 3, 6] (by kernel_rfl) rfl (by kernel_rfl)) ?_))))
       intro ara
       rintro ⟨DI, gy⟩ akz h7 hv7
       refine sq (sr (sm rfl (sm rfl (s1 (len rfl rfl rfl (bC bZ)) (s1 (bi rfl rfl aJ) (sn (cB h7 rfl (fun h7 => ?_) (fun h7 => ?_))))))))
       ·refine sk (sq (SC.blk (SC.draws (by kernel_rfl) (t1 ([], false) (far (k := 6) rfl FR jZ rfl) rfl (t1 ([4], false) (bg rfl (ah jZ wS rfl rfl)) rfl (t1 ([], false) (mv rfl) rfl (tp h7 (fun h7 => ?_) (fun h7 => ?_))))))))
        ·obtain ⟨V8, aeC, h7⟩ := ob h7; obtain ⟨VD, WY, h7⟩ := ob h7; obtain ⟨abM, aeB, h7⟩ := ob h7
         refine u1 ([], false) (ww rfl) (far (k := 1) rfl lI iG rfl) rfl (u1 ([3], false) (ww rfl) (bg rfl (ah iG rC rfl rfl)) rfl (Fa (nN tL.Parts _ aeC) (ww rfl) rfl rfl rfl X7 rfl (fun _ => rfl) (fun _ => rfl) (u1 ([], false) (ww rfl) (mv rfl) rfl (u1 ([], false) (ww rfl) (mv rfl) rfl (u1 ([], false) (ww rfl) (jo rfl rfl bZ bD (aj WY).1 (aY (aj WY).2) rfl) rfl (u1 ([], false) (ww rfl) (bg rfl (bN bD dH rfl)) rfl (Fa (jC V8 VD _ aeB) (ww rfl) rfl rfl rfl NQ rfl (fun _ => rfl) (fun _ => rfl) (u1 ([], false) (ww rfl) (mv rfl) rfl (tp h7 (fun h7 => ?_) (fun h7 => ?_))))))))))
         ·refine jw rfl (jw rfl (jw rfl (jw rfl (jw rfl (jw rfl (jw rfl (u1 ([], false) (ww rfl) (pkt rfl rfl) rfl (u1 ([], false) (ww rfl) (mv rfl) rfl (jw rfl ?_)))))))))
          refine jw rfl (jw rfl (jw rfl (jw rfl (jw rfl (jw rfl (u1 ([], false) (ww rfl) (pkt rfl rfl) rfl (t1 ([], false) (pkt rfl rfl) rfl (t1 ([], false) (far (k := 6) rfl FR jZ rfl) rfl (t0 ([4], true) (jP rfl rfl (sB (d' := .d (aL (aD.mk gy.Index gy.Span gy.Fixed gy.Bounded true gy.jL))) jZ rfl rfl rfl rfl rfl rfl rfl)) rfl ?_)))))))))
          refine ST.nil (And.intro (by decide +kernel) ?_)
          change SC _ _ _ _ _
          have q := si h7; subst q
          exact SC.region (sm rfl (s1 (bi rfl rfl aT) (sa rfl (SO.nil (lf (wq rfl))))))
         ·obtain ⟨VB, WX, h7⟩ := ob h7; obtain ⟨abL, aeA, h7⟩ := ob h7
          refine u1 ([], false) (ww rfl) (far (k := 2) rfl wE dQ rfl) rfl (u1 ([3], false) (ww rfl) (bg rfl (ah dQ iZ rfl rfl)) rfl (u1 ([], false) (ww rfl) (mv rfl) rfl (u1 ([], false) (ww rfl) (mv rfl) rfl (u1 ([], false) (ww rfl) (jo rfl rfl bZ bD (aj WX).1 (aY (aj WX).2) rfl) rfl (u1 ([], false) (ww rfl) (bg rfl (bN bD dH rfl)) rfl (Fa (jC tL.Extra VB _ aeA) (ww rfl) rfl rfl rfl NQ rfl (fun _ => rfl) (fun _ => rfl) (u1 ([], false) (ww rfl) (dx rfl rfl) rfl (u1 ([], false) (ww rfl) (mv rfl) rfl (tp h7 (fun h7 => ?_) (fun h7 => ?_))))))))))
          ·refine jw rfl (jw rfl (jw rfl (jw rfl (jw rfl (jw rfl (jw rfl (u1 ([], false) (ww rfl) (pkt rfl rfl) rfl (t1 ([], false) (pkt rfl rfl) rfl (t1 ([], false) (far (k := 6) rfl FR jZ rfl) rfl ?_)))))))))
           refine t0 ([4], true) (jP rfl rfl (sB (d' := .d (aL (aD.mk gy.Index gy.Span gy.Fixed gy.Bounded true gy.jL))) jZ rfl rfl rfl rfl rfl rfl rfl)) rfl (ST.nil (And.intro (by decide +kernel) ?_))
           change SC _ _ _ _ _
           have q := si h7; subst q
           exact SC.region (sm rfl (s1 (bi rfl rfl aT) (sa rfl (SO.nil (lf (wq rfl))))))
          ·obtain ⟨VA, WW, h7⟩ := ob h7; obtain ⟨V7, aez, h7⟩ := ob h7
           refine u1 ([], false) (ww rfl) (far (k := 2) rfl nI dQ rfl) rfl (u1 ([0], false) (ww rfl) (bg rfl (ah dQ iZ rfl rfl)) rfl (u1 ([], false) (ww rfl) (mv rfl) rfl (u1 ([], false) (ww rfl) (mv rfl) rfl (u1 ([], false) (ww rfl) (jo rfl rfl bZ bD (aj WW).1 (aY (aj WW).2) rfl) rfl (u1 ([], false) (ww rfl) (bg rfl (bN bD dH rfl)) rfl (Fa (jC p0.aH VA _ aez) (ww rfl) rfl rfl rfl NQ rfl (fun _ => rfl) (fun _ => rfl) (u1 ([], false) (ww rfl) (dx rfl rfl) rfl (t1 ([], false) (pkt rfl rfl) rfl (t1 ([], false) (far (k := 6) rfl FR jZ rfl) rfl ?_)))))))))
           refine t0 ([4], true) (jP rfl rfl (sB (d' := .d (aL (aD.mk gy.Index gy.Span gy.Fixed gy.Bounded V7 gy.jL))) jZ rfl rfl rfl rfl rfl rfl rfl)) rfl (ST.nil (And.intro (by decide +kernel) ?_))
           change SC _ _ _ _ _
           have q := si h7; subst q
           exact SC.region (sm rfl (s1 (bi rfl rfl aT) (sa rfl (SO.nil (lf (wq rfl))))))
        ·refine jw rfl (jw rfl (jw rfl (jw rfl (jw rfl (jw rfl (jw rfl (jw rfl (jw rfl (jw rfl ?_)))))))))
         refine jw rfl (jw rfl (jw rfl (jw rfl (jw rfl (jw rfl (jw rfl (jw rfl (jw rfl (jw rfl ?_)))))))))
         refine jw rfl (jw rfl (jw rfl (jw rfl (jw rfl (jw rfl (t1 ([], false) (dx rfl rfl) rfl (t1 ([], false) (far (k := 6) rfl FR jZ rfl) rfl (t0 ([4], true) (jP rfl rfl (sB (d' := .d (aL (aD.mk gy.Index gy.Span gy.Fixed gy.Bounded false gy.jL))) jZ rfl rfl rfl rfl rfl rfl rfl)) rfl (ST.nil (And.intro (by decide +kernel) ?_))))))))))
         change SC _ _ _ _ _
         have q := si h7; subst q
         exact SC.region (sm rfl (s1 (bi rfl rfl aT) (sa rfl (SO.nil (lf (wq rfl))))))
       ·have q := si h7; subst q; have q : _ = _ := hv7; subst q; have q := si h5; subst q
        exact SC.exit ((wq rfl))
      ·rintro lZ h4
       refine SC.bV h4 (fun y => ⟨mk 147 [(2, .ref 0 0 0), (3, .ref 1 0 0), (5, .slc 2 8 0 uZ.length none), (9, .d ((eL 1 eI) Ag)), (10, .d (eI yY)), (15, .ref 3 0 0), (17, .d (eI y))], [.box (.d (aK p0)), .box (.d (bK p1)), .row 8 (List.map aL uZ) true, .box (.d (aL lZ))]⟩) ?_ ?_
       ·intro ald h5
        refine SC.region (sm rfl (sm rfl (sm rfl (s1 (far (k := 1) rfl lI iG rfl) (s1 (bg rfl (ah iG rC rfl rfl)) (s1 (len rfl rfl rfl (bC jO)) (s1 (bi rfl rfl aM) (sm rfl (sp h5 (fun h5 => ?_) (fun h5 => ?_))))))))))
        ·obtain ⟨abK, aey, h5⟩ := ob h5; have q := si h5; subst q
         exact gw rfl (far (k := 3) rfl NC jZ rfl) (gw rfl (bg rfl (ah jZ wS rfl rfl)) (s1 (pkt rfl rfl) (c0 (vV Af Ci tL.Unique _ aey) wf rfl rfl rfl afA rfl (fun _ => rfl) (fun _ => rfl) (sa rfl (SO.nil ((wc [0, 1, 2, 4] [0, 1, 2, 4] (by kernel_rfl) rfl (by kernel_rfl))))))))
        ·obtain ⟨abJ, aex, h5⟩ := ob h5; have q := si h5; subst q
         exact kw rfl (kw rfl (s1 (dx rfl rfl) (c0 (vV Af Ci false _ aex) wf rfl rfl rfl afA rfl (fun _ => rfl) (fun _ => rfl) (sa rfl (SO.nil ((wc [0, 1, 2, 4] [0, 1, 2, 4] (by kernel_rfl) rfl (by kernel_rfl))))))))
       ·rintro OA h4
        refine sr (sm rfl (s1 (bi rfl rfl ng) (s1 (bi rfl rfl aT) (s1 (far (k := 7) rfl ND bD rfl) (s0 (jP rfl rfl (sB (d' := .d (aL (aD.mk lZ.Index lZ.Span lZ.Fixed lZ.Bounded lZ.Covers (bF ((2 : Int) + (bF ((4 : Int) * OA))))))) bD rfl rfl rfl rfl rfl rfl rfl)) (sn (SC.bV h4 (fun y => ⟨mk 147 [(2, .ref 0 0 0), (3, .ref 1 0 0), (5, .slc 2 8 0 uZ.length none), (9, .d ((eL 1 eI) Ag)), (10, .d (eI yY)), (15, .ref 3 0 0)], [.box (.d (aK p0)), .box (.d (bK p1)), .row 8 (List.map aL uZ) true, .box (.d (aL y))]⟩) ?_ ?_)))))))
        ·intro alc h5
         refine sr (s1 (far (k := 6) rfl FR jZ rfl) (s1 (bg rfl (ah jZ wS rfl rfl)) (sn (cB h5 rfl (fun h5 => ?_) (fun h5 => ?_)))))
         ·have q := si h5; subst q
          exact SC.region (sm rfl (s1 (bi rfl rfl aT) (s1 (far (k := 7) rfl ND bD rfl) (s0 (jP rfl rfl (sB (d' := .d (aL (aD.mk lZ.Index lZ.Span lZ.Fixed lZ.Bounded lZ.Covers (bF ((1 : Int) + OA))))) bD rfl rfl rfl rfl rfl rfl rfl)) (SO.nil ((wq rfl)))))))
         ·have q := si h5; subst q
          exact SC.skip ((wq rfl))
        ·rintro Ij h4
         obtain ⟨ae9, h4⟩ := gd h4; have q := si h4; subst q
         exact SC.region (sm rfl (s1 (bg (v := .d (aL Ij)) rfl (ah OP adE rfl rfl)) (s1 (sM (k := 4) (ds := List.map aL [Ij]) (off := 0) (l' := [Ij].length) rfl Iu XY rfl rfl (by rfl) rfl rfl rfl) (s1 (app rfl rfl rfl rfl bc43 (aF (f := aL) (xs := uZ) (k := 5) rfl Iu XY rfl (eY (xs := [Ij]) rfl) ae9 rfl)) (sa rfl (SO.nil ((wc [0, 1, 5] [0, 1, 5] (by kernel_rfl) rfl (by kernel_rfl)))))))))
    ·rintro aaE h3
     have q := si h3; subst q
     exact SC.region (sm rfl (s1 (bi rfl rfl aT) (sa rfl (SO.nil (lf (wq rfl))))))
   ·have q := si h3; subst q; have q : _ = _ := hv3; subst q; have q := si h1; subst q
    exact SC.exit ((wc [2] [2] (by kernel_rfl) rfl (by kernel_rfl)))
  ·rintro R4 h0
   have q := si h0; subst q
   exact sr (sm rfl (sa rfl (sn (SC.ret (bQ (Wk.trans (Wk.mM (i := 4) (x := .slc 0 8 0 R4.length none) rfl rfl (fF rfl rfl rfl)) (wc (e' := [(4, .d ((eL 8 aL) R4))]) [] [] (by kernel_rfl) rfl (by kernel_rfl))) (aZ rfl aX) rfl)))))
noncomputable def uf (p0 : aP) (p1 : aP) : Option Bool :=
 Option.bind (α := Bool)
 (bif (p0.Name != p1.Name) then
 some true
 else
 bif (p0.Tree != p1.Tree) then
 some true
 else
 bif ((p0.aV.length : Int) != (p1.aV.length : Int)) then
 some true
 else
 Option.bind (kZ p0.aH p1.aH) fun V4 =>
 bif (!V4) then
 some true
 else
 some ((p0.bn.length : Int) != (p1.bn.length : Int)))
 fun agl =>
 bif agl then
 some false
 else
 eu (Y := Unit) (E := Bool)
 (Option.bind (α := Unit ⊕ Bool)
 (loop (Y := Int) (W := Unit ⊕ Bool) (fun Vh =>
 bif (decide (Vh < (p0.aV.length : Int))) then
 Option.bind (bG p0.aV Vh) fun Vx =>
 Option.bind (bG p1.aV Vh) fun Vw =>
 bif (!(kg Vx Vw)) then
 some (Sum.inr (Sum.inr false))
 else
 some (Sum.inl (bF (Vh + (1 : Int))))
 else
 some (Sum.inr (Sum.inl ()))) (0 : Int))
 (Sum.elim (fun e => some (Sum.inl e)) (fun e => some (Sum.inr e))))
 (fun _ =>
 eu (Y := Unit) (E := Bool)
 (Option.bind (α := Unit ⊕ Bool)
 (loop (Y := Int) (W := Unit ⊕ Bool) (fun Cz =>
 bif (decide (Cz < (p0.bn.length : Int))) then
 eu (Y := Unit) (E := Bool)
 (Option.bind (bG p0.bn Cz) fun zw =>
 Option.bind (bG p1.bn Cz) fun zO =>
 Option.bind (α := Bool)
 (bif (zw.Name != zO.Name) then
 some true
 else
 bif (zw.Unique != zO.Unique) then
 some true
 else
 bif (zw.Ready != zO.Ready) then
 some true
 else
 bif (zw.Tree != zO.Tree) then
 some true
 else
 Option.bind (kZ zw.Extra zO.Extra) fun ahf =>
 bif (!ahf) then
 some true
 else
 some ((zw.Parts.length : Int) != (zO.Parts.length : Int)))
 fun agf =>
 bif agf then
 some (Sum.inr false)
 else
 Option.bind (α := Unit ⊕ Bool)
 (loop (Y := Int) (W := Unit ⊕ Bool) (fun Vf =>
 bif (decide (Vf < (zw.Parts.length : Int))) then
 Option.bind (bG zw.Parts Vf) fun Vv =>
 Option.bind (bG zO.Parts Vf) fun Vu =>
 bif (!(oU Vv Vu)) then
 some (Sum.inr (Sum.inr false))
 else
 some (Sum.inl (bF (Vf + (1 : Int))))
 else
 some (Sum.inr (Sum.inl ()))) (0 : Int))
 (Sum.elim (fun e => some (Sum.inl e)) (fun e => some (Sum.inr e))))
 (fun _ =>
 some (Sum.inl (bF (Cz + (1 : Int)))))
 (fun e => some (Sum.inr (Sum.inr e)))
 else
 some (Sum.inr (Sum.inl ()))) (0 : Int))
 (Sum.elim (fun e => some (Sum.inl e)) (fun e => some (Sum.inr e))))
 (fun _ =>
 some true)
 (fun e => some e))
 (fun e => some e)
theorem KP (p0 : aP) (p1 : aP) (r : Bool) (h0 : uf p0 p1 = some r) : aO Tryz.prog 18 [.d (aK p0), .d (aK p1)] [] (.d (eB r)) [] := by
 unfold uf at h0
 refine fn0 [0, 1] Tryz.func18 rfl rfl rfl rfl rfl ?_
 refine sr (s1 (tH (k := 0) rfl rfl rfl) (s1 (tH (k := 1) rfl rfl rfl) (sa rfl (sn (sq (SC.bV h0 (fun y => ⟨mk 144 [(2, .ref 0 0 0), (3, .ref 1 0 0), (47, .d (eB y))], [.box (.d (aK p0)), .box (.d (aK p1))]⟩) ?_ ?_))))))
 ·intro aoh h1
  refine SC.region (s1 (far (k := 0) rfl Rn lY rfl) (s1 (bg rfl (ah lY xG rfl rfl)) (s1 (far (k := 0) rfl Rn lY rfl) (s1 (bg rfl (ah lY xG rfl rfl)) (s1 (bi rfl rfl LK) (sm rfl (sp h1 (fun h1 => ?_) (fun h1 => ?_))))))))
  ·have q := si h1; subst q
   refine kw rfl (kw rfl (kw rfl (kw rfl (kw rfl (s1 (pkt rfl rfl) (sm rfl (kw rfl (kw rfl (kw rfl ?_)))))))))
   refine kw rfl (kw rfl (kw rfl (kw rfl (s1 (pkt rfl rfl) (sm rfl (kw rfl (kw rfl (kw rfl (kw rfl ?_)))))))))
   refine kw rfl (kw rfl (s1 (pkt rfl rfl) (sm rfl (kw rfl (kw rfl (kw rfl (kw rfl (kw rfl (kw rfl ?_)))))))))
   exact kw rfl (s1 (pkt rfl rfl) (SO.nil ((wq rfl))))
  ·refine gw rfl (far (k := 4) rfl XR bD rfl) (gw rfl (bg rfl (ah bD dH rfl rfl)) (gw rfl (far (k := 4) rfl XR bD rfl) (gw rfl (bg rfl (ah bD dH rfl rfl)) (gw rfl (bi rfl rfl bS) (s1 (dx rfl rfl) (sm rfl (sp h1 (fun h1 => ?_) (fun h1 => ?_))))))))
   ·have q := si h1; subst q
    refine kw rfl (kw rfl (kw rfl (kw rfl (kw rfl (kw rfl (kw rfl (s1 (pkt rfl rfl) (sm rfl (kw rfl ?_)))))))))
    refine kw rfl (kw rfl (kw rfl (kw rfl (kw rfl (s1 (pkt rfl rfl) (sm rfl (kw rfl (kw rfl (kw rfl ?_)))))))))
    exact kw rfl (kw rfl (kw rfl (kw rfl (s1 (pkt rfl rfl) (SO.nil ((wq rfl)))))))
   ·refine gw rfl (far (k := 1) rfl iT iY rfl) (gw rfl (bg rfl (ah iY tN rfl rfl)) (gw rfl (len rfl rfl rfl (bC qp)) (gw rfl (far (k := 1) rfl iT iY rfl) (gw rfl (bg rfl (ah iY tN rfl rfl)) (gw rfl (len rfl rfl rfl (bC qp)) (gw rfl (bi rfl rfl bS) (s1 (dx rfl rfl) (sm rfl (sp h1 (fun h1 => ?_) (fun h1 => ?_))))))))))
    ·have q := si h1; subst q
     refine kw rfl (kw rfl (kw rfl (kw rfl (kw rfl (kw rfl (s1 (pkt rfl rfl) (sm rfl (kw rfl (kw rfl ?_)))))))))
     exact kw rfl (kw rfl (kw rfl (kw rfl (kw rfl (s1 (pkt rfl rfl) (SO.nil ((wq rfl))))))))
    ·obtain ⟨V4, Xu, h1⟩ := ob h1
     refine gw rfl (far (k := 2) rfl nI dQ rfl) (gw rfl (bg rfl (ah dQ iZ rfl rfl)) (gw rfl (far (k := 2) rfl nI dQ rfl) (gw rfl (bg rfl (ah dQ iZ rfl rfl)) (c0 (oJ p0.aH p1.aH _ Xu) (ww rfl) rfl rfl rfl Ux rfl (fun _ => rfl) (fun _ => rfl) (gw rfl (nt rfl) (s1 (dx rfl rfl) (sm rfl (sp h1 (fun h1 => ?_) (fun h1 => ?_)))))))))
     ·have q := si h1; subst q
      exact kw rfl (kw rfl (kw rfl (kw rfl (kw rfl (kw rfl (kw rfl (s1 (pkt rfl rfl) (SO.nil ((wq rfl))))))))))
     ·have q := si h1; subst q
      exact gw rfl (far (k := 3) rfl nH nL rfl) (gw rfl (bg rfl (ah nL DX rfl rfl)) (gw rfl (len rfl rfl rfl (bC zx)) (gw rfl (far (k := 3) rfl nH nL rfl) (gw rfl (bg rfl (ah nL DX rfl rfl)) (gw rfl (len rfl rfl rfl (bC zx)) (gw rfl (bi rfl rfl bS) (s1 (dx rfl rfl) (SO.nil ((wq rfl))))))))))
 ·rintro agl h0
  refine cB h0 rfl (fun h0 => ?_) (fun h0 => ?_)
  ·have q := si h0; subst q
   exact sr (sa rfl (sn (SC.ret (bQ (wc (e' := [(4, .d (eB false))]) [] [] (by kernel_rfl) rfl (by kernel_rfl)) (aZ rfl aX) rfl))))
  ·refine sk (SC.seqB h0 (fun y => ⟨mk 144 [(2, .ref 0 0 0), (3, .ref 1 0 0)], [.box (.d (aK p0)), .box (.d (aK p1))]⟩) ?_ ?_)
   ·intro aog h1 h0
    obtain ⟨anI, h2, h1⟩ := ob h1
    refine sr (sa rfl (sn (SC.blk (SC.dL h2 (fun y => ⟨mk 144 [(2, .ref 0 0 0), (3, .ref 1 0 0), (5, .d (eI y))], [.box (.d (aK p0)), .box (.d (aK p1))]⟩) (wq rfl) ?_))))
    intro arH
    rintro Vh amf h3 hv3
    refine sq (sr (sm rfl (s1 (far (k := 1) rfl iT iY rfl) (s1 (bg rfl (ah iY tN rfl rfl)) (s1 (len rfl rfl rfl (bC qp)) (s1 (bi rfl rfl aJ) (sn (cB h3 rfl (fun h3 => ?_) (fun h3 => ?_)))))))))
    ·obtain ⟨Vx, acj, h3⟩ := ob h3; obtain ⟨Vw, aci, h3⟩ := ob h3
     refine sk (sq (SC.blk (sd (by kernel_rfl) (t1 ([], false) (far (k := 1) rfl iT iY rfl) rfl (t1 ([0], false) (bg rfl (ah iY tN rfl rfl)) rfl (t1 ([], false) (mv rfl) rfl (t1 ([], false) (jo rfl rfl qp BJ (aj acj).1 (aY (aj acj).2) rfl) rfl (t1 ([], false) (bg (v := .d (bI Vx)) rfl (bN BJ TK rfl)) rfl (t1 ([], false) (far (k := 1) rfl iT iY rfl) rfl ?_)))))))))
     refine t1 ([1], false) (bg rfl (ah iY tN rfl rfl)) rfl (t1 ([], false) (mv rfl) rfl (t1 ([], false) (jo rfl rfl qp BJ (aj aci).1 (aY (aj aci).2) rfl) rfl (t1 ([], false) (bg (v := .d (bI Vw)) rfl (bN BJ TK rfl)) rfl (t1 ([], false) (bi (v := .d (eB (!(kg Vx Vw)))) rfl rfl (fun X Y => Dp X Y Vx Vw)) rfl (tn (by decide +kernel) (cB h3 rfl (fun h3 => ?_) (fun h3 => ?_)))))))
     ·have q := si h3; subst q; have q : _ = _ := hv3; subst q; have q := si h1; subst q; have q := si h0; subst q
      exact sr (sa rfl (sn (SC.ret (bQ (wc (e' := [(4, .d (eB false))]) [] [] (by kernel_rfl) rfl (by kernel_rfl)) (aZ rfl aX) rfl))))
     ·refine SC.skip ?_
      change SC _ _ _ _ _
      have q := si h3; subst q
      exact SC.region (sm rfl (s1 (bi rfl rfl aT) (sa rfl (SO.nil (lf (wq rfl))))))
    ·have q := si h3; subst q; have q : _ = _ := hv3; subst q; have q := si h1; subst q
     exact SC.exit (lf (wq rfl))
   ·intro _ h0
    refine SC.seqB h0 (fun y => ⟨mk 144 [], []⟩) ?_ ?_
    ·intro aob h1 h0
     obtain ⟨anC, h2, h1⟩ := ob h1
     refine sr (sa rfl (sn (SC.blk (SC.dL h2 (fun y => ⟨mk 144 [(2, .ref 0 0 0), (3, .ref 1 0 0), (6, .d (eI y))], [.box (.d (aK p0)), .box (.d (aK p1))]⟩) (wq rfl) ?_))))
     intro arB
     rintro Cz amc h3 hv3
     refine sq (sr (sm rfl (s1 (far (k := 3) rfl nH nL rfl) (s1 (bg rfl (ah nL DX rfl rfl)) (s1 (len rfl rfl rfl (bC zx)) (s1 (bi rfl rfl aJ) (sn (cB h3 rfl (fun h3 => ?_) (fun h3 => ?_)))))))))
     ·refine sk (SC.seqB h3 (fun y => ⟨mk 144 [(2, .ref 0 0 0), (3, .ref 1 0 0), (6, .d (eI Cz))], [.box (.d (aK p0)), .box (.d (aK p1))]⟩) ?_ ?_)
      ·intro ang h4 h3
       obtain ⟨zw, acd, h4⟩ := ob h4; obtain ⟨zO, ab9, h4⟩ := ob h4
       refine SC.blk (sr (s1 (far (k := 3) rfl nH nL rfl) (s1 (bg rfl (ah nL DX rfl rfl)) (sm rfl (s1 (jo rfl rfl zx uT (aj acd).1 (aY (aj acd).2) rfl) (s1 (bg (v := .d (bH zw)) rfl (bN uT MJ rfl)) (s1 (yT (k := 2) Tn rfl) (s0 (jP rfl rfl (sB (d' := .d (bH zw)) uT rfl rfl rfl rfl rfl rfl rfl)) (sn ?_)))))))))
       refine sr (s1 (far (k := 3) rfl nH nL rfl) (s1 (bg rfl (ah nL DX rfl rfl)) (sm rfl (s1 (jo rfl rfl zx uT (aj ab9).1 (aY (aj ab9).2) rfl) (s1 (bg (v := .d (bH zO)) rfl (bN uT MJ rfl)) (s1 (yT (k := 3) Tn rfl) (s0 (jP rfl rfl (sB (d' := .d (bH zO)) uT rfl rfl rfl rfl rfl rfl rfl)) (sn (sq ?_)))))))))
       refine SC.bV h4 (fun y => ⟨mk 144 [(2, .ref 0 0 0), (3, .ref 1 0 0), (6, .d (eI Cz)), (7, .ref 2 0 0), (8, .ref 3 0 0), (125, .d (eB y))], [.box (.d (aK p0)), .box (.d (aK p1)), .box (.d (bH zw)), .box (.d (bH zO))]⟩) ?_ ?_
       ·intro am0 h5
        refine SC.region (s1 (far (k := 0) rfl JI lY rfl) (s1 (bg rfl (ah lY xG rfl rfl)) (s1 (far (k := 0) rfl JI lY rfl) (s1 (bg rfl (ah lY xG rfl rfl)) (s1 (bi rfl rfl LK) (sm rfl (sp h5 (fun h5 => ?_) (fun h5 => ?_))))))))
        ·have q := si h5; subst q
         refine kw rfl (kw rfl (kw rfl (kw rfl (kw rfl (s1 (pkt rfl rfl) (sm rfl (kw rfl (kw rfl (kw rfl ?_)))))))))
         refine kw rfl (kw rfl (s1 (pkt rfl rfl) (sm rfl (kw rfl (kw rfl (kw rfl (kw rfl (kw rfl (s1 (pkt rfl rfl) ?_)))))))))
         refine sm rfl (kw rfl (kw rfl (kw rfl (kw rfl (kw rfl (kw rfl (s1 (pkt rfl rfl) (sm rfl (kw rfl ?_)))))))))
         exact kw rfl (kw rfl (kw rfl (kw rfl (kw rfl (kw rfl (s1 (pkt rfl rfl) (SO.nil ((wq rfl)))))))))
        ·refine gw rfl (far (k := 3) rfl NC jZ rfl) (gw rfl (bg rfl (ah jZ wS rfl rfl)) (gw rfl (far (k := 3) rfl NC jZ rfl) (gw rfl (bg rfl (ah jZ wS rfl rfl)) (gw rfl (bi (v := .d (eB (zw.Unique != zO.Unique))) rfl rfl (fun X Y => Dt Yz X Y zw.Unique zO.Unique)) (s1 (dx rfl rfl) (sm rfl (sp h5 (fun h5 => ?_) (fun h5 => ?_))))))))
         ·have q := si h5; subst q
          refine kw rfl (kw rfl (kw rfl (kw rfl (kw rfl (s1 (pkt rfl rfl) (sm rfl (kw rfl (kw rfl (kw rfl ?_)))))))))
          refine kw rfl (kw rfl (s1 (pkt rfl rfl) (sm rfl (kw rfl (kw rfl (kw rfl (kw rfl (kw rfl (kw rfl ?_)))))))))
          refine s1 (pkt rfl rfl) (sm rfl (kw rfl (kw rfl (kw rfl (kw rfl (kw rfl (kw rfl (kw rfl (s1 (pkt rfl rfl) ?_)))))))))
          exact SO.nil ((wq rfl))
         ·refine gw rfl (far (k := 4) rfl NA jZ rfl) (gw rfl (bg rfl (ah jZ wS rfl rfl)) (gw rfl (far (k := 4) rfl NA jZ rfl) (gw rfl (bg rfl (ah jZ wS rfl rfl)) (gw rfl (bi (v := .d (eB (zw.Ready != zO.Ready))) rfl rfl (fun X Y => Dt Yz X Y zw.Ready zO.Ready)) (s1 (dx rfl rfl) (sm rfl (sp h5 (fun h5 => ?_) (fun h5 => ?_))))))))
          ·have q := si h5; subst q
           refine kw rfl (kw rfl (kw rfl (kw rfl (kw rfl (s1 (pkt rfl rfl) (sm rfl (kw rfl (kw rfl (kw rfl ?_)))))))))
           refine kw rfl (kw rfl (kw rfl (s1 (pkt rfl rfl) (sm rfl (kw rfl (kw rfl (kw rfl (kw rfl (kw rfl ?_)))))))))
           exact kw rfl (kw rfl (s1 (pkt rfl rfl) (SO.nil ((wq rfl)))))
          ·refine gw rfl (far (k := 5) rfl XO bD rfl) (gw rfl (bg rfl (ah bD dH rfl rfl)) (gw rfl (far (k := 5) rfl XO bD rfl) (gw rfl (bg rfl (ah bD dH rfl rfl)) (gw rfl (bi rfl rfl bS) (s1 (dx rfl rfl) (sm rfl (sp h5 (fun h5 => ?_) (fun h5 => ?_))))))))
           ·have q := si h5; subst q
            refine kw rfl (kw rfl (kw rfl (kw rfl (kw rfl (kw rfl (s1 (pkt rfl rfl) (sm rfl (kw rfl (kw rfl ?_)))))))))
            exact kw rfl (kw rfl (kw rfl (kw rfl (kw rfl (s1 (pkt rfl rfl) (SO.nil ((wq rfl))))))))
           ·obtain ⟨ahf, ah2, h5⟩ := ob h5
            refine gw rfl (far (k := 2) rfl wE dQ rfl) (gw rfl (bg rfl (ah dQ iZ rfl rfl)) (gw rfl (far (k := 2) rfl wE dQ rfl) (gw rfl (bg rfl (ah dQ iZ rfl rfl)) (c0 (oJ zw.Extra zO.Extra _ ah2) (ww rfl) rfl rfl rfl Ux rfl (fun _ => rfl) (fun _ => rfl) (gw rfl (nt rfl) (s1 (dx rfl rfl) (sm rfl (sp h5 (fun h5 => ?_) (fun h5 => ?_)))))))))
            ·have q := si h5; subst q
             exact kw rfl (kw rfl (kw rfl (kw rfl (kw rfl (kw rfl (kw rfl (s1 (pkt rfl rfl) (SO.nil ((wq rfl))))))))))
            ·have q := si h5; subst q
             exact gw rfl (far (k := 1) rfl lI iG rfl) (gw rfl (bg rfl (ah iG rC rfl rfl)) (gw rfl (len rfl rfl rfl (bC jO)) (gw rfl (far (k := 1) rfl lI iG rfl) (gw rfl (bg rfl (ah iG rC rfl rfl)) (gw rfl (len rfl rfl rfl (bC jO)) (gw rfl (bi rfl rfl bS) (s1 (dx rfl rfl) (SO.nil ((wq rfl))))))))))
       ·rintro agf h4
        refine cB h4 rfl (fun h4 => ?_) (fun h4 => ?_)
        ·have q := si h4; subst q; have q := si h3; subst q; have q : _ = _ := hv3; subst q; have q := si h1; subst q; have q := si h0; subst q
         exact sr (sa rfl (sn (SC.ret (bQ (wc (e' := [(4, .d (eB false))]) [] [] (by kernel_rfl) rfl (by kernel_rfl)) (aZ rfl aX) rfl))))
        ·obtain ⟨amZ, h5, h4⟩ := ob h4
         refine sk (sr (sa rfl (sn (SC.blk (SC.dL h5 (fun y => ⟨mk 144 [(2, .ref 0 0 0), (3, .ref 1 0 0), (6, .d (eI Cz)), (7, .ref 2 0 0), (8, .ref 3 0 0), (9, .d (eI y))], [.box (.d (aK p0)), .box (.d (aK p1)), .box (.d (bH zw)), .box (.d (bH zO))]⟩) (wq rfl) ?_)))))
         intro arC
         rintro Vf al5 h6 hv6
         refine sq (sr (sm rfl (s1 (far (k := 1) rfl lI iG rfl) (s1 (bg rfl (ah iG rC rfl rfl)) (s1 (len rfl rfl rfl (bC jO)) (s1 (bi rfl rfl aJ) (sn (cB h6 rfl (fun h6 => ?_) (fun h6 => ?_)))))))))
         ·obtain ⟨Vv, ab6, h6⟩ := ob h6; obtain ⟨Vu, ab5, h6⟩ := ob h6
          refine sk (sq (SC.blk (sd (by kernel_rfl) (t1 ([], false) (far (k := 1) rfl lI iG rfl) rfl (t1 ([2], false) (bg rfl (ah iG rC rfl rfl)) rfl (t1 ([], false) (mv rfl) rfl (t1 ([], false) (jo rfl rfl jO rz (aj ab6).1 (aY (aj ab6).2) rfl) rfl (t1 ([], false) (bg (v := .d (aR Vv)) rfl (bN rz OU rfl)) rfl (t1 ([], false) (far (k := 1) rfl lI iG rfl) rfl ?_)))))))))
          refine t1 ([3], false) (bg rfl (ah iG rC rfl rfl)) rfl (t1 ([], false) (mv rfl) rfl (t1 ([], false) (jo rfl rfl jO rz (aj ab5).1 (aY (aj ab5).2) rfl) rfl (t1 ([], false) (bg (v := .d (aR Vu)) rfl (bN rz OU rfl)) rfl (t1 ([], false) (bi (v := .d (eB (!(oU Vv Vu)))) rfl rfl (fun X Y => FW X Y Vv Vu)) rfl (tn (by decide +kernel) (cB h6 rfl (fun h6 => ?_) (fun h6 => ?_)))))))
          ·have q := si h6; subst q; have q : _ = _ := hv6; subst q; have q := si h4; subst q; have q := si h3; subst q; have q : _ = _ := hv3; subst q; have q := si h1; subst q; have q := si h0; subst q
           exact sr (sa rfl (sn (SC.ret (bQ (wc (e' := [(4, .d (eB false))]) [] [] (by kernel_rfl) rfl (by kernel_rfl)) (aZ rfl aX) rfl))))
          ·refine SC.skip ?_
           change SC _ _ _ _ _
           have q := si h6; subst q
           exact SC.region (sm rfl (s1 (bi rfl rfl aT) (sa rfl (SO.nil (lf (wq rfl))))))
         ·have q := si h6; subst q; have q : _ = _ := hv6; subst q; have q := si h4; subst q
          exact SC.exit (lf (wc [0, 1] [0, 1] (by kernel_rfl) rfl (by kernel_rfl)))
      ·intro _ h3
       have q := si h3; subst q
       exact SC.region (sm rfl (s1 (bi rfl rfl aT) (sa rfl (SO.nil (lf (wq rfl))))))
     ·have q := si h3; subst q; have q : _ = _ := hv3; subst q; have q := si h1; subst q
      exact SC.exit (lf (wc [] [] (by kernel_rfl) rfl (by kernel_rfl)))
    ·intro _ h0
     have q := si h0; subst q
     exact sr (sa rfl (sn (SC.ret (bQ (Wk.refl _) (aZ rfl aX) rfl))))
theorem KR (p0 : List Int) (p1 : Int) (r : Bool) (h0 : gM p0 p1 = some r) : aO Tryz.prog 40 [.slc 0 1 0 p0.length none, .d (eI p1)] [.row 1 (List.map eI p0) true] (.d (eB r)) [.row 1 (List.map eI p0) true] := by
 unfold gM at h0
 refine fn0 [0, 1] Tryz.func40 rfl rfl rfl rfl rfl ?_
 refine sr (sa rfl (sn (SC.seqB h0 (fun y => ⟨mk 18 [], [.row 1 (List.map eI p0) true]⟩) ?_ ?_)))
 ·intro abg h1 h0
  obtain ⟨abf, h2, h1⟩ := ob h1
  refine sr (sa rfl (sn (SC.blk (SC.dL h2 (fun y => ⟨mk 18 [(0, .slc 0 1 0 p0.length none), (1, .d (eI p1)), (5, .d (eI y))], [.row 1 (List.map eI p0) true]⟩) (wq rfl) ?_))))
  intro n52
  rintro KC aaR h3 hv3
  refine sq (sr (sm rfl (sm rfl (s1 (len rfl rfl rfl (dP bZ)) (s1 (bi rfl rfl aJ) (sn (cB h3 rfl (fun h3 => ?_) (fun h3 => ?_))))))))
  ·obtain ⟨v51, PK, h3⟩ := ob h3
   refine sk (sq (SC.blk (sr (sm rfl (sm rfl (s1 (JC rfl rfl bZ bD (iL PK)) (s1 (bg rfl (jr bD dH rfl (aY (aj PK).2) rfl)) (sm rfl (s1 (bi rfl rfl aM) ?_)))))))))
   refine sn (cB h3 rfl (fun h3 => ?_) (fun h3 => ?_))
   ·have q := si h3; subst q; have q : _ = _ := hv3; subst q; have q := si h1; subst q; have q := si h0; subst q
    exact sr (sa rfl (sn (SC.ret (bQ (Wk.refl _) (aZ rfl aX) rfl))))
   ·refine SC.skip ?_
    change SC _ _ _ _ _
    have q := si h3; subst q
    exact SC.region (sm rfl (s1 (bi rfl rfl aT) (sa rfl (SO.nil (lf (wq rfl))))))
  ·have q := si h3; subst q; have q : _ = _ := hv3; subst q; have q := si h1; subst q
   exact SC.exit (lf (wq rfl))
 ·intro _ h0
  have q := si h0; subst q
  exact sr (sa rfl (sn (SC.ret (bQ (Wk.refl _) (aZ rfl aX) rfl))))
noncomputable def tY (p0 : List aD) : Option ((List Int)) :=
 Option.bind (α := (List Int))
 (Option.bind (α := (List Int))
 (loop (Y := (List Int)) (W := (List Int)) (fun sH =>
 bif (decide ((sH.length : Int) < (p0.length : Int))) then
 Option.bind (α := Int)
 (Option.bind (α := Int)
 (loop (Y := Int × Int) (W := Int) (fun (Lr, DJ) =>
 bif (decide (DJ < (p0.length : Int))) then
 Option.bind (α := Int)
 (Option.bind (α := Bool)
 (Option.bind (gM sH DJ) fun abN =>
 bif (!abN) then
 bif (decide (Lr < (0 : Int))) then
 some true
 else
 Option.bind (bG p0 DJ) fun aa0 =>
 Option.bind (bG p0 Lr) fun aaZ =>
 some (decide (aa0.jL < aaZ.jL))
 else
 some false)
 fun aaH =>
 bif aaH then
 some DJ
 else
 some Lr)
 fun aaI =>
 some (Sum.inl (aaI, (bF (DJ + (1 : Int)))))
 else
 some (Sum.inr Lr)) ((-1 : Int), (0 : Int)))
 (fun e => some e))
 fun Ls =>
 bif decide ((sH.length + [Ls].length) * 8 ≤ room) then
 some (Sum.inl (sH ++ [Ls]))
 else none
 else
 some (Sum.inr sH)) ([] : List Int))
 (fun e => some e))
 fun R5 =>
 some R5
theorem KN (p0 : List aD) (r : (List Int)) (h0 : tY p0 = some r) : aO Tryz.prog 20 [.d ((eL 8 aL) p0)] [] (.d ((eL 1 eI) r)) [] := by
 unfold tY at h0
 refine fn0 [0] Tryz.func20 rfl rfl rfl rfl rfl ?_
 refine sr (s1 (lX (v := .d .dn) rfl) (sn (sr (s1 (lX (v := .d .dn) rfl) (sn (SC.bV h0 (fun y => ⟨mk 44 [(3, .slc 0 1 0 y.length none)], [.row 1 (List.map eI y) true]⟩) ?_ ?_))))))
 ·intro alT h1
  obtain ⟨alG, h2, h1⟩ := ob h1
  refine SC.blk (SC.dL h2 (fun y => ⟨mk 44 [(0, .d ((eL 8 aL) p0)), (3, .slc 0 1 0 y.length none)], [.row 1 (List.map eI y) true]⟩) (Wk.trans (Wk.mo (σ' := [.row 1 (List.map eI ([] : List Int)) true]) (.row 1 [] true) (fun _ hh => by cases hh) rfl) (Wk.trans (Wk.env (e' := [(0, .d ((eL 8 aL) p0)), (3, .slc 0 1 0 (([] : List Int).length) none)]) (EW.cons (AW.refl _) (EW.cons (AW.mg _ _ _) EW.nil))) (wq rfl))) ?_)
  intro arb
  rintro sH akK h3 hv3
  refine sq (sr (sm rfl (s1 (len rfl rfl rfl (dP bZ)) (sm rfl (s1 (len rfl rfl rfl (bC Iu)) (s1 (bi rfl rfl aJ) (sn (cB h3 rfl (fun h3 => ?_) (fun h3 => ?_)))))))))
  ·refine sk (SC.blk (sr (sa rfl (sn (SC.bV h3 (fun y => ⟨mk 44 [(0, .d ((eL 8 aL) p0)), (3, .slc 0 1 0 sH.length none), (4, .d (eI y))], [.row 1 (List.map eI sH) true]⟩) ?_ ?_)))))
   ·intro alu h4
    obtain ⟨alf, h5, h4⟩ := ob h4
    refine sr (sa rfl (sn (SC.blk (SC.dL h5 (fun y => ⟨mk 44 [(0, .d ((eL 8 aL) p0)), (3, .slc 0 1 0 sH.length none), (4, .d (eI y.1)), (5, .d (eI y.2))], [.row 1 (List.map eI sH) true]⟩) (wq rfl) ?_))))
    intro ard
    rintro ⟨Lr, DJ⟩ akE h6 hv6
    refine sq (sr (sm rfl (sm rfl (s1 (len rfl rfl rfl (bC Iu)) (s1 (bi rfl rfl aJ) (sn (cB h6 rfl (fun h6 => ?_) (fun h6 => ?_))))))))
    ·refine sk (SC.bV h6 (fun y => ⟨mk 44 [(0, .d ((eL 8 aL) p0)), (3, .slc 0 1 0 sH.length none), (4, .d (eI y)), (5, .d (eI DJ))], [.row 1 (List.map eI sH) true]⟩) ?_ ?_)
     ·intro akW h7
      refine SC.blk (SC.bV h7 (fun y => ⟨mk 44 [(0, .d ((eL 8 aL) p0)), (3, .slc 0 1 0 sH.length none), (4, .d (eI Lr)), (5, .d (eI DJ)), (37, .d (eB y))], [.row 1 (List.map eI sH) true]⟩) ?_ ?_)
      ·intro akT h8
       obtain ⟨abN, aeM, h8⟩ := ob h8
       refine SC.draws (by kernel_rfl) (t1 ([], false) (mv rfl) rfl (t1 ([], false) (mv rfl) rfl (tqr [0] [0] (KR sH DJ _ aeM) wf rfl rfl rfl NQ rfl rfl rfl rfl rfl rfl rfl rfl (t1 ([], false) (nt rfl) rfl (t1 ([], false) (mv rfl) rfl (tp h8 (fun h8 => ?_) (fun h8 => ?_)))))))
       ·refine u1 ([], false) (ww rfl) (mv rfl) rfl (u1 ([], false) (ww rfl) (bi rfl rfl aJ) rfl (u1 ([], false) (ww rfl) (mv rfl) rfl (tp h8 (fun h8 => ?_) (fun h8 => ?_))))
        ·have q := si h8; subst q
         refine jw rfl (jw rfl (jw rfl (jw rfl (jw rfl (jw rfl (jw rfl (jw rfl (jw rfl (jw rfl ?_)))))))))
         refine jw rfl (u1 ([], false) (ww rfl) (pkt rfl rfl) rfl (t1 ([], false) (pkt rfl rfl) rfl (ST.nil (And.intro (by decide +kernel) ?_))))
         exact (wq rfl)
        ·obtain ⟨aa0, Xa, h8⟩ := ob h8; obtain ⟨aaZ, W9, h8⟩ := ob h8; have q := si h8; subst q
         refine u1 ([], false) (ww rfl) (mv rfl) rfl (u1 ([], false) (ww rfl) (mv rfl) rfl (u1 ([], false) (ww rfl) (jo rfl rfl Iu OP (aj Xa).1 (aY (aj Xa).2) rfl) rfl (u1 ([], false) (ww rfl) (fap rfl ND bD rfl) rfl (u1 ([], false) (ww rfl) (bg rfl (bN bD dH rfl)) rfl (u1 ([], false) (ww rfl) (mv rfl) rfl (u1 ([], false) (ww rfl) (mv rfl) rfl (u1 ([], false) (ww rfl) (jo rfl rfl Iu OP (aj W9).1 (aY (aj W9).2) rfl) rfl (u1 ([], false) (ww rfl) (fap rfl ND bD rfl) rfl (u1 ([], false) (ww rfl) (bg rfl (bN bD dH rfl)) rfl ?_)))))))))
         refine u1 ([], false) (ww rfl) (bi rfl rfl aJ) rfl (u1 ([], false) (ww rfl) (dx rfl rfl) rfl (t1 ([], false) (pkt rfl rfl) rfl (ST.nil (And.intro (by decide +kernel) ?_))))
         exact (wq rfl)
       ·have q := si h8; subst q
        refine jw rfl (jw rfl (jw rfl (jw rfl (jw rfl (jw rfl (jw rfl (jw rfl (jw rfl (jw rfl ?_)))))))))
        refine jw rfl (jw rfl (jw rfl (jw rfl (jw rfl (t1 ([], false) (dx rfl rfl) rfl (ST.nil (And.intro (by decide +kernel) ?_)))))))
        exact (wq rfl)
      ·rintro aaH h7
       refine cB h7 rfl (fun h7 => ?_) (fun h7 => ?_)
       ·have q := si h7; subst q
        exact SC.region (sm rfl (sa rfl (SO.nil ((wq rfl)))))
       ·have q := si h7; subst q
        exact SC.skip ((wq rfl))
     ·rintro aaI h6
      have q := si h6; subst q
      exact SC.region (sm rfl (s1 (bi rfl rfl aT) (sa rfl (SO.nil (lf (wq rfl))))))
    ·have q := si h6; subst q; have q : _ = _ := hv6; subst q; have q := si h4; subst q
     exact SC.exit ((wq rfl))
   ·rintro Ls h3
    obtain ⟨afb, h3⟩ := gd h3; have q := si h3; subst q
    exact SC.region (sm rfl (sm rfl (s1 (sM (k := 1) (ds := List.map eI [Ls]) (off := 0) (l' := [Ls].length) rfl bZ xH rfl rfl (by rfl) rfl rfl rfl) (s1 (app rfl rfl rfl rfl yR (aF (f := eI) (xs := sH) (k := 2) rfl bZ xH rfl (eY (xs := [Ls]) rfl) afb rfl)) (sa rfl (SO.nil (lf (wc [2] [2] (by kernel_rfl) rfl (by kernel_rfl)))))))))
  ·have q := si h3; subst q; have q : _ = _ := hv3; subst q; have q := si h1; subst q
   exact SC.exit ((wq rfl))
 ·rintro R5 h0
  have q := si h0; subst q
  exact sr (sm rfl (sa rfl (sn (SC.ret (bQ (Wk.trans (Wk.mM (i := 2) (x := .slc 0 1 0 R5.length none) rfl rfl (fF rfl rfl rfl)) (wc (e' := [(2, .d ((eL 1 eI) R5))]) [] [] (by kernel_rfl) rfl (by kernel_rfl))) (aZ rfl aX) rfl)))))
noncomputable def nS (p0 : aP) (p1 : bP) : Option Bool :=
 Option.bind mJ fun aht =>
 bif (!aht) then
 some false
 else
 Option.bind (rM p0) fun ahs =>
 bif (ahs != (0 : Int)) then
 some true
 else
 Option.bind (qz p0) fun Ja =>
 Option.bind (oO p1) fun I9 =>
 Option.bind (mG (aP.mk p0.Name (([] : List aB) ++ p0.aV) (([] : List Int) ++ p0.aH) Ja p0.Tree) p1) fun adO =>
 Option.bind (rG p0 (bT.mk I9 p1.aV p1.Order p1.Limit)) fun Q0 =>
 bif (adO != Q0) then
 some false
 else
 bif (adO != (0 : Int)) then
 some true
 else
 Option.bind (mF (aP.mk p0.Name (([] : List aB) ++ p0.aV) (([] : List Int) ++ p0.aH) Ja p0.Tree) p1) fun D9 =>
 Option.bind (rF p0 (bT.mk I9 p1.aV p1.Order p1.Limit)) fun Pb =>
 Option.bind (α := Bool)
 (bif ((D9.length : Int) != (Pb.length : Int)) then
 some true
 else
 Option.bind (kI p1) fun adN =>
 Option.bind (mh (bT.mk I9 p1.aV p1.Order p1.Limit)) fun adM =>
 Option.bind (kZ adN adM) fun QZ =>
 bif (!QZ) then
 some true
 else
 Option.bind (uf (aP.mk p0.Name (([] : List aB) ++ p0.aV) (([] : List Int) ++ p0.aH) Ja p0.Tree) p0) fun ahr =>
 some (!ahr))
 fun Fg =>
 bif Fg then
 some false
 else
 eu (Y := Unit) (E := Bool)
 (Option.bind (α := Unit ⊕ Bool)
 (loop (Y := Int) (W := Unit ⊕ Bool) (fun KE =>
 bif (decide (KE < (D9.length : Int))) then
 Option.bind (bG D9 KE) fun QG =>
 Option.bind (bG D9 KE) fun OJ =>
 Option.bind (bG D9 KE) fun QF =>
 Option.bind (bG D9 KE) fun QE =>
 Option.bind (bG D9 KE) fun QD =>
 Option.bind (bG D9 KE) fun QC =>
 Option.bind (bG Pb KE) fun VE =>
 bif (!(gJ (aD.mk QG.Index OJ.Span QF.Fixed QE.Bounded QD.Covers QC.jL) VE)) then
 some (Sum.inr (Sum.inr false))
 else
 some (Sum.inl (bF (KE + (1 : Int))))
 else
 some (Sum.inr (Sum.inl ()))) (0 : Int))
 (Sum.elim (fun e => some (Sum.inl e)) (fun e => some (Sum.inr e))))
 (fun _ =>
 Option.bind (oL D9) fun adL =>
 Option.bind (tY Pb) fun adK =>
 Option.bind (kZ adL adK) fun ahq =>
 some ahq)
 (fun e => some e)
theorem FL (p0 : aP) (p1 : bP) (r : Bool) (h0 : nS p0 p1 = some r) : aO Tryz.prog 3 [.d (aK p0), .d (bY p1)] [] (.d (eB r)) [] := by
 unfold nS at h0
 refine fn0 [0, 1] Tryz.func3 rfl rfl rfl rfl rfl ?_
 obtain ⟨aht, aiQ, h0⟩ := ob h0
 refine sr (s1 (tH (k := 0) rfl rfl rfl) (s1 (tH (k := 1) rfl rfl rfl) (sa rfl (sn (sq (sr (c0 (Jw _ aiQ) wf rfl rfl rfl cb7 rfl (fun _ => rfl) (fun _ => rfl) (s1 (nt rfl) (sn ?_)))))))))
 refine cB h0 rfl (fun h0 => ?_) (fun h0 => ?_)
 ·have q := si h0; subst q
  exact sr (sa rfl (sn (SC.ret (bQ (wc (e' := [(4, .d (eB false))]) [] [] (by kernel_rfl) rfl (by kernel_rfl)) (aZ rfl aX) rfl))))
 ·obtain ⟨ahs, aiP, h0⟩ := ob h0
  refine sk (sq (sr (s1 (bg (v := .d (aK p0)) rfl (ah zS DW rfl rfl)) (c0 (IW p0 _ aiP) wf rfl rfl rfl cb8 rfl (fun _ => rfl) (fun _ => rfl) (s1 (bi rfl rfl bS) (sn (cB h0 rfl (fun h0 => ?_) (fun h0 => ?_))))))))
  ·have q := si h0; subst q
   exact sr (sa rfl (sn (SC.ret (bQ (wc (e' := [(4, .d (eB true))]) [] [] (by kernel_rfl) rfl (by kernel_rfl)) (aZ rfl aX) rfl))))
  ·obtain ⟨Ja, aiO, h0⟩ := ob h0; obtain ⟨I9, aiN, h0⟩ := ob h0; obtain ⟨adO, aiM, h0⟩ := ob h0; obtain ⟨Q0, XB, h0⟩ := ob h0
   refine sk (sr (s1 (bg (v := .d (aK p0)) rfl (ah zS DW rfl rfl)) (cq [] [2, 3, 4, 5] (G7 p0 _ aiO) wf rfl rfl rfl cb9 rfl rfl rfl rfl rfl rfl rfl rfl (s1 (yT (k := 6) adj rfl) (s0 (jP rfl rfl (sB (d' := .d (aK (aP.mk p0.Name (([] : List aB) ++ p0.aV) (([] : List Int) ++ p0.aH) Ja p0.Tree))) zS rfl rfl rfl rfl rfl rfl rfl)) (sn (sr (s1 (bg (v := .d (bY p1)) rfl (ah Iw KJ rfl rfl)) (cq [] [7, 8] (FJ p1 _ aiN) wf rfl rfl rfl aqy rfl rfl rfl rfl rfl rfl rfl rfl ?_)))))))))
   refine s1 (yT (k := 9) adi rfl) (s0 (jP rfl rfl (sB (d' := .d (bK (bT.mk I9 p1.aV p1.Order p1.Limit))) MH rfl rfl rfl rfl rfl rfl rfl)) (sn (sr (s1 (bg (v := .d (aK (aP.mk p0.Name (([] : List aB) ++ p0.aV) (([] : List Int) ++ p0.aH) Ja p0.Tree))) rfl (ah zS DW rfl rfl)) (s1 (bg (v := .d (bY p1)) rfl (ah Iw KJ rfl rfl)) (c0 (Cn (aP.mk p0.Name (([] : List aB) ++ p0.aV) (([] : List Int) ++ p0.aH) Ja p0.Tree) p1 _ aiM) wf rfl rfl rfl akh rfl (fun _ => rfl) (fun _ => rfl) (sa rfl (sn (sq ?_)))))))))
   refine sr (sm rfl (s1 (bg (v := .d (aK p0)) rfl (ah zS DW rfl rfl)) (s1 (bg (v := .d (bK (bT.mk I9 p1.aV p1.Order p1.Limit))) rfl (ah MH TL rfl rfl)) (c0 (IL p0 (bT.mk I9 p1.aV p1.Order p1.Limit) _ XB) wf rfl rfl rfl aqx rfl (fun _ => rfl) (fun _ => rfl) (s1 (bi rfl rfl bS) (sn (cB h0 rfl (fun h0 => ?_) (fun h0 => ?_))))))))
   ·have q := si h0; subst q
    exact sr (sa rfl (sn (SC.ret (bQ (wc (e' := [(4, .d (eB false))]) [] [] (by kernel_rfl) rfl (by kernel_rfl)) (aZ rfl aX) rfl))))
   ·refine sk (sq (sr (sm rfl (s1 (bi rfl rfl bS) (sn (cB h0 rfl (fun h0 => ?_) (fun h0 => ?_)))))))
    ·have q := si h0; subst q
     exact sr (sa rfl (sn (SC.ret (bQ (wc (e' := [(4, .d (eB true))]) [] [] (by kernel_rfl) rfl (by kernel_rfl)) (aZ rfl aX) rfl))))
    ·obtain ⟨D9, aiL, h0⟩ := ob h0; obtain ⟨Pb, aiK, h0⟩ := ob h0
     refine sk (sr (s1 (bg (v := .d (aK (aP.mk p0.Name (([] : List aB) ++ p0.aV) (([] : List Int) ++ p0.aH) Ja p0.Tree))) rfl (ah zS DW rfl rfl)) (s1 (bg (v := .d (bY p1)) rfl (ah Iw KJ rfl rfl)) (c0 (Cm (aP.mk p0.Name (([] : List aB) ++ p0.aV) (([] : List Int) ++ p0.aH) Ja p0.Tree) p1 _ aiL) wf rfl rfl rfl aj7 rfl (fun _ => rfl) (fun _ => rfl) (sa rfl (sn (sr (s1 (bg (v := .d (aK p0)) rfl (ah zS DW rfl rfl)) (s1 (bg (v := .d (bK (bT.mk I9 p1.aV p1.Order p1.Limit))) rfl (ah MH TL rfl rfl)) ?_)))))))))
     refine c0 (IK p0 (bT.mk I9 p1.aV p1.Order p1.Limit) _ aiK) wf rfl rfl rfl aqw rfl (fun _ => rfl) (fun _ => rfl) (sa rfl (sn (sq (SC.bV h0 (fun y => ⟨mk 104 [(8, .d ((eL 8 aQ) D9)), (9, .d ((eL 8 aL) Pb)), (55, .d (eB y))], []⟩) ?_ ?_))))
     ·intro aoy h1
      refine SC.draws (by kernel_rfl) (t1 ([], false) (mv rfl) rfl (t1 ([], false) (len rfl rfl rfl (bC uS)) rfl (t1 ([], false) (mv rfl) rfl (t1 ([], false) (len rfl rfl rfl (bC Iu)) rfl (t1 ([], false) (bi rfl rfl bS) rfl (t1 ([], false) (mv rfl) rfl (tp h1 (fun h1 => ?_) (fun h1 => ?_))))))))
      ·have q := si h1; subst q
       refine jw rfl (jw rfl (jw rfl (jw rfl (jw rfl (jw rfl (t1 ([], false) (pkt rfl rfl) rfl (t1 ([], false) (mv rfl) rfl (jw rfl (jw rfl ?_)))))))))
       refine jw rfl (jw rfl (t1 ([], false) (pkt rfl rfl) rfl (ST.nil (And.intro (by decide +kernel) ?_))))
       exact (wc [] [] (by kernel_rfl) rfl (by kernel_rfl))
      ·obtain ⟨adN, aiI, h1⟩ := ob h1; obtain ⟨adM, aiH, h1⟩ := ob h1; obtain ⟨QZ, Xz, h1⟩ := ob h1
       refine u1 ([1], false) (ww rfl) (bg (v := .d (bY p1)) rfl (ah Iw KJ rfl rfl)) rfl (Fa (wh p1 _ aiI) (ww rfl) rfl rfl rfl afH rfl (fun _ => rfl) (fun _ => rfl) (u1 ([9], false) (ww rfl) (bg (v := .d (bK (bT.mk I9 p1.aV p1.Order p1.Limit))) rfl (ah MH TL rfl rfl)) rfl (Fa (zW (bT.mk I9 p1.aV p1.Order p1.Limit) _ aiH) (ww rfl) rfl rfl rfl aj2 rfl (fun _ => rfl) (fun _ => rfl) (Fa (oJ adN adM _ Xz) (ww rfl) rfl rfl rfl Ux rfl (fun _ => rfl) (fun _ => rfl) (u1 ([], false) (ww rfl) (nt rfl) rfl (t1 ([], false) (dx rfl rfl) rfl (t1 ([], false) (mv rfl) rfl (tp h1 (fun h1 => ?_) (fun h1 => ?_)))))))))
       ·have q := si h1; subst q
        refine jw rfl (jw rfl (jw rfl (jw rfl (t1 ([], false) (pkt rfl rfl) rfl (ST.nil (And.intro (by decide +kernel) ?_))))))
        exact (wc [] [] (by kernel_rfl) rfl (by kernel_rfl))
       ·obtain ⟨ahr, aiG, h1⟩ := ob h1; have q := si h1; subst q
        refine u1 ([6], false) (ww rfl) (bg (v := .d (aK (aP.mk p0.Name (([] : List aB) ++ p0.aV) (([] : List Int) ++ p0.aH) Ja p0.Tree))) rfl (ah zS DW rfl rfl)) rfl (u1 ([0], false) (ww rfl) (bg (v := .d (aK p0)) rfl (ah zS DW rfl rfl)) rfl (Fa (KP (aP.mk p0.Name (([] : List aB) ++ p0.aV) (([] : List Int) ++ p0.aH) Ja p0.Tree) p0 _ aiG) (ww rfl) rfl rfl rfl aqv rfl (fun _ => rfl) (fun _ => rfl) (u1 ([], false) (ww rfl) (nt rfl) rfl (t1 ([], false) (dx rfl rfl) rfl (ST.nil (And.intro (by decide +kernel) ?_))))))
        exact (wc [] [] (by kernel_rfl) rfl (by kernel_rfl))
     ·rintro Fg h0
      refine cB h0 rfl (fun h0 => ?_) (fun h0 => ?_)
      ·have q := si h0; subst q
       exact sr (sa rfl (sn (SC.ret (bQ (Wk.refl _) (aZ rfl aX) rfl))))
      ·refine sk (SC.seqB h0 (fun y => ⟨mk 104 [(8, .d ((eL 8 aQ) D9)), (9, .d ((eL 8 aL) Pb))], []⟩) ?_ ?_)
       ·intro aot h1 h0
        obtain ⟨anR, h2, h1⟩ := ob h1
        refine sr (sa rfl (sn (SC.blk (SC.dL h2 (fun y => ⟨mk 104 [(8, .d ((eL 8 aQ) D9)), (9, .d ((eL 8 aL) Pb)), (10, .d (eI y))], []⟩) (wq rfl) ?_))))
        intro n274
        rintro KE amn h3 hv3
        refine sq (sr (sm rfl (sm rfl (s1 (len rfl rfl rfl (bC uS)) (s1 (bi rfl rfl aJ) (sn (cB h3 rfl (fun h3 => ?_) (fun h3 => ?_))))))))
        ·obtain ⟨QG, acQ, h3⟩ := ob h3; obtain ⟨OJ, acP, h3⟩ := ob h3; obtain ⟨QF, acO, h3⟩ := ob h3; obtain ⟨QE, acN, h3⟩ := ob h3; obtain ⟨QD, acM, h3⟩ := ob h3; obtain ⟨QC, acL, h3⟩ := ob h3; obtain ⟨VE, acK, h3⟩ := ob h3
         refine sk (sq (SC.blk (sd (by kernel_rfl) (t1 ([], false) (mv rfl) rfl (t1 ([], false) (mv rfl) rfl (t1 ([], false) (jo rfl rfl uS xL (aj acQ).1 (aY (aj acQ).2) rfl) rfl (t1 ([], false) (fap rfl XP bD rfl) rfl (t1 ([], false) (bg rfl (bN bD dH rfl)) rfl (t1 ([], false) (mv rfl) rfl ?_)))))))))
         refine t1 ([], false) (mv rfl) rfl (t1 ([], false) (jo rfl rfl uS xL (aj acP).1 (aY (aj acP).2) rfl) rfl (t1 ([], false) (fap rfl Rm nE rfl) rfl (t1 ([], false) (bg (v := .d (bB OJ.Span)) rfl (bN nE CG rfl)) rfl (t1 ([], false) (mv rfl) rfl (t1 ([], false) (mv rfl) rfl (t1 ([], false) (jo rfl rfl uS xL (aj acO).1 (aY (aj acO).2) rfl) rfl (t1 ([], false) (fap rfl Dm bD rfl) rfl (t1 ([], false) (bg rfl (bN bD dH rfl)) rfl (t1 ([], false) (mv rfl) rfl ?_)))))))))
         refine t1 ([], false) (mv rfl) rfl (t1 ([], false) (jo rfl rfl uS xL (aj acN).1 (aY (aj acN).2) rfl) rfl (t1 ([], false) (fap rfl JJ jZ rfl) rfl (t1 ([], false) (bg rfl (bN jZ wS rfl)) rfl (t1 ([], false) (mv rfl) rfl (t1 ([], false) (mv rfl) rfl (t1 ([], false) (jo rfl rfl uS xL (aj acM).1 (aY (aj acM).2) rfl) rfl (t1 ([], false) (fap rfl Rl jZ rfl) rfl (t1 ([], false) (bg rfl (bN jZ wS rfl)) rfl (t1 ([], false) (mv rfl) rfl ?_)))))))))
         refine t1 ([], false) (mv rfl) rfl (t1 ([], false) (jo rfl rfl uS xL (aj acL).1 (aY (aj acL).2) rfl) rfl (t1 ([], false) (fap rfl yK bD rfl) rfl (t1 ([], false) (bg rfl (bN bD dH rfl)) rfl (t1 ([], false) (xI rfl (F7 QG.Index OJ.Span QF.Fixed QE.Bounded QD.Covers QC.jL)) rfl (t1 ([0], true) (yT (k := 0) afZ rfl) rfl (t0 ([0], true) (jP rfl rfl (sB (d' := .d (aL (aD.mk QG.Index OJ.Span QF.Fixed QE.Bounded QD.Covers QC.jL))) OP rfl rfl rfl rfl rfl rfl rfl)) rfl (tn (by decide +kernel) (sd (by kernel_rfl) (t1 ([0], false) (bg (v := .d (aL (aD.mk QG.Index OJ.Span QF.Fixed QE.Bounded QD.Covers QC.jL))) rfl (ah OP adE rfl rfl)) rfl ?_)))))))))
         refine t1 ([], false) (mv rfl) rfl (t1 ([], false) (mv rfl) rfl (t1 ([], false) (jo rfl rfl Iu OP (aj acK).1 (aY (aj acK).2) rfl) rfl (t1 ([], false) (bg (v := .d (aL VE)) rfl (bN OP adE rfl)) rfl (t1 ([], false) (bi (v := .d (eB (!(gJ (aD.mk QG.Index OJ.Span QF.Fixed QE.Bounded QD.Covers QC.jL) VE)))) rfl rfl (fun X Y => uV X Y (aD.mk QG.Index OJ.Span QF.Fixed QE.Bounded QD.Covers QC.jL) VE)) rfl (tn (by decide +kernel) (cB h3 rfl (fun h3 => ?_) (fun h3 => ?_)))))))
         ·have q := si h3; subst q; have q : _ = _ := hv3; subst q; have q := si h1; subst q; have q := si h0; subst q
          exact sr (sa rfl (sn (SC.ret (bQ (wc (e' := [(4, .d (eB false))]) [] [] (by kernel_rfl) rfl (by kernel_rfl)) (aZ rfl aX) rfl))))
         ·refine SC.skip ?_
          change SC _ _ _ _ _
          have q := si h3; subst q
          exact SC.region (sm rfl (s1 (bi rfl rfl aT) (sa rfl (SO.nil (lf (wc [] [] (by kernel_rfl) rfl (by kernel_rfl)))))))
        ·have q := si h3; subst q; have q : _ = _ := hv3; subst q; have q := si h1; subst q
         exact SC.exit (lf (wq rfl))
       ·intro _ h0
        obtain ⟨adL, aiy, h0⟩ := ob h0; obtain ⟨adK, aix, h0⟩ := ob h0; obtain ⟨ahq, aiw, h0⟩ := ob h0; have q := si h0; subst q
        exact sr (sm rfl (c0 (Ei D9 _ aiy) wf rfl rfl rfl aj1 rfl (fun _ => rfl) (fun _ => rfl) (sm rfl (c0 (KN Pb _ aix) wf rfl rfl rfl aqu rfl (fun _ => rfl) (fun _ => rfl) (c0 (oJ adL adK _ aiw) wf rfl rfl rfl Ux rfl (fun _ => rfl) (fun _ => rfl) (sa rfl (sn (SC.ret (bQ (Wk.refl _) (aZ rfl aX) rfl)))))))))
end Lv
