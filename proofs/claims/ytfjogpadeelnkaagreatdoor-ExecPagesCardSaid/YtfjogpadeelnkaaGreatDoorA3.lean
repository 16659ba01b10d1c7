/- Part of the proof of a law. -/
import Derived.Test.YtfjogpadeelnkaaGreatDoorA2
set_option linter.unnecessarySimpa false
set_option linter.unusedVariables false
set_option linter.unusedSimpArgs false
set_option linter.unusedSectionVars false
namespace Lv
open Option renaming bind→ah
open SC renaming region→aO,ret→aM,exit→bZ,skip→bR
open Go Go.Proofs
set_option maxRecDepth 100000
variable [bJ] [wY]
noncomputable def jo (p0:List aU) (p1:dG) (p2:Int):Option ((List aU)):=
 ah (α:=(List aU))
 (ah (α:=(List aU))
 (loop (Y:=(List aU)×Int) (W:=(List aU)) (fun (DV,Jm)=>
 bif (decide (Jm < (p0.length:Int))) then
 ah (α:=(List aU))
 (ah (α:=Bool)
 (ah (bP p0 Jm) fun Ra=>
 ah (yI p1 Ra.Key) fun adY=>
 bif adY then
 bif (decide (p2 < (0:Int))) then
 some true
 else
 some (decide ((DV.length:Int) < p2))
 else
 some false)
 fun adb=>
 bif adb then
 ah (bP p0 Jm) fun G9=>
 bif decide ((DV.length+[G9].length)*72≤room) then
 some (DV++[G9])
 else none
 else
 some DV)
 fun adh=>
 some (Sum.inl (adh,(bL (Jm+(1:Int)))))
 else
 some (Sum.inr DV)) (([]:List aU),(0:Int)))
 (fun e=>some e))
 fun Xw=>
 some Xw
theorem Ea (p0:List aU) (p1:dG) (p2:Int) (r:(List aU)) (h0:jo p0 p1 p2=some r):aT Tryz.prog 266 [.rop [((eL 6 bC) p0)],.d (iQ p1),.d (eI p2)] [] (.d ((eL 6 bC) r)) []:=by
 unfold jo at h0
 refine fn0 [0,1,2] Tryz.func266 U U U U U ?_
 refine sr (s1 (nN (k:=0) U U U) (s1 (jA (v:=.d .dB) U) (sn (sr (s1 (jA (v:=.d .dB) U) (sn (SC.dw h0 (fun y=>⟨mk 49 [(7,.slc 0 6 0 y.length none)],[.row 6 (List.map bC y) true]⟩) ?_ ?_)))))))
 ·intro arR h1
  obtain ⟨arb,h2,h1⟩:=ob h1
  refine sr (sa U (sn (SC.blk (SC.eH h2 (fun y=>⟨mk 49 [(0,.rop [((eL 6 bC) p0)]),(2,.d (eI p2)),(4,.ref 0 0 0),(7,.slc 1 6 0 y.1.length none),(8,.d (eI y.2))],[.box (.d (iQ p1)),.row 6 (List.map bC y.1) true]⟩) (Wk.trans (Wk.nI (σ':=[.box (.d (iQ p1)),.row 6 (List.map bC ([]:List aU)) true]) (.row 6 [] true) (fun _ hh=>by cases hh) U) (Wk.trans (Wk.env (e':=[(0,.rop [((eL 6 bC) p0)]),(2,.d (eI p2)),(4,.ref 0 0 0),(7,.slc 1 6 0 (([]:List aU).length) none),(8,.d (eI (0:Int)))]) (EW.cons (AW.refl _) (EW.cons (AW.refl _) (EW.cons (AW.refl _) (EW.cons (AW.mH _ _ _) (EW.cons (AW.refl _) EW.nil)))))) (wq U))) ?_))))
  intro avr
  rintro ⟨DV,Jm⟩ ap8 h3 hv3
  refine sq (sr (sm U (sm U (s1 (nkp U) (s1 (fap U rG oP U) (s1 (bK U (bY oP Dq U)) (s1 (len U U U (bN qp)) (s1 (bi U U bB) (sn ?_)))))))))
  refine cB h3 U (fun h3=>?_) (fun h3=>?_)
  ·refine sk (SC.dw h3 (fun y=>⟨mk 49 [(0,.rop [((eL 6 bC) p0)]),(2,.d (eI p2)),(4,.ref 0 0 0),(7,.slc 1 6 0 y.length none),(8,.d (eI Jm))],[.box (.d (iQ p1)),.row 6 (List.map bC y) true]⟩) ?_ ?_)
   ·intro aqR h4
    refine SC.blk (SC.dw h4 (fun y=>⟨mk 49 [(0,.rop [((eL 6 bC) p0)]),(2,.d (eI p2)),(4,.ref 0 0 0),(7,.slc 1 6 0 DV.length none),(8,.d (eI Jm)),(37,.d (eB y))],[.box (.d (iQ p1)),.row 6 (List.map bC DV) true]⟩) ?_ ?_)
    ·intro aqG h5
     obtain ⟨Ra,SF,h5⟩:=ob h5;obtain ⟨adY,alQ,h5⟩:=ob h5
     refine SC.draws (by kernel_rfl) (t1 ([0],false) (bK (v:=.d (iQ p1)) U (ak XJ adP U U)) U (t1 aH (mv U) U (t1 aH (nkp U) U (t1 aH (fap U rG oP U) U (t1 aH (bK U (bY oP Dq U)) U (t1 aH (mv U) U (t1 aH (kV U U qp pq (aB SF).1 (bI (aB SF).2) U) U (t1 aH (fap U CP iA U) U (t1 aH (bK U (bY iA qw U)) U ?_)))))))))
     refine Hg (RB p1 Ra.Key _ alQ) wf U U U at6 U (fun _=>rfl) (fun _=>rfl) (t1 aH (mv U) U (tp h5 (fun h5=>?_) (fun h5=>?_)))
     ·refine u1 aH (ww U) (mv U) U (u1 aH (ww U) (bi U U bB) U (u1 aH (ww U) (mv U) U (tp h5 (fun h5=>?_) (fun h5=>?_))))
      ·have q:=si h5;subst q
       refine jw U (jw U (jw U (jw U (u1 aH (ww U) (pkt U U) U (t1 aH (pkt U U) U (ST.nil (And.intro (by decide +kernel) ?_)))))))
       exact (wq U)
      ·have q:=si h5;subst q
       refine u1 aH (ww U) (mv U) U (u1 aH (ww U) (len U U U (gN qp)) U (u1 aH (ww U) (mv U) U (u1 aH (ww U) (bi U U bB) U (u1 aH (ww U) (eT U U) U (t1 aH (pkt U U) U (ST.nil (And.intro (by decide +kernel) ?_)))))))
       exact (wq U)
     ·have q:=si h5;subst q
      refine jw U (jw U (jw U (jw U (jw U (jw U (jw U (jw U (t1 aH (eT U U) U (ST.nil (And.intro (by decide +kernel) ?_))))))))))
      exact (wq U)
    ·rintro adb h4
     refine cB h4 U (fun h4=>?_) (fun h4=>?_)
     ·obtain ⟨G9,SE,h4⟩:=ob h4;obtain ⟨am0,h4⟩:=gd h4;have q:=si h4;subst q
      refine aO (sm U (sm U (s1 (nkp U) (s1 (fap U rG oP U) (s1 (bK U (bY oP Dq U)) (sm U (s1 (kV U U qp pq (aB SE).1 (bI (aB SE).2) U) (s1 (bK (v:=.d (bC G9)) U (bY pq FD U)) (s1 (rX (k:=2) (ds:=List.map bC [G9]) (off:=0) (l':=[G9].length) U qp Ou U U (by rfl) U U U) ?_)))))))))
      exact s1 (app U U U U acz (aF (f:=bC) (xs:=DV) (k:=3) U qp Ou U (dU (xs:=[G9]) U) am0 U)) (sa U (SO.nil ((aC [0,3] [0,3] U))))
     ·have q:=si h4;subst q
      exact bR ((wq U))
   ·rintro adh h3
    have q:=si h3;subst q
    exact aO (sm U (s1 (bi U U bH) (sa U (SO.nil (lf (wq U))))))
  ·have q:=si h3;subst q;have q:_=_:=hv3;subst q;have q:=si h1;subst q
   exact bZ ((aC [1] [1] U))
 ·rintro Xw h0
  have q:=si h0;subst q
  exact sr (sm U (sa U (sn (aM (bM (Wk.trans (Wk.og (i:=6) (x:=.slc 0 6 0 Xw.length none) U U (fF U U U)) (aC (e':=[(6,.d ((eL 6 bC) Xw))]) [] [] U)) (bq U aW) U)))))
noncomputable def fA (p0:Int) (p1:dG) (p2:ay):Option ((List dh)×Int):=
 ah (kF p2) fun _=>
 bif ((bL (p2.calls+(1:Int)))==p2.fail) then
 some (([]:List dh),(4:Int))
 else
 ah (α:=(List dh))
 (ah (α:=(List dh))
 (loop (Y:=(List dh)×Int) (W:=(List dh)) (fun (QW,Jk)=>
 bif (decide (Jk < (p2.no.length:Int))) then
 ah (α:=(List dh))
 (ah (bP p2.no Jk) fun adC=>
 bif (adC != p0) then
 some QW
 else
 ah (bP p2.trees Jk) fun XF=>
 ah (jo XF.L p1 (-1:Int)) fun Pq=>
 ah (α:=(List dh))
 (loop (Y:=(List dh)×Int) (W:=(List dh)) (fun (OP,DU)=>
 bif (decide (DU < (Pq.length:Int))) then
 ah (bP Pq DU) fun M4=>
 ah (bP Pq DU) fun M0=>
 bif decide ((OP.length+[(dh.mk M4.Key M0.Val)].length)*32≤room) then
 some (Sum.inl ((OP++[(dh.mk M4.Key M0.Val)]),(bL (DU+(1:Int)))))
 else none
 else
 some (Sum.inr OP)) (QW,(0:Int)))
 (fun e=>some e))
 fun ac5=>
 some (Sum.inl (ac5,(bL (Jk+(1:Int)))))
 else
 some (Sum.inr QW)) (([]:List dh),(0:Int)))
 (fun e=>some e))
 fun Xq=>
 some (Xq,(0:Int))
theorem AO (p0:Int) (p1:dG) (p2:ay) (r:(List dh)×Int) (h0:fA p0 p1 p2=some r):aT Tryz.prog 263 [.ref 0 0 0,.d (eI p0),.d (iQ p1)] [.box (.d (aI p2))] (.tuple [.d ((eL 2 dS) r.1),.d (eI r.2)]) [.box (.d (aI (ay.mk p2.no p2.trees (bL (p2.calls+(1:Int))) p2.fail)))]:=by
 unfold fA at h0
 refine fn0 [0,1,2] Tryz.func263 U U U U U ?_
 obtain ⟨_,alK,h0⟩:=ob h0
 refine sr (s1 (nN (k:=1) U U U) (s1 (jA (v:=.d .dB) U) (sa U (sn (sq (sr (sm U (cq [0] [] (yN p2 _ alK) wf U U U anX U U U U U U U U (sn ?_)))))))))
 refine cB h0 U (fun h0=>?_) (fun h0=>?_)
 ·have q:=si h0;subst q
  exact sr (s1 (jA (v:=.d .dB) U) (sa U (sn (aM (bM (Wk.trans (Wk.env (e':=[(6,.d ((eL 2 dS) ([]:List dh))),(7,.d (eI (4:Int)))]) (EW.cons (AW.nl _) (EW.cons (AW.refl _) EW.nil))) (aC (e':=[(6,.d ((eL 2 dS) ([]:List dh))),(7,.d (eI (4:Int)))]) [0] [0] U)) (bq U (bq U aW)) U)))))
 ·refine sk (sr (s1 (jA (v:=.d .dB) U) (sn (SC.dw h0 (fun y=>⟨mk 62 [(8,.slc 1 2 0 y.length none)],[.box (.d (aI (ay.mk p2.no p2.trees (bL (p2.calls+(1:Int))) p2.fail))),.row 2 (List.map dS y) true]⟩) ?_ ?_))))
  ·intro arL h1
   obtain ⟨aq5,h2,h1⟩:=ob h1
   refine sr (sa U (sn (SC.blk (SC.eH h2 (fun y=>⟨mk 62 [(0,.ref 0 0 0),(1,.d (eI p0)),(5,.ref 1 0 0),(8,.slc 2 2 0 y.1.length none),(9,.d (eI y.2))],[.box (.d (aI (ay.mk p2.no p2.trees (bL (p2.calls+(1:Int))) p2.fail))),.box (.d (iQ p1)),.row 2 (List.map dS y.1) true]⟩) (Wk.trans (Wk.nI (σ':=[.box (.d (aI (ay.mk p2.no p2.trees (bL (p2.calls+(1:Int))) p2.fail))),.box (.d (iQ p1)),.row 2 (List.map dS ([]:List dh)) true]) (.row 2 [] true) (fun _ hh=>by cases hh) U) (Wk.trans (Wk.env (e':=[(0,.ref 0 0 0),(1,.d (eI p0)),(5,.ref 1 0 0),(8,.slc 2 2 0 (([]:List dh).length) none),(9,.d (eI (0:Int)))]) (EW.cons (AW.refl _) (EW.cons (AW.refl _) (EW.cons (AW.refl _) (EW.cons (AW.mH _ _ _) (EW.cons (AW.refl _) EW.nil)))))) (wq U))) ?_))))
   intro avl
   rintro ⟨QW,Jk⟩ ap4 h3 hv3
   refine sq (sr (sm U (sm U (s1 (lu U) (s1 (far (k:=0) U abW jf U) (s1 (bK U (ak jf vB U U)) (s1 (len U U U (bN iJ)) (s1 (bi U U bB) (sn ?_)))))))))
   refine cB h3 U (fun h3=>?_) (fun h3=>?_)
   ·refine sk (SC.dw h3 (fun y=>⟨mk 62 [(0,.ref 0 0 0),(1,.d (eI p0)),(5,.ref 1 0 0),(8,.slc 2 2 0 y.length none),(9,.d (eI Jk))],[.box (.d (aI (ay.mk p2.no p2.trees (bL (p2.calls+(1:Int))) p2.fail))),.box (.d (iQ p1)),.row 2 (List.map dS y) true]⟩) ?_ ?_)
    ·intro aqO h4
     obtain ⟨adC,afM,h4⟩:=ob h4
     refine SC.blk (sq (sr (sm U (s1 (lu U) (s1 (far (k:=0) U abW jf U) (s1 (bK U (ak jf vB U U)) (sm U (s1 (kV U U iJ dH (aB afM).1 (bI (aB afM).2) U) (s1 (bK U (bY dH gV U)) ?_)))))))))
     refine sm U (s1 (bi U U dA) (sn (cB h4 U (fun h4=>?_) (fun h4=>?_))))
     ·have q:=si h4;subst q
      exact bZ ((wq U))
     ·obtain ⟨XF,afL,h4⟩:=ob h4;obtain ⟨Pq,aly,h4⟩:=ob h4;obtain ⟨aqE,h5,h4⟩:=ob h4
      refine sk (sd (by kernel_rfl) (t1 aH (mv U) U (t1 aH (lu U) U (t1 aH (far (k:=1) U aiP ako U) U (t1 ([0],false) (bK U (ak ako asc U U)) U (t1 aH (mv U) U (t1 aH (kV U U aag adJ (aB afL).1 (bI (aB afL).2) U) U (t1 aH (Yl.ptr (cs:=[((eL 6 bC) XF.L)]) (bK U (bY adJ akq U))) U (t1 ([1],false) (bK (v:=.d (iQ p1)) U (ak XJ adP U U)) U ?_)))))))))
      refine Hg (Ea XF.L p1 (-1:Int) _ aly) wf U U U anW U (fun _=>rfl) (fun _=>rfl) (t1 aH (jA U) U (tn (by decide +kernel) (sr (sa U (sn (SC.blk (SC.eH h5 (fun y=>⟨mk 62 [(0,.ref 0 0 0),(1,.d (eI p0)),(5,.ref 1 0 0),(8,.slc 2 2 0 y.1.length none),(9,.d (eI Jk)),(10,.d ((eL 6 bC) Pq)),(11,.d (eI y.2))],[.box (.d (aI (ay.mk p2.no p2.trees (bL (p2.calls+(1:Int))) p2.fail))),.box (.d (iQ p1)),.row 2 (List.map dS y.1) true]⟩) (wq U) ?_)))))))
      intro avm
      rintro ⟨OP,DU⟩ apX h6 hv6
      refine sq (sr (sm U (sm U (s1 (len U U U (bN qp)) (s1 (bi U U bB) (sn (cB h6 U (fun h6=>?_) (fun h6=>?_))))))))
      ·obtain ⟨M4,afK,h6⟩:=ob h6;obtain ⟨M0,afJ,h6⟩:=ob h6;obtain ⟨abQ,h6⟩:=gd h6
       refine sk (sq (SC.blk (SC.draws (by kernel_rfl) (t1 aH (mv U) U (t1 aH (mv U) U (t1 aH (mv U) U (t1 aH (kV U U qp pq (aB afK).1 (bI (aB afK).2) U) U (t1 aH (fap U CP iA U) U (t1 aH (bK U (bY iA qw U)) U ?_)))))))))
       refine t1 aH (mv U) U (t1 aH (mv U) U (t1 aH (kV U U qp pq (aB afJ).1 (bI (aB afJ).2) U) U (t1 aH (fap U Qj iA U) U (t1 aH (bK U (bY iA qw U)) U (t1 aH (vg U (acu M4.Key M0.Val)) U (t1 ([3],true) (rX (k:=3) (ds:=List.map dS [(dh.mk M4.Key M0.Val)]) (off:=0) (l':=[(dh.mk M4.Key M0.Val)].length) U V4 anu U U (by rfl) U U U) U (t1 ([2,3,4],true) (app U U U U aoN (aF (f:=dS) (xs:=OP) (k:=4) U V4 anu U (dU (xs:=[(dh.mk M4.Key M0.Val)]) U) abQ U)) U (t1 aH (jA U) U (ST.nil (And.intro (by decide +kernel) ?_))))))))))
       change SC _ _ _ _ _
       have q:=si h6;subst q
       exact aO (sm U (s1 (bi U U bH) (sa U (SO.nil (lf (aC [0,1,4] [0,0,1,4] U))))))
      ·have q:=si h6;subst q;have q:_=_:=hv6;subst q;have q:=si h4;subst q
       exact bZ ((wq U))
    ·rintro ac5 h3
     have q:=si h3;subst q
     exact aO (sm U (s1 (bi U U bH) (sa U (SO.nil (lf (wq U))))))
   ·have q:=si h3;subst q;have q:_=_:=hv3;subst q;have q:=si h1;subst q
    exact bZ ((aC [0,2] [0,2] U))
  ·rintro Xq h0
   have q:=si h0;subst q
   exact sr (sm U (sa U (sa U (sn (aM (bM (Wk.trans (Wk.og (i:=6) (x:=.slc 1 2 0 Xq.length none) U U (fF U U U)) (aC (e':=[(6,.d ((eL 2 dS) Xq)),(7,.d (eI (0:Int)))]) [0] [0] U)) (bq U (bq U aW)) U))))))
noncomputable def je (p0:Int) (p1:aL) (p2:bG) (p3:bQ) (p4:List aX) (p5:ay):Option ((List dh)×Int):=
 bif decide ([(bO.mk p0 p3.Span false)].length*56≤room) then
 ah (fA p0 p3.Span p5) fun (PE,r14)=>
 some (PE,r14)
 else none
theorem Gt (p0:Int) (p1:aL) (p2:bG) (p3:bQ) (p4:List aX) (p5:ay) (r:(List dh)×Int) (h0:je p0 p1 p2 p3 p4 p5=some r):aT Tryz.prog 94 [.ref 0 0 0,.d (eI p0)] [.box (.agg [.iface 56 (.ref 1 0 0),.d (eS p1.Name),.d ((eL 7 aJ) p1.aV),.d ((eL 1 eI) p1.aR),.d ((eL 6 bF) p1.bn),.d (eI p1.Tree),.d ((eL 6 bg) p2.Pred),.d ((eL 1 eI) p2.aV),.d ((eL 2 aK) p2.Order),.d (eI p2.Limit),.d (eI p3.Index),.d (eS p3.Span.Lo),.d (eS p3.Span.Hi),.d (eB p3.Span.Open),.d (eI p3.Fixed),.d (eB p3.Bounded),.d (eB p3.Covers),.d (eI p3.iW),.d .dB,.d ((eL 2 aK) p4),.d .dB]),.box (.d (aI p5))] (.tuple [.d ((eL 2 dS) r.1),.d (eI r.2)]) [.box (.agg [.iface 56 (.ref 1 0 0),.d (eS p1.Name),.d ((eL 7 aJ) p1.aV),.d ((eL 1 eI) p1.aR),.d ((eL 6 bF) p1.bn),.d (eI p1.Tree),.d ((eL 6 bg) p2.Pred),.d ((eL 1 eI) p2.aV),.d ((eL 2 aK) p2.Order),.d (eI p2.Limit),.d (eI p3.Index),.d (eS p3.Span.Lo),.d (eS p3.Span.Hi),.d (eB p3.Span.Open),.d (eI p3.Fixed),.d (eB p3.Bounded),.d (eB p3.Covers),.d (eI p3.iW),.slc 2 5 0 ([(bO.mk p0 p3.Span false)].length) none,.d ((eL 2 aK) p4),.d .dB]),.box (.d (aI (ay.mk p5.no p5.trees (bL (p5.calls+(1:Int))) p5.fail))),.row 5 (List.map cZ [(bO.mk p0 p3.Span false)]) true]:=by
 unfold je at h0
 refine fn0 [0,1] Tryz.func94 U U U U U ?_
 obtain ⟨aiI,h0⟩:=gd h0;obtain ⟨⟨PE,r14⟩,hq12,h0⟩:=ob h0;have q:=si h0;subst q
 refine sr (s1 (jA (v:=.d .dB) U) (sa U (sn (sd (by kernel_rfl) (t1 aH (mv U) U (t1 aH (mv U) U (t1 aH (lu U) U (t1 aH (far (k:=18) U Ql Uf U) U (t1 ([0],false) (bK U (ak Uf akr U U)) U ?_)))))))))
 refine t1 aH (mv U) U (t1 aH (mv U) U (t1 aH (lu U) U (t1 aH (far (k:=10) U WV Ug U) U (t1 aH (far (k:=11) U abX XJ U) U (t1 ([0],false) (bK (v:=.d (iQ p3.Span)) U (ak XJ adP U U)) U (t1 aH (vg U (aco p0 p3.Span)) U (t1 ([2],true) (rX (k:=2) (ds:=List.map cZ [(bO.mk p0 p3.Span false)]) (off:=0) (l':=[(bO.mk p0 p3.Span false)].length) U aaf ant U U (by rfl) U U U) U (t1 ([2,3],true) (app U U U U aup (aN (f:=cZ) (k:=3) aaf ant (dU (xs:=[(bO.mk p0 p3.Span false)]) U) aiI U)) U (t1 aH (lu U) U ?_)))))))))
 refine t1 aH (far (k:=18) U Ql Uf U) U (t0 ([0,3],true) (jF U U (sB (d':=.agg [.iface 56 (.ref 1 0 0),.d (eS p1.Name),.d ((eL 7 aJ) p1.aV),.d ((eL 1 eI) p1.aR),.d ((eL 6 bF) p1.bn),.d (eI p1.Tree),.d ((eL 6 bg) p2.Pred),.d ((eL 1 eI) p2.aV),.d ((eL 2 aK) p2.Order),.d (eI p2.Limit),.d (eI p3.Index),.d (eS p3.Span.Lo),.d (eS p3.Span.Hi),.d (eB p3.Span.Open),.d (eI p3.Fixed),.d (eB p3.Bounded),.d (eB p3.Covers),.d (eI p3.iW),.slc 3 5 0 ([(bO.mk p0 p3.Span false)].length) none,.d ((eL 2 aK) p4),.d .dB]) Uf U U U U U U U)) U (tn (by decide +kernel) (sd (by kernel_rfl) (t1 aH (mv U) U (t1 aH (lu U) U (t1 aH (far (k:=0) U aeo afr U) U (t1 ([0],false) (bK U (ak afr akt U U)) U (t1 aH (mv U) U (t1 aH (mv U) U ?_)))))))))
 refine t1 aH (lu U) U (t1 aH (far (k:=10) U WV Ug U) U (t1 aH (far (k:=11) U abX XJ U) U (t1 ([0],false) (bK (v:=.d (iQ p3.Span)) U (ak XJ adP U U)) U (t1 aH (nki U) U (t1 aH (mv U) U (tiq [1] [] ([1],true) (AO p0 p3.Span p5 _ hq12) wf U U U UG asL anY U U U U U U U U U (t1 aH (ext U U) U (t1 aH (ext U U) U (t1 aH (jA U) U ?_)))))))))
 exact t1 aH (jA U) U (tn (by decide +kernel) (aM (bM (aC (e':=[(4,.d ((eL 2 dS) PE)),(5,.d (eI r14))]) [0,1,3] [0,1] U) (bq U (bq U aW)) U)))
noncomputable def pR (p0:List UInt8):Option Bool:=
 ah (α:=Bool)
 (bif (p0==([]:List UInt8)) then
 some true
 else
 some (decide ((p0.length:Int) > (16:Int))))
 fun y88=>
 bif y88 then
 some false
 else
 fP (Y:=Unit) (E:=Bool)
 (ah (α:=Unit⊕Bool)
 (loop (Y:=Int) (W:=Unit⊕Bool) (fun iR=>
 bif (decide (iR < (p0.length:Int))) then
 ah (bP p0 iR) fun lQ=>
 ah (α:=Bool)
 (bif (decide ((97:UInt8)≤lQ)) then
 some (decide (lQ≤(122:UInt8)))
 else
 some false)
 fun adv=>
 ah (α:=Bool)
 (bif (!adv) then
 bif (iR==(0:Int)) then
 some true
 else
 bif (lQ != (95:UInt8)) then
 bif (decide (lQ < (48:UInt8))) then
 some true
 else
 some (decide ((57:UInt8) < lQ))
 else
 some false
 else
 some false)
 fun adu=>
 bif adu then
 some (Sum.inr (Sum.inr false))
 else
 some (Sum.inl (bL (iR+(1:Int))))
 else
 some (Sum.inr (Sum.inl ()))) (0:Int))
 (Sum.elim (fun e=>some (Sum.inl e)) (fun e=>some (Sum.inr e))))
 (fun _=>
 some true)
 (fun e=>some e)
theorem MW (p0:List UInt8) (r:Bool) (h0:pR p0=some r):aT Tryz.prog 216 [.d (eS p0)] [] (.d (eB r)) []:=by
 unfold pR at h0
 refine fn0 [0] Tryz.func216 U U U U U ?_
 refine sr (sa U (sn (sq (SC.dw h0 (fun y=>⟨mk 46 [(0,.d (eS p0)),(12,.d (eB y))],[]⟩) ?_ ?_))))
 ·intro akg h1
  refine aO (sm U (s1 (bi U U (mV (b:=([]:List UInt8)))) (sm U (sp h1 (fun h1=>?_) (fun h1=>?_)))))
  ·have q:=si h1;subst q
   exact kw U (kw U (kw U (s1 (pkt U U) (SO.nil ((wq U))))))
  ·have q:=si h1;subst q
   exact gw U (mv U) (gw U (len U U U (iV vk)) (gw U (bi U U dx) (s1 (eT U U) (SO.nil ((wq U))))))
 ·rintro y88 h0
  refine cB h0 U (fun h0=>?_) (fun h0=>?_)
  ·have q:=si h0;subst q
   exact sr (sa U (sn (aM (bM (Wk.refl _) (bq U aW) U))))
  ·refine sk (SC.seqB h0 (fun y=>⟨mk 46 [],[]⟩) ?_ ?_)
   ·intro ahf h1 h0
    obtain ⟨aha,h2,h1⟩:=ob h1
    refine sr (sm U (s1 (len U U U (iV vk)) (sm U (sn (SC.blk (SC.eH h2 (fun y=>⟨mk 46 [(0,.d (eS p0)),(14,.d (eI (p0.length:Int))),(15,.d (eI y))],[]⟩) (wq U) ?_))))))
    intro n130
    rintro iR ag1 h3 hv3
    refine sr (s1 (bi U U bB) (sn (sq (cB h3 U (fun h3=>?_) (fun h3=>?_)))))
    ·obtain ⟨lQ,SK,h3⟩:=ob h3
     refine sk (sq (SC.blk (sr (sm U (sa U (sn (sr (sm U (sm U ?_)))))))))
     refine s1 (ixs U U U U (nC vk (aB SK).1 (aB SK).2)) (sa U (sn (SC.dw h3 (fun y=>⟨mk 46 [(0,.d (eS p0)),(3,.d (eI iR)),(4,.d (dX lQ)),(5,.d (eB y)),(14,.d (eI (p0.length:Int))),(15,.d (eI iR))],[]⟩) ?_ ?_)))
     ·intro aqY h4
      refine aO (sm U (s1 (bi U U (aaF (b:=(97:UInt8)))) (sm U (sp h4 (fun h4=>?_) (fun h4=>?_)))))
      ·have q:=si h4;subst q
       exact gw U (mv U) (gw U (bi U U (aaE (b:=(122:UInt8)))) (s1 (pkt U U) (sa U (SO.nil ((wq U))))))
      ·have q:=si h4;subst q
       exact kw U (kw U (s1 (eT U U) (sa U (SO.nil ((wq U))))))
     ·rintro adv h3
      refine SC.dw h3 (fun y=>⟨mk 46 [(0,.d (eS p0)),(14,.d (eI (p0.length:Int))),(15,.d (eI iR)),(44,.d (eB y))],[]⟩) ?_ ?_
      ·intro aqX h4
       refine aO (sm U (s1 (nt U) (sm U (sp h4 (fun h4=>?_) (fun h4=>?_)))))
       ·refine gw U (mv U) (gw U (bi U U bD) (gw U (mv U) (sp h4 (fun h4=>?_) (fun h4=>?_))))
        ·have q:=si h4;subst q
         refine kw U (kw U (kw U (kw U (kw U (kw U (kw U (kw U (kw U (kw U ?_)))))))))
         exact gw U (pkt U U) (s1 (pkt U U) (SO.nil ((wq U))))
        ·refine gw U (mv U) (gw U (bi U U (BD (b:=(95:UInt8)))) (gw U (mv U) (sp h4 (fun h4=>?_) (fun h4=>?_))))
         ·refine gw U (mv U) (gw U (bi U U (BF (b:=(48:UInt8)))) (gw U (mv U) (sp h4 (fun h4=>?_) (fun h4=>?_))))
          ·have q:=si h4;subst q
           exact kw U (kw U (gw U (pkt U U) (gw U (pkt U U) (gw U (eT U U) (s1 (pkt U U) (SO.nil ((wq U))))))))
          ·have q:=si h4;subst q
           exact gw U (mv U) (gw U (bi U U (yJ (b:=(57:UInt8)))) (gw U (eT U U) (gw U (pkt U U) (gw U (eT U U) (s1 (pkt U U) (SO.nil ((wq U))))))))
         ·have q:=si h4;subst q
          refine kw U (kw U (kw U (kw U (kw U (kw U (gw U (eT U U) (gw U (eT U U) (s1 (pkt U U) (SO.nil ?_)))))))))
          exact (wq U)
       ·have q:=si h4;subst q
        refine kw U (kw U (kw U (kw U (kw U (kw U (kw U (kw U (kw U (kw U ?_)))))))))
        exact kw U (kw U (kw U (kw U (s1 (eT U U) (SO.nil ((wq U)))))))
      ·rintro adu h3
       refine cB h3 U (fun h3=>?_) (fun h3=>?_)
       ·have q:=si h3;subst q;have q:_=_:=hv3;subst q;have q:=si h1;subst q;have q:=si h0;subst q
        exact sr (sa U (sn (aM (bM (Wk.refl _) (bq U aW) U))))
       ·refine bR ?_
        change SC _ _ _ _ _
        have q:=si h3;subst q
        exact aO (s1 (bi U U bH) (sm U (SO.nil (lf (wq U)))))
    ·have q:=si h3;subst q;have q:_=_:=hv3;subst q;have q:=si h1;subst q
     exact bZ (lf (wq U))
   ·intro _ h0
    have q:=si h0;subst q
    exact sr (sa U (sn (aM (bM (Wk.refl _) (bq U aW) U))))
noncomputable def jM (p0:Int):Option Bool:=
 ah (α:=Bool)
 (bif (p0==(4:Int)) then
 some true
 else
 some (p0==(5:Int)))
 fun y6=>
 some y6
theorem tK (p0:Int) (r:Bool) (h0:jM p0=some r):aT Tryz.prog 217 [.d (eI p0)] [] (.d (eB r)) []:=by
 unfold jM at h0
 refine fn0 [0] Tryz.func217 U U U U U ?_
 refine sr (sa U (sn (SC.dw h0 (fun y=>⟨mk 9 [(2,.d (eB y))],[]⟩) ?_ ?_)))
 ·intro aaj h1
  refine aO (sm U (s1 (bi U U bD) (sm U (sp h1 (fun h1=>?_) (fun h1=>?_)))))
  ·have q:=si h1;subst q
   exact kw U (kw U (s1 (pkt U U) (sa U (SO.nil ((wq U))))))
  ·have q:=si h1;subst q
   exact gw U (mv U) (gw U (bi U U bD) (s1 (eT U U) (sa U (SO.nil ((wq U))))))
 ·rintro y6 h0
  have q:=si h0;subst q
  exact aM (bM (Wk.refl _) (bq U aW) U)
noncomputable def lG (p0:aj):Option Bool:=
 bif (p0.Kind==(0:Int)) then
 some (gq p0 (aj.mk (0:Int) (0:UInt64) ([]:List UInt8)))
 else
 ah (α:=Bool)
 (bif (p0.Kind==(1:Int)) then
 some (p0.Kind==(1:Int))
 else
 some (p0.Kind==(2:Int)))
 fun y26=>
 bif y26 then
 some (p0.S==([]:List UInt8))
 else
 bif (p0.Kind==(3:Int)) then
 ah (α:=Bool)
 (bif (decide (p0.N≤(1:UInt64))) then
 some (p0.S==([]:List UInt8))
 else
 some false)
 fun y28=>
 some y28
 else
 bif (p0.Kind==(4:Int)) then
 ah (α:=Bool)
 (bif (p0.N==(0:UInt64)) then
 some (decide ((p0.S.length:Int)≤(64:Int)))
 else
 some false)
 fun A9=>
 some A9
 else
 bif (p0.Kind==(5:Int)) then
 ah (α:=Bool)
 (bif (p0.N==(0:UInt64)) then
 bif (decide ((p0.S.length:Int)≤(64:Int))) then
 ah (Kz p0.S) fun r37=>
 some r37
 else
 some false
 else
 some false)
 fun y34=>
 some y34
 else
 some false
theorem vS (p0:aj) (r:Bool) (h0:lG p0=some r):aT Tryz.prog 109 [.d (au p0)] [] (.d (eB r)) []:=by
 unfold lG at h0
 refine fn0 [0] Tryz.func109 U U U U U ?_
 refine sr (s1 (nN (k:=0) U U U) (sa U (sn (sq (sr (s1 (far (k:=0) U iG dH U) (s1 (bK U (ak dH gV U U)) (sn (SC.blk ?_)))))))))
 refine sr (s1 (bi U U bD) (sa U (sn (cB h0 U (fun h0=>?_) (fun h0=>?_)))))
 ·have q:=si h0;subst q
  exact sr (s1 (bK (v:=.d (au p0)) U (ak gK ny U U)) (s1 (vg U (acs )) (s1 (bi (v:=.d (eB (gq p0 (aj.mk (0:Int) (0:UInt64) ([]:List UInt8))))) U U (fun X Y=>xK X Y p0 (aj.mk (0:Int) (0:UInt64) ([]:List UInt8)))) (sa U (sn (aM (bM (wc (e':=[(2,.d (eB (gq p0 (aj.mk (0:Int) (0:UInt64) ([]:List UInt8)))))]) [] [] (by kernel_rfl) U (by kernel_rfl)) (bq U aW) U)))))))
 ·refine SC.dw h0 (fun y=>⟨mk 53 [(1,.ref 0 0 0),(4,.d (eI p0.Kind)),(10,.d (eB y))],[.box (.d (au p0))]⟩) ?_ ?_
  ·intro akk h1
   refine sr (s1 (bi U U bD) (sa U (sn (cB h1 U (fun h1=>?_) (fun h1=>?_)))))
   ·have q:=si h1;subst q
    exact bR ((wq U))
   ·have q:=si h1;subst q
    exact aO (s1 (bi U U bD) (sa U (SO.nil ((wq U)))))
  ·rintro y26 h0
   refine cB h0 U (fun h0=>?_) (fun h0=>?_)
   ·have q:=si h0;subst q
    exact sr (s1 (far (k:=2) U jZ iA U) (s1 (bK U (ak iA qw U U)) (s1 (bi U U (mV (b:=([]:List UInt8)))) (sa U (sn (aM (bM (wc (e':=[(2,.d (eB (p0.S==([]:List UInt8))))]) [] [] (by kernel_rfl) U (by kernel_rfl)) (bq U aW) U)))))))
   ·refine sr (s1 (bi U U bD) (sa U (sn (cB h0 U (fun h0=>?_) (fun h0=>?_)))))
    ·refine SC.dw h0 (fun y=>⟨mk 53 [(2,.d (eB y))],[]⟩) ?_ ?_
     ·intro akj h1
      refine aO (s1 (far (k:=1) U j3 iK U) (s1 (bK U (ak iK qN U U)) (s1 (bi U U (Yd (b:=(1:UInt64)))) (sm U (sp h1 (fun h1=>?_) (fun h1=>?_))))))
      ·have q:=si h1;subst q
       exact gw U (far (k:=2) U jZ iA U) (gw U (bK U (ak iA qw U U)) (gw U (bi U U (mV (b:=([]:List UInt8)))) (s1 (pkt U U) (sa U (SO.nil ((aC [] [] U)))))))
      ·have q:=si h1;subst q
       exact kw U (kw U (kw U (s1 (eT U U) (sa U (SO.nil ((aC [] [] U)))))))
     ·rintro y28 h0
      have q:=si h0;subst q
      exact aM (bM (Wk.refl _) (bq U aW) U)
    ·refine sr (s1 (bi U U bD) (sa U (sn (cB h0 U (fun h0=>?_) (fun h0=>?_)))))
     ·refine SC.dw h0 (fun y=>⟨mk 53 [(2,.d (eB y))],[]⟩) ?_ ?_
      ·intro afq h1
       refine aO (s1 (far (k:=1) U j3 iK U) (s1 (bK U (ak iK qN U U)) (s1 (bi U U (j4 (b:=(0:UInt64)))) (sm U (sp h1 (fun h1=>?_) (fun h1=>?_))))))
       ·have q:=si h1;subst q
        exact gw U (far (k:=2) U jZ iA U) (gw U (bK U (ak iA qw U U)) (gw U (len U U U (iV vk)) (gw U (bi U U qA) (s1 (pkt U U) (sa U (SO.nil ((aC [] [] U))))))))
       ·have q:=si h1;subst q
        exact kw U (kw U (kw U (kw U (s1 (eT U U) (sa U (SO.nil ((aC [] [] U))))))))
      ·rintro A9 h0
       have q:=si h0;subst q
       exact aM (bM (Wk.refl _) (bq U aW) U)
     ·refine sr (s1 (bi U U bD) (sa U (sn (cB h0 U (fun h0=>?_) (fun h0=>?_)))))
      ·refine SC.dw h0 (fun y=>⟨mk 53 [(2,.d (eB y))],[]⟩) ?_ ?_
       ·intro aki h1
        refine aO (s1 (far (k:=1) U j3 iK U) (s1 (bK U (ak iK qN U U)) (s1 (bi U U (j4 (b:=(0:UInt64)))) (sm U (sp h1 (fun h1=>?_) (fun h1=>?_))))))
        ·refine gw U (far (k:=2) U jZ iA U) (gw U (bK U (ak iA qw U U)) (gw U (len U U U (iV vk)) (gw U (bi U U qA) (s1 (pkt U U) (sm U (sp h1 (fun h1=>?_) (fun h1=>?_)))))))
         ·obtain ⟨r37,as4,h1⟩:=ob h1;have q:=si h1;subst q
          exact gw U (far (k:=2) U jZ iA U) (gw U (bK U (ak iA qw U U)) (c0 (ZO p0.S _ as4) (ww U) U U U aos U (fun _=>rfl) (fun _=>rfl) (s1 (pkt U U) (sa U (SO.nil ((aC [] [] U)))))))
         ·have q:=si h1;subst q
          exact kw U (kw U (kw U (s1 (eT U U) (sa U (SO.nil ((aC [] [] U)))))))
        ·have q:=si h1;subst q
         refine kw U (kw U (kw U (kw U (s1 (eT U U) (sm U (kw U (kw U (kw U (s1 (eT U U) ?_)))))))))
         exact sa U (SO.nil ((aC [] [] U)))
       ·rintro y34 h0
        have q:=si h0;subst q
        exact aM (bM (Wk.refl _) (bq U aW) U)
      ·refine bR ?_
       change SC _ _ _ _ _
       have q:=si h0;subst q
       exact sr (sa U (sn (aM (bM (aC (e':=[(2,.d (eB false))]) [] [] U) (bq U aW) U))))
noncomputable def kJ (p0:aA) (p1:aj):Option Int:=
 ah (lG p1) fun GV=>
 bif (!GV) then
 some (8:Int)
 else
 bif (p1.Kind==(0:Int)) then
 bif p0.Au then
 some (0:Int)
 else
 some (8:Int)
 else
 bif (p1.Kind != p0.Kind) then
 some (8:Int)
 else
 ah (α:=Bool)
 (ah (jM p1.Kind) fun r25=>
 bif r25 then
 some (decide ((p1.S.length:Int) > p0.Max))
 else
 some false)
 fun y22=>
 bif y22 then
 some (7:Int)
 else
 some (0:Int)
theorem xP (p0:aA) (p1:aj) (r:Int) (h0:kJ p0 p1=some r):aT Tryz.prog 202 [.d (aJ p0),.d (au p1)] [] (.d (eI r)) []:=by
 unfold kJ at h0
 refine fn0 [0,1] Tryz.func202 U U U U U ?_
 obtain ⟨GV,UN,h0⟩:=ob h0
 refine sr (s1 (nN (k:=0) U U U) (s1 (nN (k:=1) U U U) (sa U (sn (sq (SC.blk (sr (s1 (bK (v:=.d (au p1)) U (ak gK ny U U)) (c0 (vS p1 _ UN) wf U U U ach U (fun _=>rfl) (fun _=>rfl) ?_)))))))))
 refine s1 (nt U) (sa U (sn (cB h0 U (fun h0=>?_) (fun h0=>?_))))
 ·have q:=si h0;subst q
  exact sr (sa U (sn (aM (bM (aC (e':=[(4,.d (eI (8:Int)))]) [] [] U) (bq U aW) U))))
 ·refine sr (s1 (far (k:=0) U iG dH U) (s1 (bK U (ak dH gV U U)) (s1 (bi U U bD) (sa U (sn (cB h0 U (fun h0=>?_) (fun h0=>?_)))))))
  ·refine sq (sr (s1 (far (k:=3) U UZ nu U) (s1 (bK U (ak nu FB U U)) (sn (cB h0 U (fun h0=>?_) (fun h0=>?_))))))
   ·have q:=si h0;subst q
    exact sr (sa U (sn (aM (bM (aC (e':=[(4,.d (eI (0:Int)))]) [] [] U) (bq U aW) U))))
   ·have q:=si h0;subst q
    exact sk (sr (sa U (sn (aM (bM (aC (e':=[(4,.d (eI (8:Int)))]) [] [] U) (bq U aW) U)))))
  ·refine sr (s1 (far (k:=0) U iG dH U) (s1 (bK U (ak dH gV U U)) (s1 (far (k:=1) U oZ dH U) (s1 (bK U (ak dH gV U U)) (s1 (bi U U dA) (sa U (sn (cB h0 U (fun h0=>?_) (fun h0=>?_)))))))))
   ·have q:=si h0;subst q
    exact sr (sa U (sn (aM (bM (aC (e':=[(4,.d (eI (8:Int)))]) [] [] U) (bq U aW) U))))
   ·refine SC.dw h0 (fun y=>⟨mk 33 [(21,.d (eB y))],[]⟩) ?_ ?_
    ·intro akl h1
     obtain ⟨r25,ah2,h1⟩:=ob h1
     refine aO (s1 (far (k:=0) U iG dH U) (s1 (bK U (ak dH gV U U)) (c0 (tK p1.Kind _ ah2) wf U U U Xb U (fun _=>rfl) (fun _=>rfl) (sm U (sp h1 (fun h1=>?_) (fun h1=>?_))))))
     ·have q:=si h1;subst q
      exact gw U (far (k:=2) U jZ iA U) (gw U (bK U (ak iA qw U U)) (gw U (len U U U (iV vk)) (gw U (far (k:=2) U sU dH U) (gw U (bK U (ak dH gV U U)) (gw U (bi U U dx) (s1 (pkt U U) (sa U (SO.nil ((aC [] [] U))))))))))
     ·have q:=si h1;subst q
      exact kw U (kw U (kw U (kw U (kw U (kw U (s1 (eT U U) (sa U (SO.nil ((aC [] [] U))))))))))
    ·rintro y22 h0
     refine cB h0 U (fun h0=>?_) (fun h0=>?_)
     ·have q:=si h0;subst q
      exact sr (sa U (sn (aM (bM (Wk.refl _) (bq U aW) U))))
     ·refine bR ?_
      change SC _ _ _ _ _
      have q:=si h0;subst q
      exact sr (sa U (sn (aM (bM (Wk.refl _) (bq U aW) U))))
noncomputable def lM (p0:aA):Option Int:=
 ah (pR p0.Name) fun RH=>
 bif (!RH) then
 some (1:Int)
 else
 ah (α:=Bool)
 (bif (decide (p0.Kind < (1:Int))) then
 some true
 else
 some (decide (p0.Kind > (5:Int))))
 fun Vx=>
 bif Vx then
 some (8:Int)
 else
 ah (α:=Bool)
 (ah (jM p0.Kind) fun X5=>
 bif X5 then
 bif (decide (p0.Max < (1:Int))) then
 some true
 else
 bif (decide (p0.Max > (64:Int))) then
 some true
 else
 ah (jM p0.Kind) fun DF=>
 bif (!DF) then
 some (p0.Max != (0:Int))
 else
 some false
 else
 ah (jM p0.Kind) fun X4=>
 bif (!X4) then
 some (p0.Max != (0:Int))
 else
 some false)
 fun II=>
 bif II then
 some (7:Int)
 else
 ah (kJ p0 p0.Default) fun X3=>
 some X3
theorem Jo (p0:aA) (r:Int) (h0:lM p0=some r):aT Tryz.prog 196 [.d (aJ p0)] [] (.d (eI r)) []:=by
 unfold lM at h0
 refine fn0 [0] Tryz.func196 U U U U U ?_
 obtain ⟨RH,abI,h0⟩:=ob h0
 refine sr (s1 (nN (k:=0) U U U) (sa U (sn (sq (SC.blk (sr (s1 (far (k:=0) U Qd iA U) (s1 (bK U (ak iA qw U U)) (c0 (MW p0.Name _ abI) wf U U U an1 U (fun _=>rfl) (fun _=>rfl) ?_)))))))))
 refine s1 (nt U) (sa U (sn (cB h0 U (fun h0=>?_) (fun h0=>?_))))
 ·have q:=si h0;subst q
  exact sr (sa U (sn (aM (bM (aC (e':=[(2,.d (eI (1:Int)))]) [] [] U) (bq U aW) U))))
 ·refine SC.dw h0 (fun y=>⟨mk 46 [(1,.ref 0 0 0),(8,.d (eB y))],[.box (.d (aJ p0))]⟩) ?_ ?_
  ·intro afp h1
   refine aO (s1 (far (k:=1) U oZ dH U) (s1 (bK U (ak dH gV U U)) (s1 (bi U U bB) (sm U (sp h1 (fun h1=>?_) (fun h1=>?_))))))
   ·have q:=si h1;subst q
    exact kw U (kw U (kw U (s1 (pkt U U) (sa U (SO.nil ((wq U)))))))
   ·have q:=si h1;subst q
    exact gw U (far (k:=1) U oZ dH U) (gw U (bK U (ak dH gV U U)) (gw U (bi U U dx) (s1 (eT U U) (sa U (SO.nil ((wq U)))))))
  ·rintro Vx h0
   refine cB h0 U (fun h0=>?_) (fun h0=>?_)
   ·have q:=si h0;subst q
    exact sr (sa U (sn (aM (bM (aC (e':=[(2,.d (eI (8:Int)))]) [] [] U) (bq U aW) U))))
   ·refine SC.dw h0 (fun y=>⟨mk 46 [(1,.ref 0 0 0),(17,.d (eB y))],[.box (.d (aJ p0))]⟩) ?_ ?_
    ·intro afo h1
     obtain ⟨X5,abH,h1⟩:=ob h1
     refine aO (s1 (far (k:=1) U oZ dH U) (s1 (bK U (ak dH gV U U)) (c0 (tK p0.Kind _ abH) wf U U U Xb U (fun _=>rfl) (fun _=>rfl) (sm U (sp h1 (fun h1=>?_) (fun h1=>?_))))))
     ·refine gw U (far (k:=2) U sU dH U) (gw U (bK U (ak dH gV U U)) (gw U (bi U U bB) (gw U (mv U) (sp h1 (fun h1=>?_) (fun h1=>?_)))))
      ·have q:=si h1;subst q
       refine kw U (kw U (kw U (gw U (pkt U U) (s1 (pkt U U) (sm U (kw U (kw U (kw U (kw U ?_)))))))))
       exact kw U (kw U (kw U (kw U (kw U (s1 (pkt U U) (sa U (SO.nil ((wq U)))))))))
      ·refine gw U (far (k:=2) U sU dH U) (gw U (bK U (ak dH gV U U)) (gw U (bi U U dx) (gw U (eT U U) (s1 (pkt U U) (sm U (sp h1 (fun h1=>?_) (fun h1=>?_)))))))
       ·have q:=si h1;subst q
        refine kw U (kw U (kw U (kw U (kw U (kw U (kw U (kw U (kw U (s1 (pkt U U) ?_)))))))))
        exact sa U (SO.nil ((wq U)))
       ·obtain ⟨DF,abG,h1⟩:=ob h1
        refine gw U (far (k:=1) U oZ dH U) (gw U (bK U (ak dH gV U U)) (c0 (tK p0.Kind _ abG) (ww U) U U U Xb U (fun _=>rfl) (fun _=>rfl) (gw U (nt U) (gw U (mv U) (sp h1 (fun h1=>?_) (fun h1=>?_))))))
        ·have q:=si h1;subst q
         exact gw U (far (k:=2) U sU dH U) (gw U (bK U (ak dH gV U U)) (gw U (bi U U dA) (gw U (pkt U U) (s1 (eT U U) (sa U (SO.nil ((wq U))))))))
        ·have q:=si h1;subst q
         exact kw U (kw U (kw U (gw U (eT U U) (s1 (eT U U) (sa U (SO.nil ((wq U))))))))
     ·obtain ⟨X4,abF,h1⟩:=ob h1
      refine kw U (kw U (kw U (kw U (kw U (kw U (kw U (kw U (s1 (eT U U) (sm U ?_)))))))))
      refine gw U (far (k:=1) U oZ dH U) (gw U (bK U (ak dH gV U U)) (c0 (tK p0.Kind _ abF) (ww U) U U U Xb U (fun _=>rfl) (fun _=>rfl) (gw U (nt U) (gw U (mv U) (sp h1 (fun h1=>?_) (fun h1=>?_))))))
      ·have q:=si h1;subst q
       exact gw U (far (k:=2) U sU dH U) (gw U (bK U (ak dH gV U U)) (gw U (bi U U dA) (gw U (pkt U U) (s1 (eT U U) (sa U (SO.nil ((wq U))))))))
      ·have q:=si h1;subst q
       exact kw U (kw U (kw U (gw U (eT U U) (s1 (eT U U) (sa U (SO.nil ((wq U))))))))
    ·rintro II h0
     refine cB h0 U (fun h0=>?_) (fun h0=>?_)
     ·have q:=si h0;subst q
      exact sr (sa U (sn (aM (bM (aC (e':=[(2,.d (eI (7:Int)))]) [] [] U) (bq U aW) U))))
     ·refine bR ?_
      change SC _ _ _ _ _
      obtain ⟨X3,ahR,h0⟩:=ob h0;have q:=si h0;subst q
      exact sr (s1 (bK (v:=.d (aJ p0)) U (ak qH Hl U U)) (s1 (far (k:=4) U UY gK U) (s1 (bK (v:=.d (au p0.Default)) U (ak gK ny U U)) (c0 (xP p0 p0.Default _ ahR) wf U U U acg U (fun _=>rfl) (fun _=>rfl) (sa U (sn (aM (bM (aC (e':=[(2,.d (eI X3))]) [] [] U) (bq U aW) U))))))))
noncomputable def mU (p0:aA):Option Bool:=
 ah (lM p0) fun r7=>
 some (r7 != (0:Int))
theorem Hu (p0:aA) (r:Bool) (h0:mU p0=some r):aT Tryz.prog 195 [.d (aJ p0)] [] (.d (eB r)) []:=by
 unfold mU at h0
 refine fn0 [0] Tryz.func195 U U U U U ?_
 obtain ⟨r7,JQ,h0⟩:=ob h0;have q:=si h0;subst q
 refine sr (s1 (nN (k:=0) U U U) (sa U (sn (sr (s1 (bK (v:=.d (aJ p0)) U (ak qH Hl U U)) (c0 (Jo p0 _ JQ) wf U U U aoe U (fun _=>rfl) (fun _=>rfl) (s1 (bi U U dA) (sa U (sn ?_)))))))))
 exact aM (bM (wc (e':=[(2,.d (eB (r7 != (0:Int))))]) [] [] (by kernel_rfl) U (by kernel_rfl)) (bq U aW) U)
noncomputable def dK (p0:List aA):Option Int:=
 fP (Y:=Unit) (E:=Int)
 (ah (α:=Unit⊕Int)
 (loop (Y:=Int) (W:=Unit⊕Int) (fun GR=>
 bif (decide (GR < (p0.length:Int))) then
 ah (bP p0 GR) fun v85=>
 ah (mU v85) fun XY=>
 bif XY then
 some (Sum.inr (Sum.inr GR))
 else
 some (Sum.inl (bL (GR+(1:Int))))
 else
 some (Sum.inr (Sum.inl ()))) (0:Int))
 (Sum.elim (fun e=>some (Sum.inl e)) (fun e=>some (Sum.inr e))))
 (fun _=>
 some (-1:Int))
 (fun e=>some e)
theorem mF (p0:List aA) (r:Int) (h0:dK p0=some r):aT Tryz.prog 215 [.d ((eL 7 aJ) p0),.fn (.func 195) [] []] [] (.d (eI r)) []:=by
 unfold dK at h0
 refine fn0 [0,1] Tryz.func215 U U U U U ?_
 refine sr (sa U (sn (SC.seqB h0 (fun y=>⟨mk 19 [],[]⟩) ?_ ?_)))
 ·intro V6 h1 h0
  obtain ⟨aai,h2,h1⟩:=ob h1
  refine sr (sm U (s1 (len U U U (bN ng)) (sm U (sn (SC.blk (SC.eH h2 (fun y=>⟨mk 19 [(0,.d ((eL 7 aJ) p0)),(1,.fn (.func 195) [] []),(7,.d (eI (p0.length:Int))),(8,.d (eI y))],[]⟩) (wq U) ?_))))))
  intro n88
  rintro GR ZN h3 hv3
  refine sr (s1 (bi U U bB) (sn (sq (cB h3 U (fun h3=>?_) (fun h3=>?_)))))
  ·obtain ⟨v85,LK,h3⟩:=ob h3;obtain ⟨XY,UM,h3⟩:=ob h3
   refine sk (sq (SC.blk (sr (sm U (sa U (sn (sr (sm U (sm U ?_)))))))))
   refine sm U (s1 (kV U U ng qH (aB LK).1 (bI (aB LK).2) U) (s1 (bK (v:=.d (aJ v85)) U (bY qH Hl U)) (c0 (Hu v85 _ UM) wf U U U aof U (fun _=>rfl) (fun _=>rfl) (sn (cB h3 U (fun h3=>?_) (fun h3=>?_))))))
   ·have q:=si h3;subst q;have q:_=_:=hv3;subst q;have q:=si h1;subst q;have q:=si h0;subst q
    exact sr (sm U (sa U (sn (aM (bM (Wk.refl _) (bq U aW) U)))))
   ·refine bR ?_
    change SC _ _ _ _ _
    have q:=si h3;subst q
    exact aO (s1 (bi U U bH) (sm U (SO.nil (lf (wq U)))))
  ·have q:=si h3;subst q;have q:_=_:=hv3;subst q;have q:=si h1;subst q
   exact bZ (lf (wq U))
 ·intro _ h0
  have q:=si h0;subst q
  exact sr (sa U (sn (aM (bM (Wk.refl _) (bq U aW) U))))
noncomputable def dD (p0:List aA):Option Bool:=
 ah (dK p0) fun r7=>
 some (decide (r7≥(0:Int)))
theorem kR (p0:List aA) (r:Bool) (h0:dD p0=some r):aT Tryz.prog 194 [.d ((eL 7 aJ) p0),.fn (.func 195) [] []] [] (.d (eB r)) []:=by
 unfold dD at h0
 refine fn0 [0,1] Tryz.func194 U U U U U ?_
 obtain ⟨r7,JQ,h0⟩:=ob h0;have q:=si h0;subst q
 refine sr (sa U (sn (sr (sm U (sm U (c0 (mF p0 _ JQ) wf U U U an2 U (fun _=>rfl) (fun _=>rfl) (s1 (bi U U fU) (sa U (sn ?_)))))))))
 exact aM (bM (Wk.refl _) (bq U aW) U)
noncomputable def lI (p0:List aA):Option Bool:=
 ah (α:=Bool)
 (bif (decide ((p0.length:Int)≥(1:Int))) then
 bif (decide ((p0.length:Int)≤(24:Int))) then
 ah (dD p0) fun GV=>
 some (!GV)
 else
 some false
 else
 some false)
 fun OT=>
 some OT
theorem Bn (p0:List aA) (r:Bool) (h0:lI p0=some r):aT Tryz.prog 175 [.d ((eL 7 aJ) p0)] [] (.d (eB r)) []:=by
 unfold lI at h0
 refine fn0 [0] Tryz.func175 U U U U U ?_
 refine sr (sa U (sn (SC.dw h0 (fun y=>⟨mk 16 [(2,.d (eB y))],[]⟩) ?_ ?_)))
 ·intro NQ h1
  refine aO (sm U (s1 (len U U U (bN ng)) (s1 (bi U U fU) (sm U (sp h1 (fun h1=>?_) (fun h1=>?_))))))
  ·refine gw U (mv U) (gw U (len U U U (bN ng)) (gw U (bi U U qA) (s1 (pkt U U) (sm U (sp h1 (fun h1=>?_) (fun h1=>?_))))))
   ·obtain ⟨GV,UN,h1⟩:=ob h1;have q:=si h1;subst q
    exact gw U (mv U) (c0 (kR p0 _ UN) (ww U) U U U aog U (fun _=>rfl) (fun _=>rfl) (gw U (nt U) (s1 (pkt U U) (sa U (SO.nil ((wq U)))))))
   ·have q:=si h1;subst q
    exact kw U (kw U (kw U (s1 (eT U U) (sa U (SO.nil ((wq U)))))))
  ·have q:=si h1;subst q
   refine kw U (kw U (kw U (s1 (eT U U) (sm U (kw U (kw U (kw U (s1 (eT U U) (sa U ?_)))))))))
   exact SO.nil ((wq U))
 ·rintro OT h0
  have q:=si h0;subst q
  exact aM (bM (Wk.refl _) (bq U aW) U)
noncomputable def Cy (p0:List UInt8):Option Unit:=
 bif decide (p0.length*1≤room) then
 some ()
 else none
theorem Uz (p0:List UInt8) (r:Unit) (h0:Cy p0=some r):aT Tryz.prog 197 [.d ((eL 1 dX) p0)] [] (.ref 0 0 0) [.box (.agg [.slc 1 1 0 p0.length none,.d (eB false)]),.row 1 (List.map dX p0) true]:=by
 unfold Cy at h0
 refine fn0 [0] Tryz.func197 U U U U U ?_
 obtain ⟨hg3,h0⟩:=gd h0;have q:=si h0;subst q
 refine sr (s1 (jA (v:=.d .Ga) U) (sn (sr (sm U (s1 (app U U U U Co (aN (f:=dX) (k:=0) eZ LZ yg hg3 U)) (s1 (vg (v:=.agg [.slc 0 1 0 p0.length none,.d (eB false)]) U (by rfl)) (s1 (nN (k:=1) U U U) (sa U (sn ?_)))))))))
 exact aM (bM (aC (e':=[(2,.ref 0 0 0)]) [1,0] [1] U) (bq U aW) U)
noncomputable def kE (p0:Int) (p1:List UInt8) (p2:Bool):Option (Nat×Nat×Nat×Bool):=
 ah (α:=Bool)
 (bif p2 then
 some true
 else
 some (decide ((p1.length:Int) < p0)))
 fun y15=>
 bif y15 then
 ah (α:=Unit)
 (some ())
 fun _=>
 some (0,0,p1.length,true)
 else
 bif decide (0≤p0∧p0≤(p1.length:Int)) then
 bif decide (0≤p0∧p0≤(p1.length:Int)) then
 some (p0.toNat,0+p0.toNat,p1.length - p0.toNat,p2)
 else none
 else none
theorem JH (p0:Int) (p1:List UInt8) (p2:Bool) (r:Nat×Nat×Nat×Bool) (h0:kE p0 p1 p2=some r):aT Tryz.prog 223 [.ref 0 0 0,.d (eI p0)] [.box (.agg [.slc 1 1 0 p1.length none,.d (eB p2)]),.row 1 (List.map dX p1) true] (.slc 1 1 0 r.1 none) [.box (.agg [.slc 1 1 r.2.1 r.2.2.1 none,.d (eB r.2.2.2)]),.row 1 (List.map dX p1) true]:=by
 unfold kE at h0
 refine fn0 [0,1] Tryz.func223 U U U U U ?_
 refine sr (s1 (jA (v:=.d .dB) U) (sn (sq (SC.dw h0 (fun y=>⟨mk 44 [(0,.ref 0 0 0),(1,.d (eI p0)),(22,.d (eB y))],[.box (.agg [.slc 1 1 0 p1.length none,.d (eB p2)]),.row 1 (List.map dX p1) true]⟩) ?_ ?_))))
 ·intro auZ h1
  refine aO (sm U (s1 (bi (v:=.d (eB false)) U U (fun _ _=>zF Dn)) (sm U (gw U (mv U) (gw U (lu U) (gw U (far (k:=1) U xH nu U) (gw U (bK U (ak nu FB U U)) (s1 (eT U U) (sm U ?_)))))))))
  refine sp h1 (fun h1=>?_) (fun h1=>?_)
  ·have q:=si h1;subst q
   exact kw U (kw U (kw U (kw U (kw U (kw U (kw U (s1 (pkt U U) (SO.nil ((wq U))))))))))
  ·have q:=si h1;subst q
   exact gw U (mv U) (gw U (lu U) (gw U (far (k:=0) U l5 dV U) (gw U (bK U (ak dV lH U U)) (gw U (len U U U (gN eZ)) (gw U (mv U) (gw U (bi U U bB) (s1 (eT U U) (SO.nil ((wq U))))))))))
 ·rintro y15 h0
  refine cB h0 U (fun h0=>?_) (fun h0=>?_)
  ·refine SC.dw h0 (fun y=>⟨mk 44 [],[.box (.agg [.slc 1 1 0 p1.length none,.d (eB true)]),.row 1 (List.map dX p1) true]⟩) ?_ ?_
   ·intro NQ h1
    have q:=si h1;subst q
    refine sr (sm U (s1 (bi (v:=.d (eB true)) U U (fun _ _=>CF Dn)) (sn (cT U (aO (sm U (s1 (lu U) (s1 (far (k:=1) U xH nu U) (s0 (jF (b:=.d (eB true)) U U (sB (d':=.agg [.slc 1 1 0 p1.length none,.d (eB true)]) nu U U U U U U U)) ?_)))))))))
    exact SO.nil ((wq U))
   ·intro _ h0
    have q:=si h0;subst q
    exact sr (s1 (jA (v:=.d .dB) U) (sn (aM (bM (Wk.trans (Wk.env (e':=[(4,.slc 1 1 0 0 none)]) (EW.cons (AW.mH _ _ _) EW.nil)) (wq (e':=[(4,.slc 1 1 0 0 none)]) U)) (bq U aW) U))))
  ·obtain ⟨atq,h0⟩:=gd h0;obtain ⟨aiB,h0⟩:=gd h0;have q:=si h0;subst q
   refine sk (sr (sm U (s1 (lu U) (s1 (far (k:=0) U l5 dV U) (s1 (bK U (ak dV lH U U)) (sm U (s1 (NT U U U U (yF eZ Fx atq)) (sa U (sn ?_)))))))))
   refine sr (sm U (sm U (s1 (lu U) (s1 (far (k:=0) U l5 dV U) (s1 (bK U (ak dV lH U U)) (sm U (s1 (NT U U U U (mR eZ Fx aiB)) (s1 (lu U) (s1 (far (k:=0) U l5 dV U) ?_)))))))))
   exact s0 (jF U U (sB (d':=.agg [.slc 1 1 (0+p0.toNat) (p1.length - p0.toNat) none,.d (eB p2)]) dV U U U U U U U)) (sn (sr (sm U (sa U (sn (aM (bM (Wk.refl _) (bq U aW) U)))))))
noncomputable def jR (p0:Int) (p1:List UInt8) (p2:Bool):Option (UInt64×Nat×Nat×Bool):=
 ah (α:=UInt64×Nat×Nat×Bool)
 (ah (kE p0 p1 p2) fun (K5,NV,r98,r99)=>
 ah (α:=UInt64×Nat×Nat×Bool)
 (loop (Y:=UInt64×Int) (W:=UInt64×Nat×Nat×Bool) (fun (y101,y102)=>
 bif (decide (y102 < (K5:Int))) then
 ah (mP p1 0 K5 y102) fun Z7=>
 some (Sum.inl (((pz y101 8) ||| (Z7.toUInt64)),(bL (y102+(1:Int)))))
 else
 some (Sum.inr (y101,NV,r98,r99))) ((0:UInt64),(0:Int)))
 (fun e=>some e))
 fun (y90,y91,TW,y93)=>
 some (y90,y91,TW,y93)
theorem F4 (p0:Int) (p1:List UInt8) (p2:Bool) (r:UInt64×Nat×Nat×Bool) (h0:jR p0 p1 p2=some r):aT Tryz.prog 218 [.ref 0 0 0,.d (eI p0)] [.box (.agg [.slc 1 1 0 p1.length none,.d (eB p2)]),.row 1 (List.map dX p1) true] (.d (eX r.1)) [.box (.agg [.slc 1 1 r.2.1 r.2.2.1 none,.d (eB r.2.2.2)]),.row 1 (List.map dX p1) true]:=by
 unfold jR at h0
 refine fn0 [0,1] Tryz.func218 U U U U U ?_
 refine sr (s1 (jA (v:=.d (eX (0:UInt64))) U) (sn (sr (s1 (jA (v:=.d (eX (0:UInt64))) U) (sn (SC.dw h0 (fun y=>⟨mk 23 [(5,.d (eX y.1))],[.box (.agg [.slc 1 1 y.2.1 y.2.2.1 none,.d (eB y.2.2.2)]),.row 1 (List.map dX p1) true]⟩) ?_ ?_))))))
 ·intro auH h1
  obtain ⟨⟨K5,NV,r98,r99⟩,asQ,h1⟩:=ob h1;obtain ⟨arD,h2,h1⟩:=ob h1
  refine sr (sm U (sm U (cq [0,1] [] (JH p0 p1 p2 _ asQ) wf U U U acf U U U U U U U U (s1 (len U U U (gN eZ)) (sm U (sn (SC.blk (SC.eH h2 (fun y=>⟨mk 23 [(5,.d (eX y.1)),(10,.slc 1 1 0 K5 none),(11,.d (eI (K5:Int))),(12,.d (eI y.2))],[.box (.agg [.slc 1 1 NV r98 none,.d (eB r99)]),.row 1 (List.map dX p1) true]⟩) (wq U) ?_))))))))
  intro n109
  rintro ⟨y101,y102⟩ aqj h3 hv3
  refine sr (s1 (bi U U bB) (sn (sq (cB h3 U (fun h3=>?_) (fun h3=>?_)))))
  ·obtain ⟨Z7,agr,h3⟩:=ob h3
   refine sk (sq (SC.blk (sr (s1 (Yz U U eZ Fx (dI agr).1) (s1 (bK U (jD Fx ta5 U (bI (by have q:=(dI agr).2;simpa using q)) U)) (sa U (sn (aO (sm U ?_)))))))))
   refine s1 (bi (v:=.d (eX (pz y101 8))) U U (fun X Y=>OB _ X Y y101 _ (by decide))) (sm U (s1 (AZ U (CS EU Bh Z7)) (s1 (bi U U RP) (sa U (SO.nil ?_)))))
   change SC _ _ _ _ _
   have q:=si h3;subst q
   exact aO (s1 (bi U U bH) (sm U (SO.nil (lf (wq U)))))
  ·have q:=si h3;subst q;have q:_=_:=hv3;subst q;have q:=si h1;subst q
   exact bZ ((wq U))
 ·rintro ⟨y90,y91,TW,y93⟩ h0
  have q:=si h0;subst q
  exact sr (sm U (sa U (sn (aM (bM (Wk.refl _) (bq U aW) U)))))
noncomputable def lW (p0:List UInt8) (p1:Bool):Option (UInt8×Nat×Nat×Bool):=
 ah (jR (1:Int) p0 p1) fun (r16,Wm,NW,GV)=>
 some ((r16.toUInt8),Wm,NW,GV)
theorem JI (p0:List UInt8) (p1:Bool) (r:UInt8×Nat×Nat×Bool) (h0:lW p0 p1=some r):aT Tryz.prog 198 [.ref 0 0 0] [.box (.agg [.slc 1 1 0 p0.length none,.d (eB p1)]),.row 1 (List.map dX p0) true] (.d (dX r.1)) [.box (.agg [.slc 1 1 r.2.1 r.2.2.1 none,.d (eB r.2.2.2)]),.row 1 (List.map dX p0) true]:=by
 unfold lW at h0
 refine fn0 [0] Tryz.func198 U U U U U ?_
 obtain ⟨⟨r16,Wm,NW,GV⟩,UO,h0⟩:=ob h0;have q:=si h0;subst q
 refine sr (s1 (jA (v:=.d (dX (0:UInt8))) U) (sn (sr (sm U (cq [0,1] [] (F4 (1:Int) p0 p1 _ UO) wf U U U Xa U U U U U U U U (s1 (AZ U (vP Bh EU r16)) (sa U (sn (aM ?_)))))))))
 exact bM (Wk.refl _) (bq U aW) U
noncomputable def oL (p0:List UInt8) (p1:Nat) (p2:Nat) (p3:Bool):Option Unit:=
 some ()
theorem Am (p0:List UInt8) (p1:Nat) (p2:Nat) (p3:Bool) (r:Unit) (h0:oL p0 p1 p2 p3=some r):aT Tryz.prog 199 [.ref 0 0 0] [.box (.agg [.slc 1 1 p1 p2 none,.d (eB p3)]),.row 1 (List.map dX p0) true] (.d (eI (p2:Int))) [.box (.agg [.slc 1 1 p1 p2 none,.d (eB p3)]),.row 1 (List.map dX p0) true]:=by
 unfold oL at h0
 refine fn0 [0] Tryz.func199 U U U U U ?_
 have q:=si h0;subst q
 refine sr (sa U (sn (sq (sr (sm U (s1 (bi (v:=.d (eB false)) U U (fun _ _=>zF Dn)) (sn (cF U (sk ?_)))))))))
 exact sr (sm U (s1 (lu U) (s1 (far (k:=0) U l5 dV U) (s1 (bK U (ak dV lH U U)) (s1 (len U U U (gN eZ)) (sa U (sn (aM (bM (Wk.refl _) (bq U aW) U)))))))))
noncomputable def gG (p0:Int) (p1:List UInt8) (p2:Nat) (p3:Nat) (p4:Bool):Option (Nat×Nat×Nat×Nat×Bool):=
 ah (α:=Bool)
 (bif p4 then
 some true
 else
 some (decide ((p3:Int) < p0)))
 fun OT=>
 bif OT then
 ah (α:=Unit)
 (some ())
 fun _=>
 some (0,0,p2,p3,true)
 else
 bif decide (0≤p0∧p0≤(p3:Int)) then
 bif decide (0≤p0∧p0≤(p3:Int)) then
 some (p2,p0.toNat,p2+p0.toNat,p3 - p0.toNat,p4)
 else none
 else none
theorem xC (p0:Int) (p1:List UInt8) (p2:Nat) (p3:Nat) (p4:Bool) (r:Nat×Nat×Nat×Nat×Bool) (h0:gG p0 p1 p2 p3 p4=some r):aT Tryz.prog 223 [.ref 0 0 0,.d (eI p0)] [.box (.agg [.slc 1 1 p2 p3 none,.d (eB p4)]),.row 1 (List.map dX p1) true] (.slc 1 1 r.1 r.2.1 none) [.box (.agg [.slc 1 1 r.2.2.1 r.2.2.2.1 none,.d (eB r.2.2.2.2)]),.row 1 (List.map dX p1) true]:=by
 unfold gG at h0
 refine fn0 [0,1] Tryz.func223 U U U U U ?_
 refine sr (s1 (jA (v:=.d .dB) U) (sn (sq (SC.dw h0 (fun y=>⟨mk 44 [(0,.ref 0 0 0),(1,.d (eI p0)),(22,.d (eB y))],[.box (.agg [.slc 1 1 p2 p3 none,.d (eB p4)]),.row 1 (List.map dX p1) true]⟩) ?_ ?_))))
 ·intro NQ h1
  refine aO (sm U (s1 (bi (v:=.d (eB false)) U U (fun _ _=>zF Dn)) (sm U (gw U (mv U) (gw U (lu U) (gw U (far (k:=1) U xH nu U) (gw U (bK U (ak nu FB U U)) (s1 (eT U U) (sm U ?_)))))))))
  refine sp h1 (fun h1=>?_) (fun h1=>?_)
  ·have q:=si h1;subst q
   exact kw U (kw U (kw U (kw U (kw U (kw U (kw U (s1 (pkt U U) (SO.nil ((wq U))))))))))
  ·have q:=si h1;subst q
   exact gw U (mv U) (gw U (lu U) (gw U (far (k:=0) U l5 dV U) (gw U (bK U (ak dV lH U U)) (gw U (len U U U (gN eZ)) (gw U (mv U) (gw U (bi U U bB) (s1 (eT U U) (SO.nil ((wq U))))))))))
 ·rintro OT h0
  refine cB h0 U (fun h0=>?_) (fun h0=>?_)
  ·refine SC.dw h0 (fun y=>⟨mk 44 [],[.box (.agg [.slc 1 1 p2 p3 none,.d (eB true)]),.row 1 (List.map dX p1) true]⟩) ?_ ?_
   ·intro auY h1
    have q:=si h1;subst q
    refine sr (sm U (s1 (bi (v:=.d (eB true)) U U (fun _ _=>CF Dn)) (sn (cT U (aO (sm U (s1 (lu U) (s1 (far (k:=1) U xH nu U) (s0 (jF (b:=.d (eB true)) U U (sB (d':=.agg [.slc 1 1 p2 p3 none,.d (eB true)]) nu U U U U U U U)) ?_)))))))))
    exact SO.nil ((wq U))
   ·intro _ h0
    have q:=si h0;subst q
    exact sr (s1 (jA (v:=.d .dB) U) (sn (aM (bM (Wk.trans (Wk.env (e':=[(4,.slc 1 1 0 0 none)]) (EW.cons (AW.mH _ _ _) EW.nil)) (wq (e':=[(4,.slc 1 1 0 0 none)]) U)) (bq U aW) U))))
  ·obtain ⟨aiB,h0⟩:=gd h0;obtain ⟨atp,h0⟩:=gd h0;have q:=si h0;subst q
   refine sk (sr (sm U (s1 (lu U) (s1 (far (k:=0) U l5 dV U) (s1 (bK U (ak dV lH U U)) (sm U (s1 (NT U U U U (yF eZ Fx aiB)) (sa U (sn ?_)))))))))
   refine sr (sm U (sm U (s1 (lu U) (s1 (far (k:=0) U l5 dV U) (s1 (bK U (ak dV lH U U)) (sm U (s1 (NT U U U U (mR eZ Fx atp)) (s1 (lu U) (s1 (far (k:=0) U l5 dV U) ?_)))))))))
   exact s0 (jF U U (sB (d':=.agg [.slc 1 1 (p2+p0.toNat) (p3 - p0.toNat) none,.d (eB p4)]) dV U U U U U U U)) (sn (sr (sm U (sa U (sn (aM (bM (Wk.refl _) (bq U aW) U)))))))
noncomputable def eF (p0:Int) (p1:List UInt8) (p2:Nat) (p3:Nat) (p4:Bool):Option (UInt64×Nat×Nat×Bool):=
 ah (α:=UInt64×Nat×Nat×Bool)
 (ah (gG p0 p1 p2 p3 p4) fun (RO,K8,RN,aaC,pG)=>
 ah (α:=UInt64×Nat×Nat×Bool)
 (loop (Y:=UInt64×Int) (W:=UInt64×Nat×Nat×Bool) (fun (Az,G7)=>
 bif (decide (G7 < (K8:Int))) then
 ah (mP p1 RO K8 G7) fun Z6=>
 some (Sum.inl (((pz Az 8) ||| (Z6.toUInt64)),(bL (G7+(1:Int)))))
 else
 some (Sum.inr (Az,RN,aaC,pG))) ((0:UInt64),(0:Int)))
 (fun e=>some e))
 fun (y95,y96,Xn,y98)=>
 some (y95,y96,Xn,y98)
theorem oV (p0:Int) (p1:List UInt8) (p2:Nat) (p3:Nat) (p4:Bool) (r:UInt64×Nat×Nat×Bool) (h0:eF p0 p1 p2 p3 p4=some r):aT Tryz.prog 218 [.ref 0 0 0,.d (eI p0)] [.box (.agg [.slc 1 1 p2 p3 none,.d (eB p4)]),.row 1 (List.map dX p1) true] (.d (eX r.1)) [.box (.agg [.slc 1 1 r.2.1 r.2.2.1 none,.d (eB r.2.2.2)]),.row 1 (List.map dX p1) true]:=by
 unfold eF at h0
 refine fn0 [0,1] Tryz.func218 U U U U U ?_
 refine sr (s1 (jA (v:=.d (eX (0:UInt64))) U) (sn (sr (s1 (jA (v:=.d (eX (0:UInt64))) U) (sn (SC.dw h0 (fun y=>⟨mk 23 [(5,.d (eX y.1))],[.box (.agg [.slc 1 1 y.2.1 y.2.2.1 none,.d (eB y.2.2.2)]),.row 1 (List.map dX p1) true]⟩) ?_ ?_))))))
 ·intro akf h1
  obtain ⟨⟨RO,K8,RN,aaC,pG⟩,abN,h1⟩:=ob h1;obtain ⟨arC,h2,h1⟩:=ob h1
  refine sr (sm U (sm U (cq [0,1] [] (xC p0 p1 p2 p3 p4 _ abN) wf U U U acf U U U U U U U U (s1 (len U U U (gN eZ)) (sm U (sn (SC.blk (SC.eH h2 (fun y=>⟨mk 23 [(5,.d (eX y.1)),(10,.slc 1 1 RO K8 none),(11,.d (eI (K8:Int))),(12,.d (eI y.2))],[.box (.agg [.slc 1 1 RN aaC none,.d (eB pG)]),.row 1 (List.map dX p1) true]⟩) (wq U) ?_))))))))
  intro n115
  rintro ⟨Az,G7⟩ aqi h3 hv3
  refine sr (s1 (bi U U bB) (sn (sq (cB h3 U (fun h3=>?_) (fun h3=>?_)))))
  ·obtain ⟨Z6,hv114,h3⟩:=ob h3
   refine sk (sq (SC.blk (sr (s1 (SA U U eZ Fx (dI hv114).1) (s1 (bK U (jD Fx ta5 U (bI (dI hv114).2) U)) (sa U (sn (aO (sm U ?_)))))))))
   refine s1 (bi (v:=.d (eX (pz Az 8))) U U (fun X Y=>OB _ X Y Az _ (by decide))) (sm U (s1 (AZ U (CS EU Bh Z6)) (s1 (bi U U RP) (sa U (SO.nil ?_)))))
   change SC _ _ _ _ _
   have q:=si h3;subst q
   exact aO (s1 (bi U U bH) (sm U (SO.nil (lf (wq U)))))
  ·have q:=si h3;subst q;have q:_=_:=hv3;subst q;have q:=si h1;subst q
   exact bZ ((wq U))
 ·rintro ⟨y95,y96,Xn,y98⟩ h0
  have q:=si h0;subst q
  exact sr (sm U (sa U (sn (aM (bM (Wk.refl _) (bq U aW) U)))))
noncomputable def jS (p0:List UInt8) (p1:Nat) (p2:Nat) (p3:Bool):Option (Bool×Nat×Nat×Bool):=
 ah (α:=Bool)
 (bif (decide ((p2:Int) > (0:Int))) then
 ah (mP p0 p1 p2 (0:Int)) fun v28=>
 some (decide ((1:UInt8) < v28))
 else
 some false)
 fun y26=>
 bif y26 then
 ah (α:=Unit)
 (some ())
 fun _=>
 some (false,p1,p2,true)
 else
 ah (eF (1:Int) p0 p1 p2 p3) fun (r31,r32,r33,r34)=>
 some ((r31==(1:UInt64)),r32,r33,r34)
theorem F5 (p0:List UInt8) (p1:Nat) (p2:Nat) (p3:Bool) (r:Bool×Nat×Nat×Bool) (h0:jS p0 p1 p2 p3=some r):aT Tryz.prog 205 [.ref 0 0 0] [.box (.agg [.slc 1 1 p1 p2 none,.d (eB p3)]),.row 1 (List.map dX p0) true] (.d (eB r.1)) [.box (.agg [.slc 1 1 r.2.1 r.2.2.1 none,.d (eB r.2.2.2)]),.row 1 (List.map dX p0) true]:=by
 unfold jS at h0
 refine fn0 [0] Tryz.func205 U U U U U ?_
 refine sr (sa U (sn (sq (SC.dw h0 (fun y=>⟨mk 30 [(0,.ref 0 0 0),(21,.d (eB y))],[.box (.agg [.slc 1 1 p1 p2 none,.d (eB p3)]),.row 1 (List.map dX p0) true]⟩) ?_ ?_))))
 ·intro akk h1
  refine aO (sm U (s1 (bi (v:=.d (eB false)) U U (fun _ _=>zF Dn)) (sm U (gw U (mv U) (gw U (lu U) (gw U (far (k:=0) U l5 dV U) (gw U (bK U (ak dV lH U U)) (gw U (len U U U (gN eZ)) (gw U (bi U U dx) ?_)))))))))
  refine gw U (mv U) (sp h1 (fun h1=>?_) (fun h1=>?_))
  ·obtain ⟨v28,hv28,h1⟩:=ob h1;have q:=si h1;subst q
   refine gw U (mv U) (gw U (lu U) (gw U (far (k:=0) U l5 dV U) (gw U (bK U (ak dV lH U U)) (gw U (SA U U eZ Fx (dI hv28).1) (gw U (bK U (jD Fx ta5 U (bI (dI hv28).2) U)) (gw U (bi U U (yJ (b:=(1:UInt8)))) (gw U (pkt U U) (s1 (eT U U) (SO.nil ?_)))))))))
   exact (wq U)
  ·have q:=si h1;subst q
   refine kw U (kw U (kw U (kw U (kw U (kw U (kw U (gw U (eT U U) (s1 (eT U U) (SO.nil ?_)))))))))
   exact (wq U)
 ·rintro y26 h0
  refine cB h0 U (fun h0=>?_) (fun h0=>?_)
  ·refine SC.dw h0 (fun y=>⟨mk 30 [],[.box (.agg [.slc 1 1 p1 p2 none,.d (eB true)]),.row 1 (List.map dX p0) true]⟩) ?_ ?_
   ·intro akj h1
    have q:=si h1;subst q
    refine sr (sm U (s1 (bi (v:=.d (eB true)) U U (fun _ _=>CF Dn)) (sn (cT U (aO (sm U (s1 (lu U) (s1 (far (k:=1) U xH nu U) (s0 (jF (b:=.d (eB true)) U U (sB (d':=.agg [.slc 1 1 p1 p2 none,.d (eB true)]) nu U U U U U U U)) ?_)))))))))
    exact SO.nil ((wq U))
   ·intro _ h0
    have q:=si h0;subst q
    exact sr (sa U (sn (aM (bM (Wk.refl _) (bq U aW) U))))
  ·obtain ⟨⟨r31,r32,r33,r34⟩,as7,h0⟩:=ob h0;have q:=si h0;subst q
   exact sk (sr (sm U (cq [0,1] [] (oV (1:Int) p0 p1 p2 p3 _ as7) wf U U U Xa U U U U U U U U (s1 (bi U U (j4 (b:=(1:UInt64)))) (sa U (sn (aM (bM (Wk.refl _) (bq U aW) U))))))))
noncomputable def qE (p0:List UInt8) (p1:Nat) (p2:Nat) (p3:Bool):Option (UInt64×Nat×Nat×Bool):=
 ah (eF (8:Int) p0 p1 p2 p3) fun (r16,Wm,NW,GV)=>
 some (r16,Wm,NW,GV)
theorem Ld (p0:List UInt8) (p1:Nat) (p2:Nat) (p3:Bool) (r:UInt64×Nat×Nat×Bool) (h0:qE p0 p1 p2 p3=some r):aT Tryz.prog 206 [.ref 0 0 0] [.box (.agg [.slc 1 1 p1 p2 none,.d (eB p3)]),.row 1 (List.map dX p0) true] (.d (eX r.1)) [.box (.agg [.slc 1 1 r.2.1 r.2.2.1 none,.d (eB r.2.2.2)]),.row 1 (List.map dX p0) true]:=by
 unfold qE at h0
 refine fn0 [0] Tryz.func206 U U U U U ?_
 obtain ⟨⟨r16,Wm,NW,GV⟩,UO,h0⟩:=ob h0;have q:=si h0;subst q
 exact sr (s1 (jA (v:=.d (eX (0:UInt64))) U) (sn (sr (sm U (cq [0,1] [] (oV (8:Int) p0 p1 p2 p3 _ UO) wf U U U Xa U U U U U U U U (sa U (sn (aM (bM (Wk.refl _) (bq U aW) U)))))))))
noncomputable def sN (p0:List UInt8) (p1:Nat) (p2:Nat) (p3:Bool):Option (UInt8×Nat×Nat×Bool):=
 ah (eF (1:Int) p0 p1 p2 p3) fun (r16,Wm,NW,GV)=>
 some ((r16.toUInt8),Wm,NW,GV)
theorem Nq (p0:List UInt8) (p1:Nat) (p2:Nat) (p3:Bool) (r:UInt8×Nat×Nat×Bool) (h0:sN p0 p1 p2 p3=some r):aT Tryz.prog 198 [.ref 0 0 0] [.box (.agg [.slc 1 1 p1 p2 none,.d (eB p3)]),.row 1 (List.map dX p0) true] (.d (dX r.1)) [.box (.agg [.slc 1 1 r.2.1 r.2.2.1 none,.d (eB r.2.2.2)]),.row 1 (List.map dX p0) true]:=by
 unfold sN at h0
 refine fn0 [0] Tryz.func198 U U U U U ?_
 obtain ⟨⟨r16,Wm,NW,GV⟩,UO,h0⟩:=ob h0;have q:=si h0;subst q
 refine sr (s1 (jA (v:=.d (dX (0:UInt8))) U) (sn (sr (sm U (cq [0,1] [] (oV (1:Int) p0 p1 p2 p3 _ UO) wf U U U Xa U U U U U U U U (s1 (AZ U (vP Bh EU r16)) (sa U (sn (aM ?_)))))))))
 exact bM (Wk.refl _) (bq U aW) U
noncomputable def oJ (p0:List UInt8) (p1:Nat) (p2:Nat) (p3:Bool):Option Int:=
 ah (mP p0 p1 p2 (0:Int)) fun v6=>
 ah (mP p0 p1 p2 (1:Int)) fun v7=>
 some (orI (bL ((v6.toNat:Int)*2 ^ min ((8:UInt64).toNat:Int).toNat 64)) (v7.toNat:Int))
theorem Al (p0:List UInt8) (p1:Nat) (p2:Nat) (p3:Bool) (r:Int) (h0:oJ p0 p1 p2 p3=some r):aT Tryz.prog 224 [.ref 0 0 0] [.box (.agg [.slc 1 1 p1 p2 none,.d (eB p3)]),.row 1 (List.map dX p0) true] (.d (eI r)) [.box (.agg [.slc 1 1 p1 p2 none,.d (eB p3)]),.row 1 (List.map dX p0) true]:=by
 unfold oJ at h0
 refine fn0 [0] Tryz.func224 U U U U U ?_
 obtain ⟨v6,hv6,h0⟩:=ob h0;obtain ⟨v7,hv7,h0⟩:=ob h0;have q:=si h0;subst q
 refine sr (sa U (sn (sd (by kernel_rfl) (t1 aH (mv U) U (t1 aH (lu U) U (t1 aH (far (k:=0) U l5 dV U) U (t1 ([0],false) (bK U (ak dV lH U U)) U (t1 aH (SA U U eZ Fx (dI hv6).1) U (t1 ([1],false) (bK U (jD Fx ta5 U (bI (dI hv6).2) U)) U ?_)))))))))
 refine t1 aH (AZ U (qG EU Rc v6)) U (t1 aH (bi (v:=.d (eI (bL ((v6.toNat:Int)*2 ^ min ((8:UInt64).toNat:Int).toNat 64)))) U U (fun X Y=>Y4 _ X Y (v6.toNat:Int) _ (by decide))) U (t1 aH (mv U) U (t1 aH (lu U) U (t1 aH (far (k:=0) U l5 dV U) U (t1 ([0],false) (bK U (ak dV lH U U)) U (t1 aH (SA U U eZ Fx (dI hv7).1) U (t1 ([1],false) (bK U (jD Fx ta5 U (bI (dI hv7).2) U)) U (t1 aH (AZ U (qG EU Rc v7)) U (t1 aH (bi U U aaH) U ?_)))))))))
 exact t1 aH (jA U) U (tn (by decide +kernel) (aM (bM (Wk.refl _) (bq U aW) U)))
noncomputable def oK (p0:List UInt8) (p1:Nat) (p2:Nat) (p3:Bool):Option ((List UInt8)×Nat×Nat×Bool):=
 ah (α:=Bool)
 (bif p3 then
 some true
 else
 bif (decide ((p2:Int) < (2:Int))) then
 some true
 else
 ah (oJ p0 p1 p2 p3) fun r44=>
 some (decide ((p2:Int) < (bL ((2:Int)+r44)))))
 fun y41=>
 bif y41 then
 ah (α:=Unit)
 (some ())
 fun _=>
 some (([]:List UInt8),p1,p2,true)
 else
 ah (oJ p0 p1 p2 p3) fun r47=>
 ah (gG (bL ((2:Int)+r47)) p0 p1 p2 p3) fun (r49,r50,RF,r52,Zq)=>
 bif decide (0≤(2:Int)∧(2:Int)≤(r50:Int)) then
 bif decide ((r49+(2:Int).toNat)+(r50 - (2:Int).toNat)≤p0.length) then
 some ((List.take (r50 - (2:Int).toNat) (List.drop (r49+(2:Int).toNat) p0)),RF,r52,Zq)
 else none
 else none
theorem JJ (p0:List UInt8) (p1:Nat) (p2:Nat) (p3:Bool) (r:(List UInt8)×Nat×Nat×Bool) (h0:oK p0 p1 p2 p3=some r):aT Tryz.prog 219 [.ref 0 0 0] [.box (.agg [.slc 1 1 p1 p2 none,.d (eB p3)]),.row 1 (List.map dX p0) true] (.d (eS r.1)) [.box (.agg [.slc 1 1 r.2.1 r.2.2.1 none,.d (eB r.2.2.2)]),.row 1 (List.map dX p0) true]:=by
 unfold oK at h0
 refine fn0 [0] Tryz.func219 U U U U U ?_
 refine sr (s1 (jA (v:=.d (eS ([]:List UInt8))) U) (sn (sq (SC.dw h0 (fun y=>⟨mk 42 [(0,.ref 0 0 0),(29,.d (eB y))],[.box (.agg [.slc 1 1 p1 p2 none,.d (eB p3)]),.row 1 (List.map dX p0) true]⟩) ?_ ?_))))
 ·intro auT h1
  refine SC.draws (by kernel_rfl) (t1 aH (mv U) U (t1 aH (bi (v:=.d (eB false)) U U (fun _ _=>zF Dn)) U (t1 aH (mv U) U (u1 aH (ww U) (mv U) U (u1 aH (ww U) (lu U) U (u1 aH (ww U) (far (k:=1) U xH nu U) U (u1 ([0],false) (ww U) (bK U (ak nu FB U U)) U (t1 aH (eT U U) U (t1 aH (mv U) U ?_)))))))))
  refine tp h1 (fun h1=>?_) (fun h1=>?_)
  ·have q:=si h1;subst q
   refine jw U (jw U (jw U (jw U (jw U (jw U (t1 aH (pkt U U) U (t1 aH (mv U) U (jw U (jw U ?_)))))))))
   refine jw U (jw U (jw U (jw U (jw U (jw U (jw U (t1 aH (pkt U U) U (ST.nil (And.intro (by decide +kernel) ?_)))))))))
   exact (wq U)
  ·refine u1 aH (ww U) (mv U) U (u1 aH (ww U) (lu U) U (u1 aH (ww U) (far (k:=0) U l5 dV U) U (u1 ([0],false) (ww U) (bK U (ak dV lH U U)) U (u1 aH (ww U) (len U U U (gN eZ)) U (u1 aH (ww U) (bi U U bB) U (t1 aH (eT U U) U (t1 aH (mv U) U (tp h1 (fun h1=>?_) (fun h1=>?_)))))))))
   ·have q:=si h1;subst q
    refine jw U (jw U (jw U (jw U (jw U (jw U (jw U (jw U (jw U (t1 aH (pkt U U) U ?_)))))))))
    refine ST.nil (And.intro (by decide +kernel) ?_)
    exact (wq U)
   ·obtain ⟨r44,ahV,h1⟩:=ob h1;have q:=si h1;subst q
    refine u1 aH (ww U) (mv U) U (u1 aH (ww U) (lu U) U (u1 aH (ww U) (far (k:=0) U l5 dV U) U (u1 ([0],false) (ww U) (bK U (ak dV lH U U)) U (u1 aH (ww U) (len U U U (gN eZ)) U (u1 aH (ww U) (mv U) U (tqr [0,1] [0,1] (Al p0 p1 p2 p3 _ ahV) (ww U) U U U agE U U U U U U U U (u1 aH (ww U) (bi U U bH) U (u1 aH (ww U) (bi U U bB) U (t1 aH (eT U U) U ?_)))))))))
    refine ST.nil (And.intro (by decide +kernel) ?_)
    exact (wq U)
 ·rintro y41 h0
  refine cB h0 U (fun h0=>?_) (fun h0=>?_)
  ·refine SC.dw h0 (fun y=>⟨mk 42 [],[.box (.agg [.slc 1 1 p1 p2 none,.d (eB true)]),.row 1 (List.map dX p0) true]⟩) ?_ ?_
   ·intro afp h1
    have q:=si h1;subst q
    refine sr (sm U (s1 (bi (v:=.d (eB true)) U U (fun _ _=>CF Dn)) (sn (cT U (aO (sm U (s1 (lu U) (s1 (far (k:=1) U xH nu U) (s0 (jF (b:=.d (eB true)) U U (sB (d':=.agg [.slc 1 1 p1 p2 none,.d (eB true)]) nu U U U U U U U)) ?_)))))))))
    exact SO.nil ((wq U))
   ·intro _ h0
    have q:=si h0;subst q
    exact sr (s1 (jA (v:=.d (eS ([]:List UInt8))) U) (sn (aM (bM (Wk.refl _) (bq U aW) U))))
  ·obtain ⟨r47,as1,h0⟩:=ob h0;obtain ⟨⟨r49,r50,RF,r52,Zq⟩,ahT,h0⟩:=ob h0;obtain ⟨ato,h0⟩:=gd h0;obtain ⟨atn,h0⟩:=gd h0;have q:=si h0;subst q
   refine sk (sr (sm U (sm U (cq [0,1] [] (Al p0 p1 p2 p3 _ as1) wf U U U agE U U U U U U U U (s1 (bi U U bH) (cq [0,1] [] (xC (bL ((2:Int)+r47)) p0 p1 p2 p3 _ ahT) wf U U U acf U U U U U U U U (s1 (NT U U U U (mR eZ Fx ato)) (s1 (AZ (v:=.d (eS (List.take (r50 - (2:Int).toNat) (List.drop (r49+(2:Int).toNat) p0)))) U (oN eZ vk EU (aiZ (xs:=p0) U atn) (fun _ hh=>by cases hh))) (sa U ?_)))))))))
   exact sn (aM (bM (Wk.refl _) (bq U aW) U))
noncomputable def wu (p0:Int) (p1:List UInt8) (p2:Nat) (p3:Nat) (p4:Bool):Option (Nat×Nat×Bool×aj):=
 ah (jS p1 p2 p3 p4) fun (r94,Pp,K5,NV)=>
 bif r94 then
 some (Pp,K5,NV,(aj.mk (0:Int) (0:UInt64) ([]:List UInt8)))
 else
 ah (α:=Nat×Nat×Bool×aj)
 (ah (α:=Bool)
 (bif (p0==(1:Int)) then
 some (p0==(1:Int))
 else
 some (p0==(2:Int)))
 fun adw=>
 bif adw then
 ah (qE p1 Pp K5 NV) fun (BA,ad7,ad6,Uv)=>
 some (ad7,ad6,Uv,(aj.mk p0 BA ([]:List UInt8)))
 else
 bif (p0==(3:Int)) then
 ah (sN p1 Pp K5 NV) fun (Yc,wJ,Ut,ad5)=>
 some (wJ,Ut,ad5,(aj.mk p0 (Yc.toUInt64) ([]:List UInt8)))
 else
 ah (oK p1 Pp K5 NV) fun (Us,Ur,ad4,ad3)=>
 some (Ur,ad4,ad3,(aj.mk p0 (0:UInt64) Us)))
 fun (y115,iR,adx,XB)=>
 some (y115,iR,adx,XB)
theorem Rq (p0:Int) (p1:List UInt8) (p2:Nat) (p3:Nat) (p4:Bool) (r:Nat×Nat×Bool×aj) (h0:wu p0 p1 p2 p3 p4=some r):aT Tryz.prog 200 [.ref 0 0 0,.d (eI p0)] [.box (.agg [.slc 1 1 p2 p3 none,.d (eB p4)]),.row 1 (List.map dX p1) true] (.d (au r.2.2.2)) [.box (.agg [.slc 1 1 r.1 r.2.1 none,.d (eB r.2.2.1)]),.row 1 (List.map dX p1) true,.box (.d (au r.2.2.2))]:=by
 unfold wu at h0
 refine fn0 [0,1] Tryz.func200 U U U U U ?_
 obtain ⟨⟨r94,Pp,K5,NV⟩,ahO,h0⟩:=ob h0
 refine sr (s1 (yA (k:=2) Xm U) (sn (sq (sr (sm U (cq [0,1] [] (F5 p1 p2 p3 p4 _ ahO) wf U U U an9 U U U U U U U U (sn (cB h0 U (fun h0=>?_) (fun h0=>?_)))))))))
 ·have q:=si h0;subst q
  exact sr (s1 (vg U (acs )) (s0 (jF U U (sB (d':=.d (au (aj.mk (0:Int) (0:UInt64) ([]:List UInt8)))) gK U U U U U U U)) (sn (aM (bM (Wk.refl _) (xE U (ak gK ny U U) aW) U)))))
 ·refine sk (sr (sm U (s1 (vg U (Ve p0)) (s1 (yA (k:=3) Xm U) (s0 (jF U U (sB (d':=.d (au (aj.mk p0 (0:UInt64) ([]:List UInt8)))) gK U U U U U U U)) (sn (SC.dw h0 (fun y=>⟨mk 28 [(4,.ref 2 0 0),(5,.ref 3 0 0)],[.box (.agg [.slc 1 1 y.1 y.2.1 none,.d (eB y.2.2.1)]),.row 1 (List.map dX p1) true,.box (.d (au (aj.mk (0:Int) (0:UInt64) ([]:List UInt8)))),.box (.d (au y.2.2.2))]⟩) ?_ ?_)))))))
  ·intro ar5 h1
   refine sr (sm U (sn (SC.blk (SC.dw h1 (fun y=>⟨mk 28 [(0,.ref 0 0 0),(4,.ref 2 0 0),(5,.ref 3 0 0),(11,.d (eI p0)),(15,.d (eB y))],[.box (.agg [.slc 1 1 Pp K5 none,.d (eB NV)]),.row 1 (List.map dX p1) true,.box (.d (au (aj.mk (0:Int) (0:UInt64) ([]:List UInt8)))),.box (.d (au (aj.mk p0 (0:UInt64) ([]:List UInt8))))]⟩) ?_ ?_))))
   ·intro arA h2
    refine sr (s1 (bi U U bD) (sa U (sn (cB h2 U (fun h2=>?_) (fun h2=>?_)))))
    ·have q:=si h2;subst q
     exact bR ((wq U))
    ·have q:=si h2;subst q
     exact aO (s1 (bi U U bD) (sa U (SO.nil ((wq U)))))
   ·rintro adw h1
    refine cB h1 U (fun h1=>?_) (fun h1=>?_)
    ·obtain ⟨⟨BA,ad7,ad6,Uv⟩,SV,h1⟩:=ob h1;have q:=si h1;subst q
     exact aO (sm U (cq [0,1] [] (Ld p1 Pp K5 NV _ SV) wf U U U an8 U U U U U U U U (s1 (far (k:=1) U j3 iK U) (s0 (jF U U (sB (d':=.d (au (aj.mk p0 BA ([]:List UInt8)))) iK U U U U U U U)) (SO.nil ((wq U)))))))
    ·refine sr (s1 (bi U U bD) (sa U (sn (cB h1 U (fun h1=>?_) (fun h1=>?_)))))
     ·obtain ⟨⟨Yc,wJ,Ut,ad5⟩,aml,h1⟩:=ob h1;have q:=si h1;subst q
      exact aO (sm U (cq [0,1] [] (Nq p1 Pp K5 NV _ aml) wf U U U agJ U U U U U U U U (s1 (AZ U (CS EU Bh Yc)) (s1 (far (k:=1) U j3 iK U) (s0 (jF U U (sB (d':=.d (au (aj.mk p0 (Yc.toUInt64) ([]:List UInt8)))) iK U U U U U U U)) (SO.nil ((wq U))))))))
     ·obtain ⟨⟨Us,Ur,ad4,ad3⟩,amh,h1⟩:=ob h1;have q:=si h1;subst q
      exact aO (sm U (cq [0,1] [] (JJ p1 Pp K5 NV _ amh) wf U U U an0 U U U U U U U U (s1 (far (k:=2) U jZ iA U) (s0 (jF U U (sB (d':=.d (au (aj.mk p0 (0:UInt64) Us))) iA U U U U U U U)) (SO.nil ((wq U)))))))
  ·rintro ⟨y115,iR,adx,XB⟩ h0
   have q:=si h0;subst q
   exact sr (s1 (bK (v:=.d (au XB)) U (ak gK ny U U)) (s0 (jF U U (sB (d':=.d (au XB)) gK U U U U U U U)) (sn (aM (bM (aC (e':=[(4,.ref 2 0 0)]) [0,1,2] [0,1,2] U) (xE U (ak gK ny U U) aW) U)))))
noncomputable def uE (p0:List UInt8) (p1:Nat) (p2:Nat) (p3:Bool):Option Unit:=
 ah (α:=Unit)
 (some ())
 fun _=>
 some ()
theorem BK (p0:List UInt8) (p1:Nat) (p2:Nat) (p3:Bool) (r:Unit) (h0:uE p0 p1 p2 p3=some r):aT Tryz.prog 201 [.ref 0 0 0] [.box (.agg [.slc 1 1 p1 p2 none,.d (eB p3)]),.row 1 (List.map dX p0) true] (.d (eB p3)) [.box (.agg [.slc 1 1 p1 p2 none,.d (eB p3)]),.row 1 (List.map dX p0) true]:=by
 unfold uE at h0
 refine fn0 [0] Tryz.func201 U U U U U ?_
 refine sr (sa U (sn (SC.dw h0 (fun y=>⟨mk 11 [(2,.d (eB p3))],[.box (.agg [.slc 1 1 p1 p2 none,.d (eB p3)]),.row 1 (List.map dX p0) true]⟩) ?_ ?_)))
 ·intro avf h1
  have q:=si h1;subst q
  refine aO (sm U (s1 (bi (v:=.d (eB false)) U U (fun _ _=>zF Dn)) (sm U (gw U (mv U) (gw U (lu U) (gw U (far (k:=1) U xH nu U) (gw U (bK U (ak nu FB U U)) (s1 (eT U U) (sa U ?_)))))))))
  exact SO.nil ((wq U))
 ·intro _ h0
  have q:=si h0;subst q
  exact aM (bM (Wk.refl _) (bq U aW) U)
noncomputable def nP (p0:aj) (p1:Int) (p2:List aj):Option Unit:=
 bif decide ((p2.length+[p0].length)*32≤room) then
 some ()
 else none
theorem FN (p0:aj) (p1:Int) (p2:List aj) (r:Unit) (h0:nP p0 p1 p2=some r):aT Tryz.prog 177 [.d (au p0),.d (eI p1),.ref 0 0 0] [.box (.slc 1 3 0 p2.length none),.row 3 (List.map au p2) true] (.tuple []) [.box (.slc 2 3 0 ((p2++[p0]).length) none),.dead,.row 3 (List.map au (p2++[p0])) true]:=by
 unfold nP at h0
 refine fn0 [0,1,2] Tryz.func177 U U U U U ?_
 obtain ⟨hg3,h0⟩:=gd h0;have q:=si h0;subst q
 refine sr (s1 (nN (k:=2) U U U) (sn (aO (s1 (bK U (ak ni zk U U)) (s1 (bK (v:=.d (au p0)) U (ak gK ny U U)) (s1 (rX (k:=3) (ds:=List.map au [p0]) (off:=0) (l':=[p0].length) U jJ EO U U (by rfl) U U U) (s1 (app U U U U YM (aF (f:=au) (xs:=p2) (k:=4) U jJ EO U (dU (xs:=[p0]) U) hg3 U)) (s0 (jF U U (sC ni U U U U U U)) (SO.nil ?_)))))))))
 exact vH (aC (e':=[]) [0,1,4] [0,1] U) aW U
noncomputable def rD (p0:List UInt8) (p1:Nat) (p2:Nat) (p3:Bool):Option Bool:=
 ah (α:=Bool)
 (ah (uE p0 p1 p2 p3) fun _=>
 bif (!p3) then
 ah (oL p0 p1 p2 p3) fun _=>
 some ((p2:Int)==(0:Int))
 else
 some false)
 fun OT=>
 some OT
theorem JK (p0:List UInt8) (p1:Nat) (p2:Nat) (p3:Bool) (r:Bool) (h0:rD p0 p1 p2 p3=some r):aT Tryz.prog 203 [.ref 0 0 0] [.box (.agg [.slc 1 1 p1 p2 none,.d (eB p3)]),.row 1 (List.map dX p0) true] (.d (eB r)) [.box (.agg [.slc 1 1 p1 p2 none,.d (eB p3)]),.row 1 (List.map dX p0) true]:=by
 unfold rD at h0
 refine fn0 [0] Tryz.func203 U U U U U ?_
 refine sr (sa U (sn (SC.dw h0 (fun y=>⟨mk 11 [(2,.d (eB y))],[.box (.agg [.slc 1 1 p1 p2 none,.d (eB p3)]),.row 1 (List.map dX p0) true]⟩) ?_ ?_)))
 ·intro NQ h1
  obtain ⟨_,UN,h1⟩:=ob h1
  refine aO (sm U (cq [0,1] [] (BK p0 p1 p2 p3 _ UN) wf U U U agH U U U U U U U U (s1 (nt U) (sm U (sp h1 (fun h1=>?_) (fun h1=>?_))))))
  ·obtain ⟨_,ah7,h1⟩:=ob h1;have q:=si h1;subst q
   exact gw U (mv U) (cq [0,1] [] (Am p0 p1 p2 p3 _ ah7) (ww U) U U U agI U U U U U U U U (gw U (bi U U bD) (s1 (pkt U U) (sa U (SO.nil ((wq U)))))))
  ·have q:=si h1;subst q
   exact kw U (kw U (kw U (s1 (eT U U) (sa U (SO.nil ((wq U)))))))
 ·rintro OT h0
  have q:=si h0;subst q
  exact aM (bM (Wk.refl _) (bq U aW) U)
noncomputable def wz (p0:List aA) (p1:List UInt8):Option (Bool×(List aj)):=
 ah (Cy p1) fun _=>
 ah (lW p1 false) fun (wH,PD,Eb,Pz)=>
 ah (α:=Bool)
 (bif (decide ((wH.toNat:Int) < (1:Int))) then
 some true
 else
 some (decide ((wH.toNat:Int) > (p0.length:Int))))
 fun adp=>
 bif adp then
 some (false,([]:List aj))
 else
 fP (Y:=(List aj)×Nat×Nat×Bool) (E:=Bool×(List aj))
 (bif decide (0≤(wH.toNat:Int)∧(wH.toNat:Int)≤(p0.length:Int)) then
 ah (α:=((List aj)×Nat×Nat×Bool)⊕(Bool×(List aj)))
 (loop (Y:=Int×(List aj)×Nat×Nat×Bool) (W:=((List aj)×Nat×Nat×Bool)⊕(Bool×(List aj))) (fun (OQ,G6,MU,E5,MS)=>
 bif (decide (OQ < ((List.take (wH.toNat:Int).toNat p0).length:Int))) then
 ah (bP (List.take (wH.toNat:Int).toNat p0) OQ) fun DX=>
 ah (oL p1 MU E5 MS) fun _=>
 ah (wu DX.Kind p1 MU E5 MS) fun (RL,RJ,HV,FT)=>
 ah (α:=Bool)
 (ah (uE p1 RL RJ HV) fun _=>
 bif HV then
 some true
 else
 ah (kJ DX FT) fun adZ=>
 some (adZ != (0:Int)))
 fun adi=>
 bif adi then
 some (Sum.inr (Sum.inr (false,G6)))
 else
 ah (nP FT (E5:Int) G6) fun _=>
 some (Sum.inl ((bL (OQ+(1:Int))),(G6++[FT]),RL,RJ,HV))
 else
 some (Sum.inr (Sum.inl (G6,MU,E5,MS)))) ((0:Int),([]:List aj),PD,Eb,Pz))
 (Sum.elim (fun e=>some (Sum.inl e)) (fun e=>some (Sum.inr e)))
 else none)
 (fun (adl,Zz,Zy,Zx)=>
 ah (rD p1 Zz Zy Zx) fun aaw=>
 some (aaw,adl))
 (fun e=>some e)
theorem Rt (p0:List aA) (p1:List UInt8) (r:Bool×(List aj)) (h0:wz p0 p1=some r):aT Tryz.prog 176 [.d ((eL 7 aJ) p0),.d (eS p1),.fn (.func 177) [] [.ref 0 0 0]] [.box (.d .dB)] (.d (eB r.1)) [.box (.slc 1 3 0 r.2.length none),.row 3 (List.map au r.2) true]:=by
 unfold wz at h0
 refine fn0 [0,1,2] Tryz.func176 U U U U U ?_
 obtain ⟨_,al4,h0⟩:=ob h0;obtain ⟨⟨wH,PD,Eb,Pz⟩,abL,h0⟩:=ob h0
 refine sr (sa U (sn (sr (sm U (s1 (cvs (s:=p1) (k:=1) U vk eZ EU Fx U) (cq (args':=[.slc 0 1 0 p1.length none]) (lF:=[.row 1 (List.map dX p1) true]) [1] [2,3] (aT.og (iX.og (fF U U U) (iX.nil _)) (fq [] [1,2] (Uz p1 _ al4) U U U U U U U U)) wf U U U aod U U U U U U U U (sa U (sn (sr ?_)))))))))
 refine sm U (cq [2,3] [] (JI p1 false _ abL) wf U U U agJ U U U U U U U U (s1 (AZ U (qG EU Rc wH)) (sa U (sn (sq (SC.dw h0 (fun y=>⟨mk 56 [(0,.d ((eL 7 aJ) p0)),(2,.fn (.func 177) [] [.ref 0 0 0]),(7,.ref 1 0 0),(8,.d (eI (wH.toNat:Int))),(26,.d (eB y))],[.box (.d .dB),.box (.agg [.slc 2 1 PD Eb none,.d (eB Pz)]),.row 1 (List.map dX p1) true]⟩) ?_ ?_))))))
 ·intro arW h1
  refine aO (sm U (s1 (bi U U bB) (sm U (sp h1 (fun h1=>?_) (fun h1=>?_)))))
  ·have q:=si h1;subst q
   exact kw U (kw U (kw U (kw U (s1 (pkt U U) (SO.nil ((aC [0,2,3] [0,0,2] U)))))))
  ·have q:=si h1;subst q
   exact gw U (mv U) (gw U (mv U) (gw U (len U U U (bN ng)) (gw U (bi U U dx) (s1 (eT U U) (SO.nil ((aC [0,2,3] [0,0,2] U)))))))
 ·rintro adp h0
  refine cB h0 U (fun h0=>?_) (fun h0=>?_)
  ·have q:=si h0;subst q
   exact sr (sa U (sn (aM (bM (Wk.trans (Wk.nI (σ':=[.box (.d .dB),.box (.agg [.slc 2 1 PD Eb none,.d (eB Pz)]),.row 1 (List.map dX p1) true,.row 3 (List.map au ([]:List aj)) true]) (.row 3 [] true) (fun _ hh=>by cases hh) U) (Wk.trans (Wk.Vd (id:=0) (y:=.slc 3 3 0 (([]:List aj).length) none) (σ':=[.box (.slc 3 3 0 (([]:List aj).length) none),.box (.agg [.slc 2 1 PD Eb none,.d (eB Pz)]),.row 1 (List.map dX p1) true,.row 3 (List.map au ([]:List aj)) true]) U (jX.cons (AW.mH _ _ _) jX.nil) U) (aC (e':=[(6,.d (eB false))]) [0,3] [0] U))) (bq U aW) U))))
  ·refine sk (SC.seqB h0 (fun y=>⟨mk 56 [(7,.ref 1 0 0)],[.box (.slc 2 3 0 y.1.length none),.box (.agg [.slc 3 1 y.2.1 y.2.2.1 none,.d (eB y.2.2.2)]),.row 3 (List.map au y.1) true,.row 1 (List.map dX p1) true]⟩) ?_ ?_)
   ·intro arS h1 h0
    obtain ⟨am1,h1⟩:=gd h1;obtain ⟨ard,h2,h1⟩:=ob h1
    refine sr (sm U (sm U (s1 (NT U U U U (Hr ng qH am1)) (s1 (len U U U (bN ng)) (sm U (sn (SC.blk (SC.eH h2 (fun y=>⟨mk 56 [(2,.fn (.func 177) [] [.ref 0 0 0]),(7,.ref 1 0 0),(29,.d ((eL 7 aJ) (List.take (wH.toNat:Int).toNat p0))),(30,.d (eI ((List.take (wH.toNat:Int).toNat p0).length:Int))),(31,.d (eI y.1))],[.box (.slc 2 3 0 y.2.1.length none),.box (.agg [.slc 3 1 y.2.2.1 y.2.2.2.1 none,.d (eB y.2.2.2.2)]),.row 3 (List.map au y.2.1) true,.row 1 (List.map dX p1) true]⟩) (Wk.trans (Wk.nI (σ':=[.box (.d .dB),.box (.agg [.slc 2 1 PD Eb none,.d (eB Pz)]),.row 1 (List.map dX p1) true,.row 3 (List.map au ([]:List aj)) true]) (.row 3 [] true) (fun _ hh=>by cases hh) U) (Wk.trans (Wk.Vd (id:=0) (y:=.slc 3 3 0 (([]:List aj).length) none) (σ':=[.box (.slc 3 3 0 (([]:List aj).length) none),.box (.agg [.slc 2 1 PD Eb none,.d (eB Pz)]),.row 1 (List.map dX p1) true,.row 3 (List.map au ([]:List aj)) true]) U (jX.cons (AW.mH _ _ _) jX.nil) U) (aC [0,1,3,2] [0,0,1] U))) ?_))))))))
    intro avs
    rintro ⟨OQ,G6,MU,E5,MS⟩ ap9 h3 hv3
    refine sr (s1 (bi U U bB) (sn (sq (cB h3 U (fun h3=>?_) (fun h3=>?_)))))
    ·obtain ⟨DX,SG,h3⟩:=ob h3;obtain ⟨_,abJ,h3⟩:=ob h3;obtain ⟨⟨RL,RJ,HV,FT⟩,alZ,h3⟩:=ob h3
     refine sk (sq (SC.blk (sr (s1 (kV U U ng qH (aB SG).1 (bI (aB SG).2) U) (s1 (bK (v:=.d (aJ DX)) U (bY qH Hl U)) (s1 (yA (k:=4) ajs U) (s0 (jF U U (sB (d':=.d (aJ DX)) qH U U U U U U U)) (sn (sr ?_)))))))))
     refine sm U (cq [1,3] [] (Am p1 MU E5 MS _ abJ) wf U U U agI U U U U U U U U (sa U (sn (sr (sm U (s1 (far (k:=1) U oZ dH U) (s1 (bK U (ak dH gV U U)) (cq [1,3] [5] (Rq DX.Kind p1 MU E5 MS _ alZ) wf U U U aoc U U U U U U U U (s1 (yA (k:=6) Xm U) ?_)))))))))
     refine s0 (jF U U (sB (d':=.d (au FT)) gK U U U U U U U)) (sn (sq (SC.dw h3 (fun y=>⟨mk 56 [(2,.fn (.func 177) [] [.ref 0 0 0]),(7,.ref 1 0 0),(11,.d (eI (E5:Int))),(12,.ref 2 0 0),(29,.d ((eL 7 aJ) (List.take (wH.toNat:Int).toNat p0))),(30,.d (eI ((List.take (wH.toNat:Int).toNat p0).length:Int))),(31,.d (eI OQ)),(48,.d (eB y))],[.box (.slc 3 3 0 G6.length none),.box (.agg [.slc 4 1 RL RJ none,.d (eB HV)]),.box (.d (au FT)),.row 3 (List.map au G6) true,.row 1 (List.map dX p1) true]⟩) ?_ ?_)))
     ·intro aqS h4
      obtain ⟨_,alU,h4⟩:=ob h4
      refine aO (sm U (cq [1,3] [] (BK p1 RL RJ HV _ alU) wf U U U agH U U U U U U U U (sm U (sp h4 (fun h4=>?_) (fun h4=>?_)))))
      ·have q:=si h4;subst q
       exact kw U (kw U (kw U (kw U (s1 (pkt U U) (SO.nil ((aC [0,1,6,2,3] [0,0,1,6] U)))))))
      ·obtain ⟨adZ,alT,h4⟩:=ob h4;have q:=si h4;subst q
       exact gw U (bK (v:=.d (aJ DX)) U (ak qH Hl U U)) (gw U (bK (v:=.d (au FT)) U (ak gK ny U U)) (c0 (xP DX FT _ alT) (ww U) U U U acg U (fun _=>rfl) (fun _=>rfl) (gw U (bi U U dA) (s1 (eT U U) (SO.nil ((aC [0,1,6,2,3] [0,0,1,6] U)))))))
     ·rintro adi h3
      refine cB h3 U (fun h3=>?_) (fun h3=>?_)
      ·have q:=si h3;subst q;have q:_=_:=hv3;subst q;have q:=si h1;subst q;have q:=si h0;subst q
       exact sr (sa U (sn (aM (bM (aC (e':=[(6,.d (eB false))]) [0,3] [0] U) (bq U aW) U))))
      ·obtain ⟨_,alS,h3⟩:=ob h3
       refine sk (aO (sm U (s1 (bK (v:=.d (au FT)) U (ak gK ny U U)) (sm U (cq [0,3] [5] (FN FT (E5:Int) G6 _ alS) wf U U U aon U U U U U U U U (SO.nil ?_))))))
       change SC _ _ _ _ _
       have q:=si h3;subst q
       exact aO (s1 (bi U U bH) (sm U (SO.nil (lf (aC [0,1,5,4] [0,0,1] U)))))
    ·have q:=si h3;subst q;have q:_=_:=hv3;subst q;have q:=si h1;subst q
     exact bZ (lf (wq U))
   ·rintro ⟨adl,Zz,Zy,Zx⟩ h0
    obtain ⟨aaw,alR,h0⟩:=ob h0;have q:=si h0;subst q
    exact sr (sm U (cq [1,3] [] (JK p1 Zz Zy Zx _ alR) wf U U U aob U U U U U U U U (sa U (sn (aM (bM (aC (e':=[(6,.d (eB aaw))]) [0,2] [0] U) (bq U aW) U))))))
noncomputable def pX (p0:List aA) (p1:List UInt8):Option ((List aj)×Int):=
 ah (lI p0) fun r86=>
 bif (!r86) then
 some (([]:List aj),(1:Int))
 else
 ah (α:=Bool×(List aj))
 (bif (decide ((p1.length:Int) > (512:Int))) then
 some (true,([]:List aj))
 else
 ah (wz p0 p1) fun (r94,Pp)=>
 some ((!r94),Pp))
 fun (y90,y91)=>
 bif y90 then
 some (([]:List aj),(2:Int))
 else
 ah (α:=(List aj))
 (bif decide (0≤(y91.length:Int)∧(y91.length:Int)≤(p0.length:Int)) then
 ah (α:=(List aj))
 (loop (Y:=Int×(List aj)) (W:=(List aj)) (fun (y115,iR)=>
 bif (decide (y115 < ((List.drop (y91.length:Int).toNat p0).length:Int))) then
 ah (bP (List.drop (y91.length:Int).toNat p0) y115) fun gD=>
 bif decide ((iR.length+[gD.Default].length)*32≤room) then
 some (Sum.inl ((bL (y115+(1:Int))),(iR++[gD.Default])))
 else none
 else
 some (Sum.inr iR)) ((0:Int),y91))
 (fun e=>some e)
 else none)
 fun XC=>
 some (XC,(0:Int))
theorem M9 (p0:List aA) (p1:List UInt8) (r:(List aj)×Int) (h0:pX p0 p1=some r):aT Tryz.prog 142 [.d ((eL 7 aJ) p0),.d (eS p1)] [] (.tuple [.d ((eL 3 au) r.1),.d (eI r.2)]) []:=by
 unfold pX at h0
 refine fn0 [0,1] Tryz.func142 U U U U U ?_
 obtain ⟨r86,asS,h0⟩:=ob h0
 refine sr (s1 (jA (v:=.d .dB) U) (sa U (sn (sq (sr (sm U (c0 (Bn p0 _ asS) wf U U U agK U (fun _=>rfl) (fun _=>rfl) (s1 (nt U) (sn ?_)))))))))
 refine cB h0 U (fun h0=>?_) (fun h0=>?_)
 ·have q:=si h0;subst q
  exact sr (s1 (jA (v:=.d .dB) U) (sa U (sn (aM (bM (Wk.env (e':=[(4,.d ((eL 3 au) ([]:List aj))),(5,.d (eI (1:Int)))]) (EW.cons (AW.nl _) (EW.cons (AW.refl _) EW.nil))) (bq U (bq U aW)) U)))))
 ·refine sk (sr (s1 (yA (k:=0) apS U) (sn (sq (SC.dw h0 (fun y=>⟨mk 38 [(0,.d ((eL 7 aJ) p0)),(6,.ref 0 0 0),(21,.d (eB y.1))],[.box (.slc 1 3 0 y.2.length none),.row 3 (List.map au y.2) true]⟩) ?_ ?_)))))
  ·intro auJ h1
   refine aO (sm U (s1 (len U U U (iV vk)) (s1 (bi U U dx) (sm U (sp h1 (fun h1=>?_) (fun h1=>?_))))))
   ·have q:=si h1;subst q
    exact kw U (kw U (kw U (kw U (kw U (s1 (pkt U U) (SO.nil ((Wk.trans (Wk.nI (σ':=[.box (.d .dB),.row 3 (List.map au ([]:List aj)) true]) (.row 3 [] true) (fun _ hh=>by cases hh) U) (Wk.trans (Wk.Vd (id:=0) (y:=.slc 1 3 0 (([]:List aj).length) none) (σ':=[.box (.slc 1 3 0 (([]:List aj).length) none),.row 3 (List.map au ([]:List aj)) true]) U (jX.cons (AW.mH _ _ _) jX.nil) U) (wq U))))))))))
   ·obtain ⟨⟨r94,Pp⟩,ahO,h1⟩:=ob h1;have q:=si h1;subst q
    exact gw U (mv U) (gw U (mv U) (gw U (mkf U U) (cq [0] [1] (Rt p0 p1 _ ahO) (ww U) U U U aoo U U U U U U U U (gw U (nt U) (s1 (eT U U) (SO.nil ((wq U))))))))
  ·rintro ⟨y90,y91⟩ h0
   refine cB h0 U (fun h0=>?_) (fun h0=>?_)
   ·have q:=si h0;subst q
    exact sr (s1 (jA (v:=.d .dB) U) (sa U (sn (aM (bM (Wk.trans (Wk.env (e':=[(4,.d ((eL 3 au) ([]:List aj))),(5,.d (eI (2:Int)))]) (EW.cons (AW.nl _) (EW.cons (AW.refl _) EW.nil))) (aC (e':=[(4,.d ((eL 3 au) ([]:List aj))),(5,.d (eI (2:Int)))]) [] [] U)) (bq U (bq U aW)) U)))))
   ·refine sk (SC.dw h0 (fun y=>⟨mk 38 [(6,.ref 0 0 0)],[.box (.slc 1 3 0 y.length none),.row 3 (List.map au y) true]⟩) ?_ ?_)
    ·intro ar7 h1
     obtain ⟨ank,h1⟩:=gd h1;obtain ⟨ahb,h2,h1⟩:=ob h1
     refine sr (sm U (s1 (bK U (ak ni zk U U)) (s1 (len U U U (gN jJ)) (s1 (NT U U U U (XP ng qH ank)) (s1 (len U U U (bN ng)) (sm U (sn (SC.blk (SC.eH h2 (fun y=>⟨mk 38 [(6,.ref 0 0 0),(25,.d ((eL 7 aJ) (List.drop (y91.length:Int).toNat p0))),(26,.d (eI ((List.drop (y91.length:Int).toNat p0).length:Int))),(27,.d (eI y.1))],[.box (.slc 1 3 0 y.2.length none),.row 3 (List.map au y.2) true]⟩) (wq U) ?_)))))))))
     intro n125
     rintro ⟨y115,iR⟩ ag2 h3 hv3
     refine sr (s1 (bi U U bB) (sn (sq (cB h3 U (fun h3=>?_) (fun h3=>?_)))))
     ·obtain ⟨gD,SL,h3⟩:=ob h3;obtain ⟨SY,h3⟩:=gd h3
      refine sk (sq (SC.blk (sr (s1 (kV U U ng qH (aB SL).1 (bI (aB SL).2) U) (s1 (bK (v:=.d (aJ gD)) U (bY qH Hl U)) (s1 (yA (k:=2) ajs U) (s0 (jF U U (sB (d':=.d (aJ gD)) qH U U U U U U U)) (sn (aO ?_)))))))))
      refine s1 (bK U (ak ni zk U U)) (s1 (far (k:=4) U UY gK U) (s1 (bK (v:=.d (au gD.Default)) U (ak gK ny U U)) (s1 (rX (k:=3) (ds:=List.map au [gD.Default]) (off:=0) (l':=[gD.Default].length) U jJ EO U U (by rfl) U U U) (s1 (app U U U U YM (aF (f:=au) (xs:=iR) (k:=4) U jJ EO U (dU (xs:=[gD.Default]) U) SY U)) (s0 (jF U U (sC ni U U U U U U)) (SO.nil ?_))))))
      change SC _ _ _ _ _
      have q:=si h3;subst q
      exact aO (s1 (bi U U bH) (sm U (SO.nil (lf (aC [0,4] [0] U)))))
     ·have q:=si h3;subst q;have q:_=_:=hv3;subst q;have q:=si h1;subst q
      exact bZ ((wq U))
    ·rintro XC h0
     have q:=si h0;subst q
     exact sr (s1 (bK U (ak ni zk U U)) (sa U (sa U (sn (aM (bM (Wk.trans (Wk.og (i:=4) (x:=.slc 1 3 0 XC.length none) U U (fF U U U)) (aC (e':=[(4,.d ((eL 3 au) XC)),(5,.d (eI (0:Int)))]) [] [] U)) (bq U (bq U aW)) U))))))
noncomputable def r9 (p0:List Int):Option ((List aX)):=
 ah (α:=(List aX))
 (ah (α:=(List aX))
 (loop (Y:=(List aX)×Int) (W:=(List aX)) (fun (xO,AX)=>
 bif (decide (AX < (p0.length:Int))) then
 ah (bP p0 AX) fun v83=>
 bif decide ((xO.length+[(aX.mk v83 false)].length)*16≤room) then
 some (Sum.inl ((xO++[(aX.mk v83 false)]),(bL (AX+(1:Int)))))
 else none
 else
 some (Sum.inr xO)) (([]:List aX),(0:Int)))
 (fun e=>some e))
 fun IG=>
 some IG
theorem Pf (p0:List Int) (r:(List aX)) (h0:r9 p0=some r):aT Tryz.prog 146 [.d ((eL 1 eI) p0)] [] (.d ((eL 2 aK) r)) []:=by
 unfold r9 at h0
 refine fn0 [0] Tryz.func146 U U U U U ?_
 refine sr (s1 (jA (v:=.d .dB) U) (sn (sr (s1 (jA (v:=.d .dB) U) (sn (SC.dw h0 (fun y=>⟨mk 19 [(3,.slc 0 2 0 y.length none)],[.row 2 (List.map aK y) true]⟩) ?_ ?_))))))
 ·intro V7 h1
  obtain ⟨V5,h2,h1⟩:=ob h1
  refine sr (sm U (s1 (len U U U (bN iJ)) (sm U (sn (SC.blk (SC.eH h2 (fun y=>⟨mk 19 [(3,.slc 0 2 0 y.1.length none),(6,.d ((eL 1 eI) p0)),(7,.d (eI (p0.length:Int))),(8,.d (eI y.2))],[.row 2 (List.map aK y.1) true]⟩) (Wk.trans (Wk.nI (σ':=[.row 2 (List.map aK ([]:List aX)) true]) (.row 2 [] true) (fun _ hh=>by cases hh) U) (Wk.trans (Wk.env (e':=[(3,.slc 0 2 0 (([]:List aX).length) none),(6,.d ((eL 1 eI) p0)),(7,.d (eI (p0.length:Int))),(8,.d (eI (0:Int)))]) (EW.cons (AW.mH _ _ _) (EW.cons (AW.refl _) (EW.cons (AW.refl _) (EW.cons (AW.refl _) EW.nil))))) (wq U))) ?_))))))
  intro n85
  rintro ⟨xO,AX⟩ VL h3 hv3
  refine sr (s1 (bi U U bB) (sn (sq (cB h3 U (fun h3=>?_) (fun h3=>?_)))))
  ·obtain ⟨v83,Gi,h3⟩:=ob h3;obtain ⟨UQ,h3⟩:=gd h3
   refine sk (sq (SC.blk (sr (s1 (kV U U iJ dH (aB Gi).1 (bI (aB Gi).2) U) (s1 (bK U (bY dH gV U)) (sa U (sn (aO (sm U ?_)))))))))
   refine sm U (s1 (vg U (acp v83)) (s1 (rX (k:=1) (ds:=List.map aK [(aX.mk v83 false)]) (off:=0) (l':=[(aX.mk v83 false)].length) U xg YF U U (by rfl) U U U) (s1 (app U U U U bc28 (aF (f:=aK) (xs:=xO) (k:=2) U xg YF U (dU (xs:=[(aX.mk v83 false)]) U) UQ U)) (sa U (SO.nil ?_)))))
   change SC _ _ _ _ _
   have q:=si h3;subst q
   exact aO (s1 (bi U U bH) (sm U (SO.nil (lf (aC [2] [2] U)))))
  ·have q:=si h3;subst q;have q:_=_:=hv3;subst q;have q:=si h1;subst q
   exact bZ ((wq U))
 ·rintro IG h0
  have q:=si h0;subst q
  exact sr (sm U (sa U (sn (aM (bM (Wk.trans (Wk.og (i:=2) (x:=.slc 0 2 0 IG.length none) U U (fF U U U)) (aC (e':=[(2,.d ((eL 2 aK) IG))]) [] [] U)) (bq U aW) U)))))
noncomputable def wB (p0:List aA) (p1:List aj):Option Int:=
 ah (α:=Bool)
 (ah (lI p0) fun r89=>
 bif (!r89) then
 some true
 else
 some ((p1.length:Int) != (p0.length:Int)))
 fun y86=>
 bif y86 then
 some (1:Int)
 else
 fP (Y:=Unit) (E:=Int)
 (ah (α:=Unit⊕Int)
 (loop (Y:=Int) (W:=Unit⊕Int) (fun y112=>
 bif (decide (y112 < (p1.length:Int))) then
 ah (bP p1 y112) fun He=>
 ah (bP p0 y112) fun KC=>
 ah (kJ KC He) fun BA=>
 bif (BA != (0:Int)) then
 some (Sum.inr (Sum.inr BA))
 else
 some (Sum.inl (bL (y112+(1:Int))))
 else
 some (Sum.inr (Sum.inl ()))) (0:Int))
 (Sum.elim (fun e=>some (Sum.inl e)) (fun e=>some (Sum.inr e))))
 (fun _=>
 some (0:Int))
 (fun e=>some e)
theorem Ru (p0:List aA) (p1:List aj) (r:Int) (h0:wB p0 p1=some r):aT Tryz.prog 204 [.d ((eL 7 aJ) p0),.d ((eL 3 au) p1)] [] (.d (eI r)) []:=by
 unfold wB at h0
 refine fn0 [0,1] Tryz.func204 U U U U U ?_
 refine sr (sa U (sn (sq (SC.dw h0 (fun y=>⟨mk 35 [(0,.d ((eL 7 aJ) p0)),(1,.d ((eL 3 au) p1)),(17,.d (eB y))],[]⟩) ?_ ?_))))
 ·intro afn h1
  obtain ⟨r89,ahP,h1⟩:=ob h1
  refine aO (sm U (c0 (Bn p0 _ ahP) wf U U U agK U (fun _=>rfl) (fun _=>rfl) (s1 (nt U) (sm U (sp h1 (fun h1=>?_) (fun h1=>?_))))))
  ·have q:=si h1;subst q
   exact kw U (kw U (kw U (kw U (kw U (s1 (pkt U U) (SO.nil ((wq U))))))))
  ·have q:=si h1;subst q
   exact gw U (mv U) (gw U (len U U U (bN jJ)) (gw U (mv U) (gw U (len U U U (bN ng)) (gw U (bi U U dA) (s1 (eT U U) (SO.nil ((wq U))))))))
 ·rintro y86 h0
  refine cB h0 U (fun h0=>?_) (fun h0=>?_)
  ·have q:=si h0;subst q
   exact sr (sa U (sn (aM (bM (Wk.refl _) (bq U aW) U))))
  ·refine sk (SC.seqB h0 (fun y=>⟨mk 35 [],[]⟩) ?_ ?_)
   ·intro ahg h1 h0
    obtain ⟨ahc,h2,h1⟩:=ob h1
    refine sr (sm U (s1 (len U U U (bN jJ)) (sm U (sn (SC.blk (SC.eH h2 (fun y=>⟨mk 35 [(0,.d ((eL 7 aJ) p0)),(18,.d ((eL 3 au) p1)),(19,.d (eI (p1.length:Int))),(20,.d (eI y))],[]⟩) (wq U) ?_))))))
    intro n124
    rintro y112 ag3 h3 hv3
    refine sr (s1 (bi U U bB) (sn (sq (cB h3 U (fun h3=>?_) (fun h3=>?_)))))
    ·obtain ⟨He,SQ,h3⟩:=ob h3;obtain ⟨KC,SN,h3⟩:=ob h3;obtain ⟨BA,SV,h3⟩:=ob h3
     refine sk (sq (SC.blk (sr (sm U (s1 (kV U U jJ gK (aB SQ).1 (bI (aB SQ).2) U) (s1 (bK (v:=.d (au He)) U (bY gK ny U)) (s1 (yA (k:=0) Xm U) (sa U (s0 (jF U U (sB (d':=.d (au He)) gK U U U U U U U)) ?_)))))))))
     refine sn (sd (by kernel_rfl) (t1 aH (mv U) U (t1 aH (mv U) U (t1 aH (kV U U ng qH (aB SN).1 (bI (aB SN).2) U) U (t1 aH (bK (v:=.d (aJ KC)) U (bY qH Hl U)) U (t1 ([0],false) (bK (v:=.d (au He)) U (ak gK ny U U)) U (Hg (xP KC He _ SV) wf U U U acg U (fun _=>rfl) (fun _=>rfl) (t1 aH (jA U) U (tn (by decide +kernel) ?_)))))))))
     refine sr (sm U (s1 (bi U U dA) (sn (cB h3 U (fun h3=>?_) (fun h3=>?_)))))
     ·have q:=si h3;subst q;have q:_=_:=hv3;subst q;have q:=si h1;subst q;have q:=si h0;subst q
      exact sr (sm U (sa U (sn (aM (bM (aC (e':=[(4,.d (eI BA))]) [] [] U) (bq U aW) U)))))
     ·refine bR ?_
      change SC _ _ _ _ _
      have q:=si h3;subst q
      exact aO (s1 (bi U U bH) (sm U (SO.nil (lf (aC [] [] U)))))
    ·have q:=si h3;subst q;have q:_=_:=hv3;subst q;have q:=si h1;subst q
     exact bZ (lf (wq U))
   ·intro _ h0
    have q:=si h0;subst q
    exact sr (sa U (sn (aM (bM (Wk.refl _) (bq U aW) U))))
noncomputable def lZ (p0:aj):Option Bool:=
 ah (lG p0) fun r7=>
 some (!r7)
theorem JN (p0:aj) (r:Bool) (h0:lZ p0=some r):aT Tryz.prog 185 [.d (au p0)] [] (.d (eB r)) []:=by
 unfold lZ at h0
 refine fn0 [0] Tryz.func185 U U U U U ?_
 obtain ⟨r7,JQ,h0⟩:=ob h0;have q:=si h0;subst q
 refine sr (s1 (nN (k:=0) U U U) (sa U (sn (sr (s1 (bK (v:=.d (au p0)) U (ak gK ny U U)) (c0 (vS p0 _ JQ) wf U U U ach U (fun _=>rfl) (fun _=>rfl) (s1 (nt U) (sa U (sn ?_)))))))))
 exact aM (bM (aC (e':=[(2,.d (eB (!r7)))]) [] [] U) (bq U aW) U)
noncomputable def dN (p0:List aj):Option Int:=
 fP (Y:=Unit) (E:=Int)
 (ah (α:=Unit⊕Int)
 (loop (Y:=Int) (W:=Unit⊕Int) (fun GR=>
 bif (decide (GR < (p0.length:Int))) then
 ah (bP p0 GR) fun v85=>
 ah (lZ v85) fun XY=>
 bif XY then
 some (Sum.inr (Sum.inr GR))
 else
 some (Sum.inl (bL (GR+(1:Int))))
 else
 some (Sum.inr (Sum.inl ()))) (0:Int))
 (Sum.elim (fun e=>some (Sum.inl e)) (fun e=>some (Sum.inr e))))
 (fun _=>
 some (-1:Int))
 (fun e=>some e)
theorem nM (p0:List aj) (r:Int) (h0:dN p0=some r):aT Tryz.prog 208 [.d ((eL 3 au) p0),.fn (.func 185) [] []] [] (.d (eI r)) []:=by
 unfold dN at h0
 refine fn0 [0,1] Tryz.func208 U U U U U ?_
 refine sr (sa U (sn (SC.seqB h0 (fun y=>⟨mk 19 [],[]⟩) ?_ ?_)))
 ·intro V6 h1 h0
  obtain ⟨aai,h2,h1⟩:=ob h1
  refine sr (sm U (s1 (len U U U (bN jJ)) (sm U (sn (SC.blk (SC.eH h2 (fun y=>⟨mk 19 [(0,.d ((eL 3 au) p0)),(1,.fn (.func 185) [] []),(7,.d (eI (p0.length:Int))),(8,.d (eI y))],[]⟩) (wq U) ?_))))))
  intro n88
  rintro GR ZN h3 hv3
  refine sr (s1 (bi U U bB) (sn (sq (cB h3 U (fun h3=>?_) (fun h3=>?_)))))
  ·obtain ⟨v85,LK,h3⟩:=ob h3;obtain ⟨XY,UM,h3⟩:=ob h3
   refine sk (sq (SC.blk (sr (sm U (sa U (sn (sr (sm U (sm U ?_)))))))))
   refine sm U (s1 (kV U U jJ gK (aB LK).1 (bI (aB LK).2) U) (s1 (bK (v:=.d (au v85)) U (bY gK ny U)) (c0 (JN v85 _ UM) wf U U U aoj U (fun _=>rfl) (fun _=>rfl) (sn (cB h3 U (fun h3=>?_) (fun h3=>?_))))))
   ·have q:=si h3;subst q;have q:_=_:=hv3;subst q;have q:=si h1;subst q;have q:=si h0;subst q
    exact sr (sm U (sa U (sn (aM (bM (Wk.refl _) (bq U aW) U)))))
   ·refine bR ?_
    change SC _ _ _ _ _
    have q:=si h3;subst q
    exact aO (s1 (bi U U bH) (sm U (SO.nil (lf (wq U)))))
  ·have q:=si h3;subst q;have q:_=_:=hv3;subst q;have q:=si h1;subst q
   exact bZ (lf (wq U))
 ·intro _ h0
  have q:=si h0;subst q
  exact sr (sa U (sn (aM (bM (Wk.refl _) (bq U aW) U))))
noncomputable def dz (p0:List aj):Option Bool:=
 ah (dN p0) fun r7=>
 some (decide (r7≥(0:Int)))
theorem lS (p0:List aj) (r:Bool) (h0:dz p0=some r):aT Tryz.prog 184 [.d ((eL 3 au) p0),.fn (.func 185) [] []] [] (.d (eB r)) []:=by
 unfold dz at h0
 refine fn0 [0,1] Tryz.func184 U U U U U ?_
 obtain ⟨r7,JQ,h0⟩:=ob h0;have q:=si h0;subst q
 refine sr (sa U (sn (sr (sm U (sm U (c0 (nM p0 _ JQ) wf U U U an7 U (fun _=>rfl) (fun _=>rfl) (s1 (bi U U fU) (sa U (sn ?_)))))))))
 exact aM (bM (Wk.refl _) (bq U aW) U)
noncomputable def vF (p0:List UInt8):Option Unit:=
 bif decide (p0.length*1≤room) then
 some ()
 else none
theorem Ah (p0:List UInt8) (r:Unit) (h0:vF p0=some r):aT Tryz.prog 220 [.ref 0 0 0,.d ((eL 1 dX) p0)] [.box (.d (.agg [.dB]))] (.tuple []) [.box (.agg [.slc 1 1 0 p0.length none]),.row 1 (List.map dX p0) true]:=by
 unfold vF at h0
 refine fn0 [0,1] Tryz.func220 U U U U U ?_
 obtain ⟨hg3,h0⟩:=gd h0;have q:=si h0;subst q
 refine sr (sm U (s1 (bi (v:=.d (eB true)) U U (fun _ _=>CF aah)) (sn (cT U (aO (sm U (sm U (s1 (lu U) (s1 (far (k:=0) U Gm dV U) ?_)))))))))
 exact s1 (bK U (ak dV lH U U)) (sm U (s1 (app U U U U Co (aN (f:=dX) (k:=1) eZ LZ yg hg3 U)) (s1 (lu U) (s1 (far (k:=0) U Gm dV U) (s0 (jF U U (sB (d':=.agg [.slc 1 1 0 p0.length none]) dV U U U U U U U)) (SO.nil (vH (Wk.refl _) aW U)))))))
noncomputable def mW (p0:Bool):Option ((List UInt8)):=
 bif p0 then
 ah (vF [(1:UInt8)]) fun _=>
 some [(1:UInt8)]
 else
 ah (vF [(0:UInt8)]) fun _=>
 some [(0:UInt8)]
theorem H6 (p0:Bool) (r:(List UInt8)) (h0:mW p0=some r):aT Tryz.prog 209 [.ref 0 0 0,.d (eB p0)] [.box (.d (.agg [.dB]))] (.tuple []) [.box (.agg [.slc 1 1 0 r.length none]),.row 1 (List.map dX r) true]:=by
 unfold mW at h0
 refine fn0 [0,1] Tryz.func209 U U U U U ?_
 refine sr (sm U (sn (cB h0 U (fun h0=>?_) (fun h0=>?_))))
 ·obtain ⟨_,JQ,h0⟩:=ob h0;have q:=si h0;subst q
  exact aO (sm U (s1 (rX (k:=1) (ds:=List.map dX [(1:UInt8)]) (off:=0) (l':=[(1:UInt8)].length) U eZ LZ U U (by rfl) U U U) (cq (args':=[.ref 0 0 0,.slc 1 1 0 ([(1:UInt8)].length) none]) (lF:=[.box (.d (.agg [.dB])),.row 1 (List.map dX [(1:UInt8)]) true]) [0,1] [2] (aT.og (iX.keep (iX.og (fF U U U) (iX.nil _))) (fq [0] [2] (Ah [(1:UInt8)] _ JQ) U U U U U U U U)) wf U U U W9 U U U U U U U U (SO.nil (vH (aC (e':=[]) [0,2] [0] U) aW U)))))
 ·obtain ⟨_,hq7,h0⟩:=ob h0;have q:=si h0;subst q
  exact aO (sm U (s1 (rX (k:=1) (ds:=List.map dX [(0:UInt8)]) (off:=0) (l':=[(0:UInt8)].length) U eZ LZ U U (by rfl) U U U) (cq (args':=[.ref 0 0 0,.slc 1 1 0 ([(0:UInt8)].length) none]) (lF:=[.box (.d (.agg [.dB])),.row 1 (List.map dX [(0:UInt8)]) true]) [0,1] [2] (aT.og (iX.keep (iX.og (fF U U U) (iX.nil _))) (fq [0] [2] (Ah [(0:UInt8)] _ hq7) U U U U U U U U)) wf U U U W9 U U U U U U U U (SO.nil (vH (aC (e':=[]) [0,2] [0] U) aW U)))))
noncomputable def kT (p0:List UInt8) (p1:List UInt8):Option Unit:=
 bif decide ((p1.length+p0.length)*1≤room) then
 some ()
 else none
theorem xB (p0:List UInt8) (p1:List UInt8) (r:Unit) (h0:kT p0 p1=some r):aT Tryz.prog 220 [.ref 0 0 0,.d ((eL 1 dX) p0)] [.box (.agg [.slc 1 1 0 p1.length none]),.row 1 (List.map dX p1) true] (.tuple []) [.box (.agg [.slc 2 1 0 ((p1++p0).length) none]),.dead,.row 1 (List.map dX (p1++p0)) true]:=by
 unfold kT at h0
 refine fn0 [0,1] Tryz.func220 U U U U U ?_
 obtain ⟨hg3,h0⟩:=gd h0;have q:=si h0;subst q
 refine sr (sm U (s1 (bi (v:=.d (eB true)) U U (fun _ _=>CF aah)) (sn (cT U (aO (sm U (sm U (s1 (lu U) (s1 (far (k:=0) U Gm dV U) ?_)))))))))
 exact s1 (bK U (ak dV lH U U)) (sm U (s1 (app U U U U Co (aF (f:=dX) (xs:=p1) (k:=2) U eZ LZ U yg hg3 U)) (s1 (lu U) (s1 (far (k:=0) U Gm dV U) (s0 (jF U U (sB (d':=.agg [.slc 2 1 0 ((p1++p0).length) none]) dV U U U U U U U)) (SO.nil (vH (Wk.refl _) aW U)))))))
noncomputable def oI (p0:UInt16) (p1:List UInt8):Option Unit:=
 ah (kT [((fK p0 8).toUInt8),(p0.toUInt8)] p1) fun _=>
 some ()
theorem Ak (p0:UInt16) (p1:List UInt8) (r:Unit) (h0:oI p0 p1=some r):aT Tryz.prog 225 [.ref 0 0 0,.d (YH p0)] [.box (.agg [.slc 1 1 0 p1.length none]),.row 1 (List.map dX p1) true] (.tuple []) [.box (.agg [.slc 2 1 0 ((p1++[((fK p0 8).toUInt8),(p0.toUInt8)]).length) none]),.dead,.row 1 (List.map dX (p1++[((fK p0 8).toUInt8),(p0.toUInt8)])) true]:=by
 unfold oI at h0
 refine fn0 [0,1] Tryz.func225 U U U U U ?_
 obtain ⟨_,hq3,h0⟩:=ob h0;have q:=si h0;subst q
 refine aO (sm U (sm U (s1 (bi (v:=.d (YH (fK p0 8))) U U (fun X Y=>YW _ X Y p0 _ (by decide))) (s1 (AZ U (Ow VY EU (fK p0 8))) (sm U (s1 (AZ U (Ow VY EU p0)) (s1 (rX (k:=2) (ds:=List.map dX [((fK p0 8).toUInt8),(p0.toUInt8)]) (off:=0) (l':=[((fK p0 8).toUInt8),(p0.toUInt8)].length) U eZ LZ U U (by rfl) U U U) (cq (args':=[.ref 0 0 0,.slc 1 1 0 ([((fK p0 8).toUInt8),(p0.toUInt8)].length) none]) (lF:=[.box (.agg [.slc 2 1 0 p1.length none]),.row 1 (List.map dX [((fK p0 8).toUInt8),(p0.toUInt8)]) true,.row 1 (List.map dX p1) true]) [0,2,1] [3] (aT.og (iX.keep (iX.og (fF U U U) (iX.nil _))) (fq [0,2] [3] (xB [((fK p0 8).toUInt8),(p0.toUInt8)] p1 _ hq3) U U U U U U U U)) wf U U U W9 U U U U U U U U (SO.nil ?_)))))))))
 exact vH (aC (e':=[]) [0,1,3] [0,1] U) aW U
noncomputable def oH (p0:UInt32) (p1:List UInt8):Option Unit:=
 ah (oI ((fT p0 16).toUInt16) p1) fun _=>
 ah (oI (p0.toUInt16) (p1++[((fK ((fT p0 16).toUInt16) 8).toUInt8),(((fT p0 16).toUInt16).toUInt8)])) fun _=>
 some ()
theorem Aj (p0:UInt32) (p1:List UInt8) (r:Unit) (h0:oH p0 p1=some r):aT Tryz.prog 221 [.ref 0 0 0,.d (YG p0)] [.box (.agg [.slc 1 1 0 p1.length none]),.row 1 (List.map dX p1) true] (.tuple []) [.box (.agg [.slc 2 1 0 (((p1++[((fK ((fT p0 16).toUInt16) 8).toUInt8),(((fT p0 16).toUInt16).toUInt8)])++[((fK (p0.toUInt16) 8).toUInt8),((p0.toUInt16).toUInt8)]).length) none]),.dead,.row 1 (List.map dX ((p1++[((fK ((fT p0 16).toUInt16) 8).toUInt8),(((fT p0 16).toUInt16).toUInt8)])++[((fK (p0.toUInt16) 8).toUInt8),((p0.toUInt16).toUInt8)])) true]:=by
 unfold oH at h0
 refine fn0 [0,1] Tryz.func221 U U U U U ?_
 obtain ⟨_,hq5,h0⟩:=ob h0;obtain ⟨_,JQ,h0⟩:=ob h0;have q:=si h0;subst q
 refine sr (sm U (sm U (s1 (bi (v:=.d (YG (fT p0 16))) U U (fun X Y=>YV _ X Y p0 _ (by decide))) (s1 (AZ U (L9 VZ VY (fT p0 16))) (cq [0,1] [2] (Ak ((fT p0 16).toUInt16) p1 _ hq5) wf U U U agD U U U U U U U U (sn (aO (sm U (sm U ?_)))))))))
 exact s1 (AZ U (L9 VZ VY p0)) (cq [0,2] [3] (Ak (p0.toUInt16) (p1++[((fK ((fT p0 16).toUInt16) 8).toUInt8),(((fT p0 16).toUInt16).toUInt8)]) _ JQ) wf U U U agD U U U U U U U U (SO.nil (vH (aC (e':=[]) [0,1,3] [0,1] U) aW U)))
noncomputable def kD (p0:UInt64) (p1:List UInt8):Option Unit:=
 ah (oH ((dO p0 32).toUInt32) p1) fun _=>
 ah (oH (p0.toUInt32) ((p1++[((fK ((fT ((dO p0 32).toUInt32) 16).toUInt16) 8).toUInt8),(((fT ((dO p0 32).toUInt32) 16).toUInt16).toUInt8)])++[((fK (((dO p0 32).toUInt32).toUInt16) 8).toUInt8),((((dO p0 32).toUInt32).toUInt16).toUInt8)])) fun _=>
 some ()
theorem Ai (p0:UInt64) (p1:List UInt8) (r:Unit) (h0:kD p0 p1=some r):aT Tryz.prog 210 [.ref 0 0 0,.d (eX p0)] [.box (.agg [.slc 1 1 0 p1.length none]),.row 1 (List.map dX p1) true] (.tuple []) [.box (.agg [.slc 2 1 0 (((((p1++[((fK ((fT ((dO p0 32).toUInt32) 16).toUInt16) 8).toUInt8),(((fT ((dO p0 32).toUInt32) 16).toUInt16).toUInt8)])++[((fK (((dO p0 32).toUInt32).toUInt16) 8).toUInt8),((((dO p0 32).toUInt32).toUInt16).toUInt8)])++[((fK ((fT (p0.toUInt32) 16).toUInt16) 8).toUInt8),(((fT (p0.toUInt32) 16).toUInt16).toUInt8)])++[((fK ((p0.toUInt32).toUInt16) 8).toUInt8),(((p0.toUInt32).toUInt16).toUInt8)]).length) none]),.dead,.row 1 (List.map dX ((((p1++[((fK ((fT ((dO p0 32).toUInt32) 16).toUInt16) 8).toUInt8),(((fT ((dO p0 32).toUInt32) 16).toUInt16).toUInt8)])++[((fK (((dO p0 32).toUInt32).toUInt16) 8).toUInt8),((((dO p0 32).toUInt32).toUInt16).toUInt8)])++[((fK ((fT (p0.toUInt32) 16).toUInt16) 8).toUInt8),(((fT (p0.toUInt32) 16).toUInt16).toUInt8)])++[((fK ((p0.toUInt32).toUInt16) 8).toUInt8),(((p0.toUInt32).toUInt16).toUInt8)])) true]:=by
 unfold kD at h0
 refine fn0 [0,1] Tryz.func210 U U U U U ?_
 obtain ⟨_,hq5,h0⟩:=ob h0;obtain ⟨_,JQ,h0⟩:=ob h0;have q:=si h0;subst q
 refine sr (sm U (sm U (s1 (bi (v:=.d (eX (dO p0 32))) U U (fun X Y=>CV _ X Y p0 _ (by decide))) (s1 (AZ U (L6 Bh VZ (dO p0 32))) (cq [0,1] [2] (Aj ((dO p0 32).toUInt32) p1 _ hq5) wf U U U agF U U U U U U U U (sn (aO (sm U (sm U ?_)))))))))
 exact s1 (AZ U (L6 Bh VZ p0)) (cq [0,2] [3] (Aj (p0.toUInt32) ((p1++[((fK ((fT ((dO p0 32).toUInt32) 16).toUInt16) 8).toUInt8),(((fT ((dO p0 32).toUInt32) 16).toUInt16).toUInt8)])++[((fK (((dO p0 32).toUInt32).toUInt16) 8).toUInt8),((((dO p0 32).toUInt32).toUInt16).toUInt8)]) _ JQ) wf U U U agF U U U U U U U U (SO.nil (vH (aC (e':=[]) [0,1,3] [0,1] U) aW U)))
noncomputable def qD (p0:UInt8) (p1:List UInt8):Option Unit:=
 ah (kT [p0] p1) fun _=>
 some ()
theorem Lb (p0:UInt8) (p1:List UInt8) (r:Unit) (h0:qD p0 p1=some r):aT Tryz.prog 211 [.ref 0 0 0,.d (dX p0)] [.box (.agg [.slc 1 1 0 p1.length none]),.row 1 (List.map dX p1) true] (.tuple []) [.box (.agg [.slc 2 1 0 ((p1++[p0]).length) none]),.dead,.row 1 (List.map dX (p1++[p0])) true]:=by
 unfold qD at h0
 refine fn0 [0,1] Tryz.func211 U U U U U ?_
 obtain ⟨_,hq3,h0⟩:=ob h0;have q:=si h0;subst q
 exact aO (sm U (sm U (s1 (rX (k:=2) (ds:=List.map dX [p0]) (off:=0) (l':=[p0].length) U eZ LZ U U (by rfl) U U U) (cq (args':=[.ref 0 0 0,.slc 1 1 0 ([p0].length) none]) (lF:=[.box (.agg [.slc 2 1 0 p1.length none]),.row 1 (List.map dX [p0]) true,.row 1 (List.map dX p1) true]) [0,2,1] [3] (aT.og (iX.keep (iX.og (fF U U U) (iX.nil _))) (fq [0,2] [3] (xB [p0] p1 _ hq3) U U U U U U U U)) wf U U U W9 U U U U U U U U (SO.nil (vH (aC (e':=[]) [0,1,3] [0,1] U) aW U))))))
noncomputable def jP (p0:List UInt8):Option Unit:=
 bif decide (p0.length*1≤room) then
 some ()
 else none
theorem F3 (p0:List UInt8) (r:Unit) (h0:jP p0=some r):aT Tryz.prog 212 [.ref 0 0 0] [.box (.agg [.slc 1 1 0 p0.length none]),.row 1 (List.map dX p0) true] (.slc 2 1 0 p0.length none) [.box (.agg [.slc 1 1 0 p0.length none]),.row 1 (List.map dX p0) true,.row 1 (List.map dX p0) true]:=by
 unfold jP at h0
 refine fn0 [0] Tryz.func212 U U U U U ?_
 obtain ⟨hg3,h0⟩:=gd h0;have q:=si h0;subst q
 refine sr (s1 (jA (v:=.d .dB) U) (sn (sq (sr (sm U (s1 (bi (v:=.d (eB false)) U U (fun _ _=>zF aah)) (sn (cF U (sk ?_)))))))))
 exact sr (sm U (s1 (lu U) (s1 (far (k:=0) U Gm dV U) (s1 (bK U (ak dV lH U U)) (s1 (app U U U U Co (aN (f:=dX) (k:=2) eZ LZ (dU (xs:=p0) U) hg3 U)) (sa U (sn (aM (bM (Wk.refl _) (bq U aW) U)))))))))
noncomputable def lY (p0:List UInt8):Option ((List UInt8)):=
 ah (α:=(List UInt8))
 (ah (α:=(List UInt8))
 (loop (Y:=(List UInt8)×Int) (W:=(List UInt8)) (fun (xO,AX)=>
 bif (decide (AX < (p0.length:Int))) then
 ah (bP xO AX) fun v83=>
 ah (bP xO AX) fun v84=>
 some (Sum.inl ((List.set xO AX.toNat (~~~ v83)),(bL (AX+(1:Int)))))
 else
 some (Sum.inr xO)) (p0,(0:Int)))
 (fun e=>some e))
 fun IG=>
 some IG
theorem Nw (p0:List UInt8) (r:(List UInt8)) (h0:lY p0=some r):aT Tryz.prog 181 [.slc 0 1 0 p0.length none] [.row 1 (List.map dX p0) true] (.slc 0 1 0 r.length none) [.row 1 (List.map dX r) true]:=by
 unfold lY at h0
 refine fn0 [0] Tryz.func181 U U U U U ?_
 refine sr (s1 (jA (v:=.d .dB) U) (sn (SC.dw h0 (fun y=>⟨mk 19 [(0,.slc 0 1 0 y.length none)],[.row 1 (List.map dX y) true]⟩) ?_ ?_)))
 ·intro V7 h1
  obtain ⟨V5,h2,h1⟩:=ob h1
  refine sr (sm U (s1 (len U U U (gN eZ)) (sm U (sn (SC.blk (SC.eH h2 (fun y=>⟨mk 19 [(0,.slc 0 1 0 y.1.length none),(5,.d (eI (p0.length:Int))),(6,.d (eI y.2))],[.row 1 (List.map dX y.1) true]⟩) (wq U) ?_))))))
  intro n85
  rintro ⟨xO,AX⟩ VL h3 hv3
  refine sr (s1 (bi U U bB) (sn (sq (cB h3 U (fun h3=>?_) (fun h3=>?_)))))
  ·obtain ⟨v83,Gi,h3⟩:=ob h3;obtain ⟨v84,ala,h3⟩:=ob h3
   refine sk (sq (SC.blk (sr (sm U (sa U (sn (aO (sm U (sm U ?_)))))))))
   refine sm U (sm U (s1 (Yz U U eZ Fx (pO Gi)) (s1 (bK U (jD Fx ta5 U (bI (aB Gi).2) U)) (s1 (uo U U (XH v83)) (s1 (Yz U U eZ Fx (pO ala)) (s0 (jF (b:=.d (dX (~~~ v83))) U U (sR (f:=dX) (v:=(~~~ v83)) Fx U U U U (aB ala).2 U U)) (SO.nil ?_)))))))
   change SC _ _ _ _ _
   have q:=si h3;subst q
   exact aO (s1 (bi U U bH) (sm U (SO.nil (lf (Wk.env (EW.cons (AW.slc U (by simp)) (EW.cons (AW.refl _) (EW.cons (AW.refl _) EW.nil))))))))
  ·have q:=si h3;subst q;have q:_=_:=hv3;subst q;have q:=si h1;subst q
   exact bZ ((wq U))
 ·rintro IG h0
  have q:=si h0;subst q
  exact sr (sm U (sa U (sn (aM (bM (Wk.refl _) (bq U aW) U)))))
end Lv
namespace Lv
open Option renaming bind→ah
open SC renaming region→aO,ret→aM,exit→bZ,skip→bR
open Go Go.Proofs
set_option maxRecDepth 100000
variable [bJ] [wY]
noncomputable def xG (p0:aj) (p1:Bool):Option ((List UInt8)):=
 ah (mW (p0.Kind != (0:Int))) fun DF=>
 ah (α:=(List UInt8))
 (bif (p0.Kind==(1:Int)) then
 ah (kD (p0.N ^^^ (9223372036854775808:UInt64)) DF) fun _=>
 some ((((DF++[((fK ((fT ((dO (p0.N ^^^ (9223372036854775808:UInt64)) 32).toUInt32) 16).toUInt16) 8).toUInt8),(((fT ((dO (p0.N ^^^ (9223372036854775808:UInt64)) 32).toUInt32) 16).toUInt16).toUInt8)])++[((fK (((dO (p0.N ^^^ (9223372036854775808:UInt64)) 32).toUInt32).toUInt16) 8).toUInt8),((((dO (p0.N ^^^ (9223372036854775808:UInt64)) 32).toUInt32).toUInt16).toUInt8)])++[((fK ((fT ((p0.N ^^^ (9223372036854775808:UInt64)).toUInt32) 16).toUInt16) 8).toUInt8),(((fT ((p0.N ^^^ (9223372036854775808:UInt64)).toUInt32) 16).toUInt16).toUInt8)])++[((fK (((p0.N ^^^ (9223372036854775808:UInt64)).toUInt32).toUInt16) 8).toUInt8),((((p0.N ^^^ (9223372036854775808:UInt64)).toUInt32).toUInt16).toUInt8)])
 else
 bif (p0.Kind==(2:Int)) then
 ah (kD p0.N DF) fun _=>
 some ((((DF++[((fK ((fT ((dO p0.N 32).toUInt32) 16).toUInt16) 8).toUInt8),(((fT ((dO p0.N 32).toUInt32) 16).toUInt16).toUInt8)])++[((fK (((dO p0.N 32).toUInt32).toUInt16) 8).toUInt8),((((dO p0.N 32).toUInt32).toUInt16).toUInt8)])++[((fK ((fT (p0.N.toUInt32) 16).toUInt16) 8).toUInt8),(((fT (p0.N.toUInt32) 16).toUInt16).toUInt8)])++[((fK ((p0.N.toUInt32).toUInt16) 8).toUInt8),(((p0.N.toUInt32).toUInt16).toUInt8)])
 else
 bif (p0.Kind==(3:Int)) then
 ah (qD (p0.N.toUInt8) DF) fun _=>
 some (DF++[(p0.N.toUInt8)])
 else
 some DF)
 fun QX=>
 ah (jP QX) fun _=>
 ah (α:=(List UInt8))
 (ah (α:=Bool)
 (bif (p0.Kind==(4:Int)) then
 some true
 else
 some (p0.Kind==(5:Int)))
 fun xO=>
 bif xO then
 ah (KP p0.S ([0]:List UInt8) ([0,255]:List UInt8)) fun r78=>
 bif decide ((QX.length+r78.length)*1≤room) then
 bif decide (((QX++r78).length+[(0:UInt8),(0:UInt8)].length)*1≤room) then
 some ((QX++r78)++[(0:UInt8),(0:UInt8)])
 else none
 else none
 else
 some QX)
 fun MO=>
 bif p1 then
 ah (lY MO) fun r82=>
 some r82
 else
 some MO
theorem UK (p0:aj) (p1:Bool) (r:(List UInt8)) (h0:xG p0 p1=some r):aT Tryz.prog 186 [.d (au p0),.d (eB p1)] [] (.d ((eL 1 dX) r)) []:=by
 unfold xG at h0
 refine fn0 [0,1] Tryz.func186 U U U U U ?_
 obtain ⟨DF,abG,h0⟩:=ob h0
 refine sr (s1 (nN (k:=0) U U U) (s1 (jA (v:=.d .dB) U) (sn (sr (s1 (yA (k:=1) ajv U) (sn (sr (s1 (far (k:=0) U iG dH U) (s1 (bK U (ak dH gV U U)) ?_)))))))))
 refine s1 (bi U U dA) (cq [1] [2] (H6 (p0.Kind != (0:Int)) _ abG) wf U U U an6 U U U U U U U U (sn (SC.dw h0 (fun y=>⟨mk 51 [(1,.d (eB p1)),(2,.ref 0 0 0),(5,.ref 1 0 0)],[.box (.d (au p0)),.box (.agg [.slc 2 1 0 y.length none]),.row 1 (List.map dX y) true]⟩) ?_ ?_)))
 ·intro auO h1
  refine sr (s1 (far (k:=0) U iG dH U) (s1 (bK U (ak dH gV U U)) (sn (SC.blk (sr (s1 (bi U U bD) (sa U (sn (cB h1 U (fun h1=>?_) (fun h1=>?_))))))))))
  ·obtain ⟨_,ahQ,h1⟩:=ob h1;have q:=si h1;subst q
   exact aO (s1 (far (k:=1) U j3 iK U) (s1 (bK U (ak iK qN U U)) (s1 (bi U U (NY (b:=(9223372036854775808:UInt64)))) (cq [1,2] [3] (Ai (p0.N ^^^ (9223372036854775808:UInt64)) DF _ ahQ) wf U U U agG U U U U U U U U (SO.nil ((aC [0,1,3] [0,1] U)))))))
  ·refine sr (s1 (bi U U bD) (sa U (sn (cB h1 U (fun h1=>?_) (fun h1=>?_)))))
   ·obtain ⟨_,asY,h1⟩:=ob h1;have q:=si h1;subst q
    exact aO (s1 (far (k:=1) U j3 iK U) (s1 (bK U (ak iK qN U U)) (cq [1,2] [3] (Ai p0.N DF _ asY) wf U U U agG U U U U U U U U (SO.nil ((aC [0,1,3] [0,1] U))))))
   ·refine sr (s1 (bi U U bD) (sa U (sn (cB h1 U (fun h1=>?_) (fun h1=>?_)))))
    ·obtain ⟨_,asX,h1⟩:=ob h1;have q:=si h1;subst q
     exact aO (s1 (far (k:=1) U j3 iK U) (s1 (bK U (ak iK qN U U)) (s1 (AZ U (vP Bh EU p0.N)) (cq [1,2] [3] (Lb (p0.N.toUInt8) DF _ asX) wf U U U an5 U U U U U U U U (SO.nil ((aC [0,1,3] [0,1] U)))))))
    ·have q:=si h1;subst q
     exact bR ((wq U))
 ·rintro QX h0
  obtain ⟨_,asW,h0⟩:=ob h0
  refine sr (cq [1,2] [3] (F3 QX _ asW) wf U U U an4 U U U U U U U U (sa U (sn (SC.dw h0 (fun y=>⟨mk 51 [(1,.d (eB p1)),(6,.slc 0 1 0 y.length none)],[.row 1 (List.map dX y) true]⟩) ?_ ?_))))
  ·intro V6 h1
   refine SC.dw h1 (fun y=>⟨mk 51 [(1,.d (eB p1)),(2,.ref 0 0 0),(6,.slc 1 1 0 QX.length none),(38,.d (eB y))],[.box (.d (au p0)),.row 1 (List.map dX QX) true]⟩) ?_ ?_
   ·intro auC h2
    refine aO (s1 (far (k:=0) U iG dH U) (s1 (bK U (ak dH gV U U)) (s1 (bi U U bD) (sm U (sp h2 (fun h2=>?_) (fun h2=>?_))))))
    ·have q:=si h2;subst q
     exact kw U (kw U (kw U (s1 (pkt U U) (SO.nil ((aC [0,3] [0,3] U))))))
    ·have q:=si h2;subst q
     exact gw U (far (k:=0) U iG dH U) (gw U (bK U (ak dH gV U U)) (gw U (bi U U bD) (s1 (eT U U) (SO.nil ((aC [0,3] [0,3] U))))))
   ·rintro xO h1
    refine cB h1 U (fun h1=>?_) (fun h1=>?_)
    ·obtain ⟨r78,asU,h1⟩:=ob h1;obtain ⟨atm,h1⟩:=gd h1;obtain ⟨atl,h1⟩:=gd h1;have q:=si h1;subst q
     refine sr (sm U (s1 (far (k:=2) U jZ iA U) (s1 (bK U (ak iA qw U U)) (c0 (adW p0.S ([0]:List UInt8) ([0,255]:List UInt8) _ asU) wf U U U an3 U (fun _=>rfl) (fun _=>rfl) (s1 (app U U U U bc9 (aF (f:=dX) (xs:=QX) (k:=2) U eZ LZ U ab1 atm U)) (sa U (sn (aO (sm U ?_)))))))))
     exact s1 (rX (k:=3) (ds:=List.map dX [(0:UInt8),(0:UInt8)]) (off:=0) (l':=[(0:UInt8),(0:UInt8)].length) U eZ LZ U U (by rfl) U U U) (s1 (app U U U U Co (aF (f:=dX) (xs:=(QX++r78)) (k:=4) U eZ LZ U (dU (xs:=[(0:UInt8),(0:UInt8)]) U) atl U)) (sa U (SO.nil ((aC [4] [4] U)))))
    ·have q:=si h1;subst q
     exact bR ((aC [1] [1] U))
  ·rintro MO h0
   refine sq (sr (sm U (sn (cB h0 U (fun h0=>?_) (fun h0=>?_)))))
   ·obtain ⟨r82,asT,h0⟩:=ob h0;have q:=si h0;subst q
    exact sr (sm U (cq [0] [] (Nw MO _ asT) wf U U U aol U U U U U U U U (sa U (sn (aM (bM (Wk.trans (Wk.og (i:=4) (x:=.slc 0 1 0 r82.length none) U U (fF U U U)) (aC (e':=[(4,.d ((eL 1 dX) r82))]) [] [] U)) (bq U aW) U))))))
   ·have q:=si h0;subst q
    exact sk (sr (sm U (sa U (sn (aM (bM (Wk.trans (Wk.og (i:=4) (x:=.slc 0 1 0 MO.length none) U U (fF U U U)) (aC (e':=[(4,.d ((eL 1 dX) MO))]) [] [] U)) (bq U aW) U))))))
noncomputable def nY (p0:List aj) (p1:List Bool):Option ((List UInt8)×Int):=
 bif ((p0.length:Int) != (p1.length:Int)) then
 some (([]:List UInt8),(1:Int))
 else
 ah (dz p0) fun ad8=>
 bif ad8 then
 some (([]:List UInt8),(8:Int))
 else
 ah (α:=(List UInt8))
 (ah (α:=(List UInt8))
 (loop (Y:=(List UInt8)×Int) (W:=(List UInt8)) (fun (OV,za)=>
 bif (decide (za < (p0.length:Int))) then
 ah (bP p0 za) fun v141=>
 ah (bP p1 za) fun Z4=>
 ah (xG v141 Z4) fun Yb=>
 bif decide ((OV.length+Yb.length)*1≤room) then
 some (Sum.inl ((OV++Yb),(bL (za+(1:Int)))))
 else none
 else
 some (Sum.inr OV)) (([]:List UInt8),(0:Int)))
 (fun e=>some e))
 fun DW=>
 bif (decide ((DW.length:Int) > (256:Int))) then
 some (([]:List UInt8),(7:Int))
 else
 some (DW,(0:Int))
theorem Nz (p0:List aj) (p1:List Bool) (r:(List UInt8)×Int) (h0:nY p0 p1=some r):aT Tryz.prog 151 [.d ((eL 3 au) p0),.d ((eL 1 eB) p1)] [] (.tuple [.d (eS r.1),.d (eI r.2)]) []:=by
 unfold nY at h0
 refine fn0 [0,1] Tryz.func151 U U U U U ?_
 refine sr (s1 (jA (v:=.d (eS ([]:List UInt8))) U) (sa U (sn (sq (sr (sm U (s1 (len U U U (bN jJ)) (sm U (s1 (len U U U (bN oQ)) ?_)))))))))
 refine s1 (bi U U dA) (sn (cB h0 U (fun h0=>?_) (fun h0=>?_)))
 ·have q:=si h0;subst q
  exact sr (s1 (jA (v:=.d (eS ([]:List UInt8))) U) (sa U (sn (aM (bM (Wk.refl _) (bq U (bq U aW)) U)))))
 ·obtain ⟨ad8,asP,h0⟩:=ob h0
  refine sk (sq (sr (sm U (c0 (lS p0 _ asP) wf U U U aok U (fun _=>rfl) (fun _=>rfl) (sn (cB h0 U (fun h0=>?_) (fun h0=>?_)))))))
  ·have q:=si h0;subst q
   exact sr (s1 (jA (v:=.d (eS ([]:List UInt8))) U) (sa U (sn (aM (bM (Wk.refl _) (bq U (bq U aW)) U)))))
  ·refine sk (sr (s1 (jA (v:=.d .dB) U) (sn (SC.dw h0 (fun y=>⟨mk 37 [(6,.slc 0 1 0 y.length none)],[.row 1 (List.map dX y) true]⟩) ?_ ?_))))
   ·intro ar3 h1
    obtain ⟨ag9,h2,h1⟩:=ob h1
    refine sr (sm U (s1 (len U U U (bN jJ)) (sm U (sn (SC.blk (SC.eH h2 (fun y=>⟨mk 37 [(1,.d ((eL 1 eB) p1)),(6,.slc 0 1 0 y.1.length none),(16,.d ((eL 3 au) p0)),(17,.d (eI (p0.length:Int))),(18,.d (eI y.2))],[.row 1 (List.map dX y.1) true]⟩) (Wk.trans (Wk.nI (σ':=[.row 1 (List.map dX ([]:List UInt8)) true]) (.row 1 [] true) (fun _ hh=>by cases hh) U) (Wk.trans (Wk.env (e':=[(1,.d ((eL 1 eB) p1)),(6,.slc 0 1 0 (([]:List UInt8).length) none),(16,.d ((eL 3 au) p0)),(17,.d (eI (p0.length:Int))),(18,.d (eI (0:Int)))]) (EW.cons (AW.refl _) (EW.cons (AW.mH _ _ _) (EW.cons (AW.refl _) (EW.cons (AW.refl _) (EW.cons (AW.refl _) EW.nil)))))) (wq U))) ?_))))))
    intro n146
    rintro ⟨OV,za⟩ aqf h3 hv3
    refine sr (s1 (bi U U bB) (sn (sq (cB h3 U (fun h3=>?_) (fun h3=>?_)))))
    ·obtain ⟨v141,agj,h3⟩:=ob h3;obtain ⟨Z4,agi,h3⟩:=ob h3;obtain ⟨Yb,ame,h3⟩:=ob h3;obtain ⟨ane,h3⟩:=gd h3
     refine sk (sq (SC.blk (sr (sm U (s1 (kV U U jJ gK (aB agj).1 (bI (aB agj).2) U) (s1 (bK (v:=.d (au v141)) U (bY gK ny U)) (s1 (yA (k:=1) Xm U) (sa U (s0 (jF U U (sB (d':=.d (au v141)) gK U U U U U U U)) ?_)))))))))
     refine sn (SC.draws (by kernel_rfl) (t1 aH (mv U) U (t1 ([1],false) (bK (v:=.d (au v141)) U (ak gK ny U U)) U (t1 aH (mv U) U (t1 aH (mv U) U (t1 aH (kV U U oQ nu (aB agi).1 (bI (aB agi).2) U) U (t1 aH (bK U (bY nu FB U)) U (Hg (UK v141 Z4 _ ame) wf U U U aoi U (fun _=>rfl) (fun _=>rfl) (t1 ([0,2],true) (app U U U U Co (aF (f:=dX) (xs:=OV) (k:=2) U eZ LZ U yg ane U)) U ?_)))))))))
     refine t1 aH (jA U) U (ST.nil (And.intro (by decide +kernel) ?_))
     change SC _ _ _ _ _
     have q:=si h3;subst q
     exact aO (s1 (bi U U bH) (sm U (SO.nil (lf (aC [2] [2] U)))))
    ·have q:=si h3;subst q;have q:_=_:=hv3;subst q;have q:=si h1;subst q
     exact bZ ((wq U))
   ·rintro DW h0
    refine sq (sr (sm U (s1 (len U U U (gN eZ)) (s1 (bi U U dx) (sn (cB h0 U (fun h0=>?_) (fun h0=>?_)))))))
    ·have q:=si h0;subst q
     exact sr (s1 (jA (v:=.d (eS ([]:List UInt8))) U) (sa U (sn (aM (bM (aC (e':=[(4,.d (eS ([]:List UInt8))),(5,.d (eI (7:Int)))]) [] [] U) (bq U (bq U aW)) U)))))
    ·have q:=si h0;subst q
     exact sk (sr (sm U (s1 (AZ (v:=.d (eS DW)) U (oN eZ vk EU (dU (xs:=DW) U) (fun _ hh=>by cases hh))) (sa U (sa U (sn (aM (bM (aC (e':=[(4,.d (eS DW)),(5,.d (eI (0:Int)))]) [] [] U) (bq U (bq U aW)) U))))))))
noncomputable def lU (p0:aL) (p1:List aX) (p2:List aj):Option ((List UInt8)×Bool×Int):=
 ah (wB p0.aV p2) fun Uu=>
 bif (Uu != (0:Int)) then
 some (([]:List UInt8),false,Uu)
 else
 ah (α:=(List aj)×(List Bool)×Bool)
 (ah (α:=(List aj)×(List Bool)×Bool)
 (loop (Y:=(List aj)×(List Bool)×Bool×Int) (W:=(List aj)×(List Bool)×Bool) (fun (Kr,Kq,Xz,MV)=>
 bif (decide (MV < (p1.length:Int))) then
 ah (bP p1 MV) fun Bf=>
 ah (bP p2 Bf.Col) fun Jq=>
 bif decide ((Kr.length+[Jq].length)*32≤room) then
 bif decide ((Kq.length+[Bf.Down].length)*1≤room) then
 bif Xz then
 some (Sum.inl ((Kr++[Jq]),(Kq++[Bf.Down]),true,(bL (MV+(1:Int)))))
 else
 ah (bP p2 Bf.Col) fun v182=>
 some (Sum.inl ((Kr++[Jq]),(Kq++[Bf.Down]),(v182.Kind==(0:Int)),(bL (MV+(1:Int)))))
 else none
 else none
 else
 some (Sum.inr (Kr,Kq,Xz))) (([]:List aj),([]:List Bool),false,(0:Int)))
 (fun e=>some e))
 fun (Bc,E8,tZ)=>
 ah (nY Bc E8) fun (aay,aax)=>
 some (aay,tZ,aax)
theorem Jt (p0:aL) (p1:List aX) (p2:List aj) (r:(List UInt8)×Bool×Int) (h0:lU p0 p1 p2=some r):aT Tryz.prog 178 [.d (bE p0),.d ((eL 2 aK) p1),.d ((eL 3 au) p2)] [] (.tuple [.d (eS r.1),.d (eB r.2.1),.d (eI r.2.2)]) []:=by
 unfold lU at h0
 refine fn0 [0,1,2] Tryz.func178 U U U U U ?_
 obtain ⟨Uu,amm,h0⟩:=ob h0
 refine sr (s1 (nN (k:=0) U U U) (s1 (jA (v:=.d (eS ([]:List UInt8))) U) (sa U (sa U (sn (sq (sr (s1 (far (k:=1) U l6 mE U) (s1 (bK U (ak mE AA U U)) ?_)))))))))
 refine sm U (c0 (Ru p0.aV p2 _ amm) wf U U U aoa U (fun _=>rfl) (fun _=>rfl) (sa U (sn (sr (sm U (s1 (bi U U dA) (sn (cB h0 U (fun h0=>?_) (fun h0=>?_)))))))))
 ·have q:=si h0;subst q
  exact sr (sm U (s1 (jA (v:=.d (eS ([]:List UInt8))) U) (sa U (sa U (sn (aM (bM (aC (e':=[(6,.d (eS ([]:List UInt8))),(7,.d (eB false)),(8,.d (eI Uu))]) [] [] U) (bq U (bq U (bq U aW))) U)))))))
 ·refine sk (sr (s1 (jA (v:=.d .dB) U) (sn (sr (s1 (jA (v:=.d .dB) U) (sn (sr (sa U (sn ?_)))))))))
  refine SC.dw h0 (fun y=>⟨mk 63 [(10,.slc 0 3 0 y.1.length none),(11,.slc 1 1 0 y.2.1.length none),(12,.d (eB y.2.2))],[.row 3 (List.map au y.1) true,.row 1 (List.map eB y.2.1) true]⟩) ?_ ?_
  ·intro ahe h1
   obtain ⟨aro,h2,h1⟩:=ob h1
   refine sr (sm U (s1 (len U U U (bN xg)) (sm U (sn (SC.blk (SC.eH h2 (fun y=>⟨mk 63 [(2,.d ((eL 3 au) p2)),(10,.slc 0 3 0 y.1.length none),(11,.slc 1 1 0 y.2.1.length none),(12,.d (eB y.2.2.1)),(24,.d ((eL 2 aK) p1)),(25,.d (eI (p1.length:Int))),(26,.d (eI y.2.2.2))],[.row 3 (List.map au y.1) true,.row 1 (List.map eB y.2.1) true]⟩) (Wk.trans (Wk.nI (σ':=[.box (.d (bE p0)),.row 3 (List.map au ([]:List aj)) true]) (.row 3 [] true) (fun _ hh=>by cases hh) U) (Wk.trans (Wk.env (e':=[(2,.d ((eL 3 au) p2)),(10,.slc 1 3 0 (([]:List aj).length) none),(11,.d .dB),(12,.d (eB false)),(24,.d ((eL 2 aK) p1)),(25,.d (eI (p1.length:Int))),(26,.d (eI (0:Int)))]) (EW.cons (AW.refl _) (EW.cons (AW.mH _ _ _) (EW.cons (AW.refl _) (EW.cons (AW.refl _) (EW.cons (AW.refl _) (EW.cons (AW.refl _) (EW.cons (AW.refl _) EW.nil)))))))) (Wk.trans (Wk.nI (σ':=[.box (.d (bE p0)),.row 3 (List.map au ([]:List aj)) true,.row 1 (List.map eB ([]:List Bool)) true]) (.row 1 [] true) (fun _ hh=>by cases hh) U) (Wk.trans (Wk.env (e':=[(2,.d ((eL 3 au) p2)),(10,.slc 1 3 0 (([]:List aj).length) none),(11,.slc 2 1 0 (([]:List Bool).length) none),(12,.d (eB false)),(24,.d ((eL 2 aK) p1)),(25,.d (eI (p1.length:Int))),(26,.d (eI (0:Int)))]) (EW.cons (AW.refl _) (EW.cons (AW.refl _) (EW.cons (AW.mH _ _ _) (EW.cons (AW.refl _) (EW.cons (AW.refl _) (EW.cons (AW.refl _) (EW.cons (AW.refl _) EW.nil)))))))) (aC [1,2] [1,2] U))))) ?_))))))
   intro n183
   rintro ⟨Kr,Kq,Xz,MV⟩ aqd h3 hv3
   refine sr (s1 (bi U U bB) (sn (sq (cB h3 U (fun h3=>?_) (fun h3=>?_)))))
   ·obtain ⟨Bf,agc,h3⟩:=ob h3;obtain ⟨Jq,agb,h3⟩:=ob h3;obtain ⟨am9,h3⟩:=gd h3;obtain ⟨am8,h3⟩:=gd h3
    refine sk (sq (SC.blk (sr (s1 (kV U U xg Hf (aB agc).1 (bI (aB agc).2) U) (s1 (bK (v:=.d (aK Bf)) U (bY Hf ahh U)) (s1 (yA (k:=2) agS U) (s0 (jF U U (sB (d':=.d (aK Bf)) Hf U U U U U U U)) (sn (sd (by kernel_rfl) ?_)))))))))
    refine t1 aH (mv U) U (t1 aH (mv U) U (t1 aH (far (k:=0) U Ce dH U) U (t1 ([2],false) (bK U (ak dH gV U U)) U (t1 aH (kV U U jJ gK (aB agb).1 (bI (aB agb).2) U) U (t1 aH (bK (v:=.d (au Jq)) U (bY gK ny U)) U (t1 ([3],true) (rX (k:=3) (ds:=List.map au [Jq]) (off:=0) (l':=[Jq].length) U jJ EO U U (by rfl) U U U) U (t1 ([0,3,4],true) (app U U U U YM (aF (f:=au) (xs:=Kr) (k:=4) U jJ EO U (dU (xs:=[Jq]) U) am9 U)) U (t1 aH (mv U) U (t1 aH (far (k:=1) U U0 nu U) U ?_)))))))))
    refine t1 ([2],false) (bK U (ak nu FB U U)) U (t1 ([5],true) (rX (k:=5) (ds:=List.map eB [Bf.Down]) (off:=0) (l':=[Bf.Down].length) U oQ TU U U (by rfl) U U U) U (t1 ([1,5,6],true) (app U U U U Tw (aF (f:=eB) (xs:=Kq) (k:=6) U oQ TU U (dU (xs:=[Bf.Down]) U) am8 U)) U (t1 aH (jA U) U (t1 aH (jA U) U (tn (by decide +kernel) (aO (sm U (sm U (sp h3 (fun h3=>?_) (fun h3=>?_))))))))))
    ·refine kw U (kw U (kw U (kw U (kw U (kw U (kw U (s1 (pkt U U) (sa U (SO.nil ?_)))))))))
     change SC _ _ _ _ _
     have q:=si h3;subst q
     exact aO (s1 (bi U U bH) (sm U (SO.nil (lf (aC [4,6] [4,6] U)))))
    ·obtain ⟨v182,aga,h3⟩:=ob h3
     refine gw U (mv U) (gw U (far (k:=0) U Ce dH U) (gw U (bK U (ak dH gV U U)) (gw U (kV U U jJ gK (aB aga).1 (bI (aB aga).2) U) (gw U (fap U iG dH U) (gw U (bK U (bY dH gV U)) (gw U (bi U U bD) (s1 (eT U U) (sa U (SO.nil ?_)))))))))
     change SC _ _ _ _ _
     have q:=si h3;subst q
     exact aO (s1 (bi U U bH) (sm U (SO.nil (lf (aC [4,6] [4,6] U)))))
   ·have q:=si h3;subst q;have q:_=_:=hv3;subst q;have q:=si h1;subst q
    exact bZ ((wq U))
  ·rintro ⟨Bc,E8,tZ⟩ h0
   obtain ⟨⟨aay,aax⟩,al7,h0⟩:=ob h0;have q:=si h0;subst q
   refine sr (sm U (sm U (cq (args':=[.slc 0 3 0 Bc.length none,.slc 1 1 0 E8.length none]) (lF:=[.row 3 (List.map au Bc) true,.row 1 (List.map eB E8) true]) [0,1] [] (aT.og (iX.og (fF U U U) (iX.og (fF U U U) (iX.nil _))) (fq [] [] (Nz Bc E8 _ al7) U U U U U U U U)) wf U U U aov U U U U U U U U (sm U (s1 (ext U U) (s1 (ext U U) (sa U (sa U (sn ?_)))))))))
   exact sr (sm U (sm U (sm U (sa U (sa U (sa U (sn (aM (bM (aC (e':=[(6,.d (eS aay)),(7,.d (eB tZ)),(8,.d (eI aax))]) [] [] U) (bq U (bq U (bq U aW))) U)))))))))
noncomputable def iF (p0:aL) (p1:List aj):Option ((List UInt8)×Int):=
 ah (r9 p0.aR) fun r16=>
 ah (lU p0 r16 p1) fun (NW,GV,r20)=>
 some (NW,r20)
theorem FJ (p0:aL) (p1:List aj) (r:(List UInt8)×Int) (h0:iF p0 p1=some r):aT Tryz.prog 143 [.d (bE p0),.d ((eL 3 au) p1)] [] (.tuple [.d (eS r.1),.d (eI r.2)]) []:=by
 unfold iF at h0
 refine fn0 [0,1] Tryz.func143 U U U U U ?_
 obtain ⟨r16,UO,h0⟩:=ob h0;obtain ⟨⟨NW,GV,r20⟩,atb,h0⟩:=ob h0;have q:=si h0;subst q
 refine sr (s1 (nN (k:=0) U U U) (s1 (jA (v:=.d (eS ([]:List UInt8))) U) (sa U (sn (sd (by kernel_rfl) (t1 ([0],false) (bK (v:=.d (bE p0)) U (ak oU uQ U U)) U (t1 aH (far (k:=2) U wR jf U) U (t1 ([0],false) (bK U (ak jf vB U U)) U (Hg (Pf p0.aR _ UO) wf U U U aow U (fun _=>rfl) (fun _=>rfl) ?_)))))))))
 refine t1 aH (mv U) U (Hg (Jt p0 r16 p1 _ atb) wf U U U aom U (fun _=>rfl) (fun _=>rfl) (t1 aH (mv U) U (t1 aH (ext U U) U (t1 aH (ext U U) U (t1 aH (ext U U) U (t1 aH (jA U) U (t1 aH (jA U) U (t1 aH (jA U) U (tn (by decide +kernel) ?_)))))))))
 exact sr (sm U (sm U (sa U (sa U (sn (aM (bM (aC (e':=[(4,.d (eS NW)),(5,.d (eI r20))]) [] [] U) (bq U (bq U aW)) U)))))))
noncomputable def vD:Option Unit:=
 some ()
theorem JG (r:Unit) (h0:vD=some r):aT Tryz.prog 73 [] [] (.agg [.d .wO,.fn (.func 126) [] [],.fn (.func 127) [] [],.fn (.func 128) [] [],.fn (.func 129) [] [],.fn (.func 130) [] [],.fn (.func 131) [] []]) [.box (.agg [.d .wO,.fn (.func 126) [] [],.fn (.func 127) [] [],.fn (.func 128) [] [],.fn (.func 129) [] [],.fn (.func 130) [] [],.fn (.func 131) [] []])]:=by
 unfold vD at h0
 refine fn0 [] Tryz.func73 U U U U U ?_
 have q:=si h0;subst q
 exact sr (s1 (yA (k:=0) aeW U) (sn (sr (s1 (vg U (GJ )) (s0 (jF U U (sB (d':=.agg [.d .wO,.fn (.func 126) [] [],.fn (.func 127) [] [],.fn (.func 128) [] [],.fn (.func 129) [] [],.fn (.func 130) [] [],.fn (.func 131) [] []]) aal U U U U U U U)) (sn (aM (bM (Wk.refl _) (xE U (ak aal aks U U) aW) U))))))))
noncomputable def jq (p0:aY):Option Int:=
 ah (α:=Bool)
 (bif (p0.Kind==(4:Int)) then
 some (p0.Kind==(4:Int))
 else
 some (p0.Kind==(5:Int)))
 fun y6=>
 bif y6 then
 some (2:Int)
 else
 bif (p0.Kind==(6:Int)) then
 some (1:Int)
 else
 some (0:Int)
theorem wK (p0:aY) (r:Int) (h0:jq p0=some r):aT Tryz.prog 74 [.d (bg p0)] [] (.d (eI r)) []:=by
 unfold jq at h0
 refine fn0 [0] Tryz.func74 U U U U U ?_
 refine sr (s1 (nN (k:=0) U U U) (sa U (sn (sq (sr (s1 (far (k:=0) U LU dH U) (s1 (bK U (ak dH gV U U)) (sn (SC.blk ?_)))))))))
 refine SC.dw h0 (fun y=>⟨mk 10 [(4,.d (eI p0.Kind)),(5,.d (eB y))],[]⟩) ?_ ?_
 ·intro aaj h1
  refine sr (s1 (bi U U bD) (sa U (sn (cB h1 U (fun h1=>?_) (fun h1=>?_)))))
  ·have q:=si h1;subst q
   exact bR ((aC [] [] U))
  ·have q:=si h1;subst q
   exact aO (s1 (bi U U bD) (sa U (SO.nil ((aC [] [] U)))))
 ·rintro y6 h0
  refine cB h0 U (fun h0=>?_) (fun h0=>?_)
  ·have q:=si h0;subst q
   exact sr (sa U (sn (aM (bM (Wk.refl _) (bq U aW) U))))
  ·refine sr (s1 (bi U U bD) (sa U (sn (cB h0 U (fun h0=>?_) (fun h0=>?_)))))
   ·have q:=si h0;subst q
    exact sr (sa U (sn (aM (bM (Wk.refl _) (bq U aW) U))))
   ·refine bR ?_
    change SC _ _ _ _ _
    have q:=si h0;subst q
    exact sr (sa U (sn (aM (bM (Wk.refl _) (bq U aW) U))))
noncomputable def cmp_isNaN_int (p0:Int):Option Unit:=
 some ()
theorem yV (p0:Int) (r:Unit) (h0:cmp_isNaN_int p0=some r):aT Tryz.prog 132 [.d (eI p0)] [] (.d (eB (p0 != p0))) []:=by
 unfold cmp_isNaN_int at h0
 refine fn0 [0] Tryz.func132 U U U U U ?_
 have q:=si h0;subst q
 refine sr (sa U (sn (sr (sm U (sm U (s1 (bi U U dA) (sa U (sn (aM ?_)))))))))
 exact bM (Wk.refl _) (bq U aW) U
noncomputable def cmp_Compare_int (p0:Int) (p1:Int):Option Int:=
 ah (cmp_isNaN_int p0) fun _=>
 ah (cmp_isNaN_int p1) fun _=>
 bif (p0 != p0) then
 bif (p1 != p1) then
 some (0:Int)
 else
 some (-1:Int)
 else
 bif (p1 != p1) then
 some (1:Int)
 else
 bif (decide (p0 < p1)) then
 some (-1:Int)
 else
 bif (decide (p0 > p1)) then
 some (1:Int)
 else
 some (0:Int)
theorem EP (p0:Int) (p1:Int) (r:Int) (h0:cmp_Compare_int p0 p1=some r):aT Tryz.prog 75 [.d (eI p0),.d (eI p1)] [] (.d (eI r)) []:=by
 unfold cmp_Compare_int at h0
 refine fn0 [0,1] Tryz.func75 U U U U U ?_
 obtain ⟨_,JQ,h0⟩:=ob h0;obtain ⟨_,hq7,h0⟩:=ob h0
 refine sr (sa U (sn (sr (sm U (c0 (yV p0 _ JQ) wf U U U agN U (fun _=>rfl) (fun _=>rfl) (sa U (sn (sr (sm U ?_)))))))))
 refine c0 (yV p1 _ hq7) wf U U U agN U (fun _=>rfl) (fun _=>rfl) (sa U (sn (sq (sr (sm U (sn (cB h0 U (fun h0=>?_) (fun h0=>?_))))))))
 ·refine sq (sr (sm U (sn (cB h0 U (fun h0=>?_) (fun h0=>?_)))))
  ·have q:=si h0;subst q
   exact sr (sa U (sn (aM (bM (Wk.refl _) (bq U aW) U))))
  ·have q:=si h0;subst q
   exact sk (sr (sa U (sn (aM (bM (Wk.refl _) (bq U aW) U)))))
 ·refine sk (sq (sr (sm U (sn (cB h0 U (fun h0=>?_) (fun h0=>?_))))))
  ·have q:=si h0;subst q
   exact sr (sa U (sn (aM (bM (Wk.refl _) (bq U aW) U))))
  ·refine sk (sq (sr (sm U (sm U (s1 (bi U U bB) (sn (cB h0 U (fun h0=>?_) (fun h0=>?_))))))))
   ·have q:=si h0;subst q
    exact sr (sa U (sn (aM (bM (Wk.refl _) (bq U aW) U))))
   ·refine sk (sq (sr (sm U (sm U (s1 (bi U U dx) (sn (cB h0 U (fun h0=>?_) (fun h0=>?_))))))))
    ·have q:=si h0;subst q
     exact sr (sa U (sn (aM (bM (Wk.refl _) (bq U aW) U))))
    ·have q:=si h0;subst q
     exact sk (sr (sa U (sn (aM (bM (Wk.refl _) (bq U aW) U)))))
noncomputable def j6 (p0:Int):Option Unit:=
 some ()
theorem wV (p0:Int) (r:Unit) (h0:j6 p0=some r):aT Tryz.prog 133 [.d (eI p0)] [] (.d (eB (p0 != p0))) []:=by
 unfold j6 at h0
 refine fn0 [0] Tryz.func133 U U U U U ?_
 have q:=si h0;subst q
 refine sr (sa U (sn (sr (sm U (sm U (s1 (bi U U dA) (sa U (sn (aM ?_)))))))))
 exact bM (Wk.refl _) (bq U aW) U
noncomputable def jk (p0:Int) (p1:Int):Option Int:=
 ah (j6 p0) fun _=>
 ah (j6 p1) fun _=>
 bif (p0 != p0) then
 bif (p1 != p1) then
 some (0:Int)
 else
 some (-1:Int)
 else
 bif (p1 != p1) then
 some (1:Int)
 else
 bif (decide (p0 < p1)) then
 some (-1:Int)
 else
 bif (decide (p0 > p1)) then
 some (1:Int)
 else
 some (0:Int)
theorem Ci (p0:Int) (p1:Int) (r:Int) (h0:jk p0 p1=some r):aT Tryz.prog 76 [.d (eI p0),.d (eI p1)] [] (.d (eI r)) []:=by
 unfold jk at h0
 refine fn0 [0,1] Tryz.func76 U U U U U ?_
 obtain ⟨_,JQ,h0⟩:=ob h0;obtain ⟨_,hq7,h0⟩:=ob h0
 refine sr (sa U (sn (sr (sm U (c0 (wV p0 _ JQ) wf U U U agM U (fun _=>rfl) (fun _=>rfl) (sa U (sn (sr (sm U ?_)))))))))
 refine c0 (wV p1 _ hq7) wf U U U agM U (fun _=>rfl) (fun _=>rfl) (sa U (sn (sq (sr (sm U (sn (cB h0 U (fun h0=>?_) (fun h0=>?_))))))))
 ·refine sq (sr (sm U (sn (cB h0 U (fun h0=>?_) (fun h0=>?_)))))
  ·have q:=si h0;subst q
   exact sr (sa U (sn (aM (bM (Wk.refl _) (bq U aW) U))))
  ·have q:=si h0;subst q
   exact sk (sr (sa U (sn (aM (bM (Wk.refl _) (bq U aW) U)))))
 ·refine sk (sq (sr (sm U (sn (cB h0 U (fun h0=>?_) (fun h0=>?_))))))
  ·have q:=si h0;subst q
   exact sr (sa U (sn (aM (bM (Wk.refl _) (bq U aW) U))))
  ·refine sk (sq (sr (sm U (sm U (s1 (bi U U bB) (sn (cB h0 U (fun h0=>?_) (fun h0=>?_))))))))
   ·have q:=si h0;subst q
    exact sr (sa U (sn (aM (bM (Wk.refl _) (bq U aW) U))))
   ·refine sk (sq (sr (sm U (sm U (s1 (bi U U dx) (sn (cB h0 U (fun h0=>?_) (fun h0=>?_))))))))
    ·have q:=si h0;subst q
     exact sr (sa U (sn (aM (bM (Wk.refl _) (bq U aW) U))))
    ·have q:=si h0;subst q
     exact sk (sr (sa U (sn (aM (bM (Wk.refl _) (bq U aW) U)))))
noncomputable def jL (p0:UInt64):Option Unit:=
 some ()
theorem u7 (p0:UInt64) (r:Unit) (h0:jL p0=some r):aT Tryz.prog 134 [.d (eX p0)] [] (.d (eB (p0 != p0))) []:=by
 unfold jL at h0
 refine fn0 [0] Tryz.func134 U U U U U ?_
 have q:=si h0;subst q
 refine sr (sa U (sn (sr (sm U (sm U (s1 (bi U U HY) (sa U (sn (aM ?_)))))))))
 exact bM (Wk.refl _) (bq U aW) U
noncomputable def iU (p0:UInt64) (p1:UInt64):Option Int:=
 ah (jL p0) fun _=>
 ah (jL p1) fun _=>
 bif (p0 != p0) then
 bif (p1 != p1) then
 some (0:Int)
 else
 some (-1:Int)
 else
 bif (p1 != p1) then
 some (1:Int)
 else
 bif (decide (p0 < p1)) then
 some (-1:Int)
 else
 bif (decide (p1 < p0)) then
 some (1:Int)
 else
 some (0:Int)
theorem AU (p0:UInt64) (p1:UInt64) (r:Int) (h0:iU p0 p1=some r):aT Tryz.prog 78 [.d (eX p0),.d (eX p1)] [] (.d (eI r)) []:=by
 unfold iU at h0
 refine fn0 [0,1] Tryz.func78 U U U U U ?_
 obtain ⟨_,JQ,h0⟩:=ob h0;obtain ⟨_,hq7,h0⟩:=ob h0
 refine sr (sa U (sn (sr (sm U (c0 (u7 p0 _ JQ) wf U U U agL U (fun _=>rfl) (fun _=>rfl) (sa U (sn (sr (sm U ?_)))))))))
 refine c0 (u7 p1 _ hq7) wf U U U agL U (fun _=>rfl) (fun _=>rfl) (sa U (sn (sq (sr (sm U (sn (cB h0 U (fun h0=>?_) (fun h0=>?_))))))))
 ·refine sq (sr (sm U (sn (cB h0 U (fun h0=>?_) (fun h0=>?_)))))
  ·have q:=si h0;subst q
   exact sr (sa U (sn (aM (bM (Wk.refl _) (bq U aW) U))))
  ·have q:=si h0;subst q
   exact sk (sr (sa U (sn (aM (bM (Wk.refl _) (bq U aW) U)))))
 ·refine sk (sq (sr (sm U (sn (cB h0 U (fun h0=>?_) (fun h0=>?_))))))
  ·have q:=si h0;subst q
   exact sr (sa U (sn (aM (bM (Wk.refl _) (bq U aW) U))))
  ·refine sk (sq (sr (sm U (sm U (s1 (bi U U NZ) (sn (cB h0 U (fun h0=>?_) (fun h0=>?_))))))))
   ·have q:=si h0;subst q
    exact sr (sa U (sn (aM (bM (Wk.refl _) (bq U aW) U))))
   ·refine sk (sq (sr (sm U (sm U (s1 (bi U U Ye) (sn (cB h0 U (fun h0=>?_) (fun h0=>?_))))))))
    ·have q:=si h0;subst q
     exact sr (sa U (sn (aM (bM (Wk.refl _) (bq U aW) U))))
    ·have q:=si h0;subst q
     exact sk (sr (sa U (sn (aM (bM (Wk.refl _) (bq U aW) U)))))
noncomputable def ql (p0:List Int):Option Int:=
 fP (Y:=Unit) (E:=Int)
 (ah (α:=Unit⊕Int)
 (loop (Y:=Int) (W:=Unit⊕Int) (fun MP=>
 bif (decide (MP < (p0.length:Int))) then
 ah (bP p0 MP) fun v51=>
 bif (v51 != (0:Int)) then
 some (Sum.inr (Sum.inr v51))
 else
 some (Sum.inl (bL (MP+(1:Int))))
 else
 some (Sum.inr (Sum.inl ()))) (0:Int))
 (Sum.elim (fun e=>some (Sum.inl e)) (fun e=>some (Sum.inr e))))
 (fun _=>
 some (0:Int))
 (fun e=>some e)
theorem ND (p0:List Int) (r:Int) (h0:ql p0=some r):aT Tryz.prog 77 [.d ((eL 1 eI) p0)] [] (.d (eI r)) []:=by
 unfold ql at h0
 refine fn0 [0] Tryz.func77 U U U U U ?_
 refine sr (sa U (sn (sr (sa U (sn (SC.seqB h0 (fun y=>⟨mk 18 [(3,.d (eI (0:Int)))],[]⟩) ?_ ?_))))))
 ·intro akh h1 h0
  obtain ⟨ake,h2,h1⟩:=ob h1
  refine sr (sm U (s1 (len U U U (bN iJ)) (sm U (sn (SC.blk (SC.eH h2 (fun y=>⟨mk 18 [(3,.d (eI (0:Int))),(6,.d ((eL 1 eI) p0)),(7,.d (eI (p0.length:Int))),(8,.d (eI y))],[]⟩) (wq U) ?_))))))
  intro n52
  rintro MP ajU h3 hv3
  refine sr (s1 (bi U U bB) (sn (sq (cB h3 U (fun h3=>?_) (fun h3=>?_)))))
  ·obtain ⟨v51,aa8,h3⟩:=ob h3
   refine sk (sq (SC.blk (sr (s1 (kV U U iJ dH (aB aa8).1 (bI (aB aa8).2) U) (s1 (bK U (bY dH gV U)) (sa U (sn (sr (sm U ?_)))))))))
   refine sm U (s1 (bi U U dA) (sn (cB h3 U (fun h3=>?_) (fun h3=>?_))))
   ·have q:=si h3;subst q;have q:_=_:=hv3;subst q;have q:=si h1;subst q;have q:=si h0;subst q
    exact sr (sm U (sa U (sn (aM (bM (Wk.refl _) (bq U aW) U)))))
   ·refine bR ?_
    change SC _ _ _ _ _
    have q:=si h3;subst q
    exact aO (s1 (bi U U bH) (sm U (SO.nil (lf (wq U)))))
  ·have q:=si h3;subst q;have q:_=_:=hv3;subst q;have q:=si h1;subst q
   exact bZ (lf (wq U))
 ·intro _ h0
  have q:=si h0;subst q
  exact sr (sm U (sa U (sn (aM (bM (Wk.refl _) (bq U aW) U)))))
noncomputable def iY (p0:aj) (p1:aj):Option Int:=
 ah (cmp_Compare_int p0.Kind p1.Kind) fun r39=>
 ah (α:=Int)
 (ah (α:=Bool)
 (bif (r39==(0:Int)) then
 some (p0.Kind==(1:Int))
 else
 some false)
 fun MP=>
 bif MP then
 ah (jk (Gh p0.N) (Gh p1.N)) fun r49=>
 some r49
 else
 some r39)
 fun Vx=>
 ah (iU p0.N p1.N) fun RF=>
 ah (aex p0.S p1.S) fun Zq=>
 ah (ql [Vx,RF,Zq]) fun X5=>
 some X5
theorem Bd (p0:aj) (p1:aj) (r:Int) (h0:iY p0 p1=some r):aT Tryz.prog 30 [.d (au p0),.d (au p1)] [] (.d (eI r)) []:=by
 unfold iY at h0
 refine fn0 [0,1] Tryz.func30 U U U U U ?_
 obtain ⟨r39,ahW,h0⟩:=ob h0
 refine sr (s1 (nN (k:=0) U U U) (s1 (nN (k:=1) U U U) (sa U (sn (sr (s1 (far (k:=0) U iG dH U) (s1 (bK U (ak dH gV U U)) (s1 (far (k:=0) U iG dH U) (s1 (bK U (ak dH gV U U)) ?_)))))))))
 refine c0 (EP p0.Kind p1.Kind _ ahW) wf U U U atN U (fun _=>rfl) (fun _=>rfl) (sa U (sn (SC.dw h0 (fun y=>⟨mk 38 [(2,.ref 0 0 0),(3,.ref 1 0 0),(5,.d (eI y))],[.box (.d (au p0)),.box (.d (au p1))]⟩) ?_ ?_)))
 ·intro afp h1
  refine SC.dw h1 (fun y=>⟨mk 38 [(2,.ref 0 0 0),(3,.ref 1 0 0),(5,.d (eI r39)),(17,.d (eB y))],[.box (.d (au p0)),.box (.d (au p1))]⟩) ?_ ?_
  ·intro auG h2
   refine aO (sm U (s1 (bi U U bD) (sm U (sp h2 (fun h2=>?_) (fun h2=>?_)))))
   ·have q:=si h2;subst q
    exact gw U (far (k:=0) U iG dH U) (gw U (bK U (ak dH gV U U)) (gw U (bi U U bD) (s1 (pkt U U) (SO.nil ((wq U))))))
   ·have q:=si h2;subst q
    exact kw U (kw U (kw U (s1 (eT U U) (SO.nil ((wq U))))))
  ·rintro MP h1
   refine cB h1 U (fun h1=>?_) (fun h1=>?_)
   ·obtain ⟨r49,ahT,h1⟩:=ob h1;have q:=si h1;subst q
    refine aO (s1 (far (k:=1) U j3 iK U) (s1 (bK U (ak iK qN U U)) (s1 (AZ U (L8 Bh un2 p0.N)) (s1 (far (k:=1) U j3 iK U) (s1 (bK U (ak iK qN U U)) (s1 (AZ U (L8 Bh un2 p1.N)) (c0 (Ci (Gh p0.N) (Gh p1.N) _ ahT) wf U U U atM U (fun _=>rfl) (fun _=>rfl) (sa U (SO.nil ?_)))))))))
    exact (wq U)
   ·have q:=si h1;subst q
    exact bR ((wq U))
 ·rintro Vx h0
  obtain ⟨RF,ahS,h0⟩:=ob h0;obtain ⟨Zq,as0,h0⟩:=ob h0;obtain ⟨X5,abH,h0⟩:=ob h0;have q:=si h0;subst q
  refine sd (by kernel_rfl) (t1 aH (mv U) U (t1 aH (far (k:=1) U j3 iK U) U (t1 ([0],false) (bK U (ak iK qN U U)) U (t1 aH (far (k:=1) U j3 iK U) U (t1 ([1],false) (bK U (ak iK qN U U)) U (Hg (AU p0.N p1.N _ ahS) wf U U U atK U (fun _=>rfl) (fun _=>rfl) (t1 aH (far (k:=2) U jZ iA U) U (t1 ([0],false) (bK U (ak iA qw U U)) U (t1 aH (far (k:=2) U jZ iA U) U ?_)))))))))
  exact t1 ([1],false) (bK U (ak iA qw U U)) U (Hg (ai6 p0.S p1.S _ as0) wf U U U atJ U (fun _=>rfl) (fun _=>rfl) (t1 ([2],true) (rX (k:=2) (ds:=List.map eI [Vx,RF,Zq]) (off:=0) (l':=[Vx,RF,Zq].length) U iJ TV U U (by rfl) U U U) U (tq (args':=[.slc 0 1 0 ([Vx,RF,Zq].length) none]) (lF:=[.row 1 (List.map eI [Vx,RF,Zq]) true]) [2] [] ([2],true) (aT.og (iX.og (fF U U U) (iX.nil _)) (fq [] [] (ND [Vx,RF,Zq] _ abH) U U U U U U U U)) wf U U U atL U U U U U U U U U (t1 aH (jA U) U (tn (by decide +kernel) (aM (bM (aC (e':=[(4,.d (eI X5))]) [] [] U) (bq U aW) U)))))))
noncomputable def iB (p0:aY) (p1:aj):Option Bool:=
 bif (p1.Kind==(0:Int)) then
 some false
 else
 ah (iY p1 p0.Val) fun r7=>
 bif (p0.Op==(1:Int)) then
 some (decide (r7 < (0:Int)))
 else
 bif (p0.Op==(2:Int)) then
 some (decide (r7≤(0:Int)))
 else
 bif (p0.Op==(3:Int)) then
 some (r7==(0:Int))
 else
 bif (p0.Op==(4:Int)) then
 some (decide (r7≥(0:Int)))
 else
 bif (p0.Op==(5:Int)) then
 some (decide (r7 > (0:Int)))
 else
 some (r7 != (0:Int))
theorem AJ (p0:aY) (p1:aj) (r:Bool) (h0:iB p0 p1=some r):aT Tryz.prog 172 [.d (bg p0),.d (au p1)] [] (.d (eB r)) []:=by
 unfold iB at h0
 refine fn0 [0,1] Tryz.func172 U U U U U ?_
 refine sr (s1 (nN (k:=0) U U U) (s1 (nN (k:=1) U U U) (sa U (sn (sq (sr (s1 (far (k:=0) U iG dH U) (s1 (bK U (ak dH gV U U)) (s1 (bi U U bD) ?_)))))))))
 refine sn (cB h0 U (fun h0=>?_) (fun h0=>?_))
 ·have q:=si h0;subst q
  exact sr (sa U (sn (aM (bM (aC (e':=[(4,.d (eB false))]) [] [] U) (bq U aW) U))))
 ·obtain ⟨r7,JQ,h0⟩:=ob h0
  refine sk (sr (s1 (bK (v:=.d (au p1)) U (ak gK ny U U)) (s1 (far (k:=3) U LQ gK U) (s1 (bK (v:=.d (au p0.Val)) U (ak gK ny U U)) (c0 (Bd p1 p0.Val _ JQ) wf U U U anS U (fun _=>rfl) (fun _=>rfl) (sa U (sn (sq (sr ?_)))))))))
  refine s1 (far (k:=2) U Qe dH U) (s1 (bK U (ak dH gV U U)) (sn (SC.blk (sr (s1 (bi U U bD) (sa U (sn (cB h0 U (fun h0=>?_) (fun h0=>?_)))))))))
  ·have q:=si h0;subst q
   exact sr (sm U (s1 (bi U U bB) (sa U (sn (aM (bM (wc (e':=[(4,.d (eB (decide (r7 < (0:Int)))))]) [] [] (by kernel_rfl) U (by kernel_rfl)) (bq U aW) U))))))
  ·refine sr (s1 (bi U U bD) (sa U (sn (cB h0 U (fun h0=>?_) (fun h0=>?_)))))
   ·have q:=si h0;subst q
    exact sr (sm U (s1 (bi U U qA) (sa U (sn (aM (bM (wc (e':=[(4,.d (eB (decide (r7≤(0:Int)))))]) [] [] (by kernel_rfl) U (by kernel_rfl)) (bq U aW) U))))))
   ·refine sr (s1 (bi U U bD) (sa U (sn (cB h0 U (fun h0=>?_) (fun h0=>?_)))))
    ·have q:=si h0;subst q
     exact sr (sm U (s1 (bi U U bD) (sa U (sn (aM (bM (wc (e':=[(4,.d (eB (r7==(0:Int))))]) [] [] (by kernel_rfl) U (by kernel_rfl)) (bq U aW) U))))))
    ·refine sr (s1 (bi U U bD) (sa U (sn (cB h0 U (fun h0=>?_) (fun h0=>?_)))))
     ·have q:=si h0;subst q
      exact sr (sm U (s1 (bi U U fU) (sa U (sn (aM (bM (wc (e':=[(4,.d (eB (decide (r7≥(0:Int)))))]) [] [] (by kernel_rfl) U (by kernel_rfl)) (bq U aW) U))))))
     ·refine sr (s1 (bi U U bD) (sa U (sn (cB h0 U (fun h0=>?_) (fun h0=>?_)))))
      ·have q:=si h0;subst q
       exact sr (sm U (s1 (bi U U dx) (sa U (sn (aM (bM (wc (e':=[(4,.d (eB (decide (r7 > (0:Int)))))]) [] [] (by kernel_rfl) U (by kernel_rfl)) (bq U aW) U))))))
      ·refine bR ?_
       change SC _ _ _ _ _
       have q:=si h0;subst q
       exact sr (sm U (s1 (bi U U dA) (sa U (sn (aM (bM (wc (e':=[(4,.d (eB (r7 != (0:Int))))]) [] [] (by kernel_rfl) U (by kernel_rfl)) (bq U aW) U))))))
noncomputable def qZ (p0:aY) (p1:List Bool) (p2:Nat) (p3:Nat) (p4:List aj):Option Bool:=
 ah (mP p1 p2 p3 (0:Int)) fun v4=>
 some (!v4)
theorem FU (p0:aY) (p1:List Bool) (p2:Nat) (p3:Nat) (p4:List aj) (r:Bool) (h0:qZ p0 p1 p2 p3 p4=some r):aT Tryz.prog 131 [.d (bg p0),.slc 0 1 p2 p3 none,.d ((eL 3 au) p4)] [.row 1 (List.map eB p1) true] (.d (eB r)) [.row 1 (List.map eB p1) true]:=by
 unfold qZ at h0
 refine fn0 [0,1,2] Tryz.func131 U U U U U ?_
 obtain ⟨v4,hv4,h0⟩:=ob h0;have q:=si h0;subst q
 refine sr (s1 (nN (k:=1) U U U) (sa U (sn (sr (sm U (s1 (SA U U oQ nu (dI hv4).1) (s1 (bK U (jD nu FB U (bI (dI hv4).2) U)) (s1 (nt U) (sa U ?_)))))))))
 exact sn (aM (bM (aC (e':=[(6,.d (eB (!v4)))]) [0] [0] U) (bq U aW) U))
noncomputable def oG (p0:aY) (p1:List Bool) (p2:Nat) (p3:Nat) (p4:List aj):Option Bool:=
 ah (α:=Bool)
 (ah (mP p1 p2 p3 (0:Int)) fun v18=>
 bif v18 then
 some true
 else
 ah (mP p1 p2 p3 (1:Int)) fun v19=>
 some v19)
 fun OT=>
 some OT
theorem C8 (p0:aY) (p1:List Bool) (p2:Nat) (p3:Nat) (p4:List aj) (r:Bool) (h0:oG p0 p1 p2 p3 p4=some r):aT Tryz.prog 130 [.d (bg p0),.slc 0 1 p2 p3 none,.d ((eL 3 au) p4)] [.row 1 (List.map eB p1) true] (.d (eB r)) [.row 1 (List.map eB p1) true]:=by
 unfold oG at h0
 refine fn0 [0,1,2] Tryz.func130 U U U U U ?_
 refine sr (s1 (nN (k:=1) U U U) (sa U (sn (SC.dw h0 (fun y=>⟨mk 15 [(6,.d (eB y))],[.row 1 (List.map eB p1) true]⟩) ?_ ?_))))
 ·intro NQ h1
  obtain ⟨v18,abo,h1⟩:=ob h1
  refine aO (sm U (s1 (SA U U oQ nu (dI abo).1) (s1 (bK U (jD nu FB U (bI (dI abo).2) U)) (sm U (sp h1 (fun h1=>?_) (fun h1=>?_))))))
  ·have q:=si h1;subst q
   exact kw U (kw U (kw U (s1 (pkt U U) (sa U (SO.nil ((aC [0] [0] U)))))))
  ·obtain ⟨v19,abn,h1⟩:=ob h1;have q:=si h1;subst q
   exact gw U (mv U) (gw U (SA U U oQ nu (dI abn).1) (gw U (bK U (jD nu FB U (bI (dI abn).2) U)) (s1 (eT U U) (sa U (SO.nil ((aC [0] [0] U)))))))
 ·rintro OT h0
  have q:=si h0;subst q
  exact aM (bM (Wk.refl _) (bq U aW) U)
noncomputable def rA (p0:aY) (p1:List Bool) (p2:Nat) (p3:Nat) (p4:List aj):Option Bool:=
 ah (α:=Bool)
 (ah (mP p1 p2 p3 (0:Int)) fun v18=>
 bif v18 then
 ah (mP p1 p2 p3 (1:Int)) fun v19=>
 some v19
 else
 some false)
 fun OT=>
 some OT
theorem FX (p0:aY) (p1:List Bool) (p2:Nat) (p3:Nat) (p4:List aj) (r:Bool) (h0:rA p0 p1 p2 p3 p4=some r):aT Tryz.prog 129 [.d (bg p0),.slc 0 1 p2 p3 none,.d ((eL 3 au) p4)] [.row 1 (List.map eB p1) true] (.d (eB r)) [.row 1 (List.map eB p1) true]:=by
 unfold rA at h0
 refine fn0 [0,1,2] Tryz.func129 U U U U U ?_
 refine sr (s1 (nN (k:=1) U U U) (sa U (sn (SC.dw h0 (fun y=>⟨mk 15 [(6,.d (eB y))],[.row 1 (List.map eB p1) true]⟩) ?_ ?_))))
 ·intro NQ h1
  obtain ⟨v18,abo,h1⟩:=ob h1
  refine aO (sm U (s1 (SA U U oQ nu (dI abo).1) (s1 (bK U (jD nu FB U (bI (dI abo).2) U)) (sm U (sp h1 (fun h1=>?_) (fun h1=>?_))))))
  ·obtain ⟨v19,abn,h1⟩:=ob h1;have q:=si h1;subst q
   exact gw U (mv U) (gw U (SA U U oQ nu (dI abn).1) (gw U (bK U (jD nu FB U (bI (dI abn).2) U)) (s1 (pkt U U) (sa U (SO.nil ((aC [0] [0] U)))))))
  ·have q:=si h1;subst q
   exact kw U (kw U (kw U (s1 (eT U U) (sa U (SO.nil ((aC [0] [0] U)))))))
 ·rintro OT h0
  have q:=si h0;subst q
  exact aM (bM (Wk.refl _) (bq U aW) U)
noncomputable def oF (p0:aY) (p1:List Bool) (p2:Nat) (p3:Nat) (p4:List aj):Option Bool:=
 ah (bP p4 p0.Col) fun v4=>
 some (v4.Kind==(0:Int))
theorem CZ (p0:aY) (p1:List Bool) (p2:Nat) (p3:Nat) (p4:List aj) (r:Bool) (h0:oF p0 p1 p2 p3 p4=some r):aT Tryz.prog 128 [.d (bg p0),.slc 0 1 p2 p3 none,.d ((eL 3 au) p4)] [.row 1 (List.map eB p1) true] (.d (eB r)) [.row 1 (List.map eB p1) true]:=by
 unfold oF at h0
 refine fn0 [0,1,2] Tryz.func128 U U U U U ?_
 obtain ⟨v4,hv4,h0⟩:=ob h0;have q:=si h0;subst q
 refine sr (s1 (nN (k:=1) U U U) (sa U (sn (sr (sm U (s1 (far (k:=1) U EC dH U) (s1 (bK U (ak dH gV U U)) (s1 (kV U U jJ gK (aB hv4).1 (bI (aB hv4).2) U) (s1 (fap U iG dH U) ?_)))))))))
 exact s1 (bK U (bY dH gV U)) (s1 (bi U U bD) (sa U (sn (aM (bM (wc (e':=[(6,.d (eB (v4.Kind==(0:Int))))]) [0] [0] (by kernel_rfl) U (by kernel_rfl)) (bq U aW) U)))))
noncomputable def mJ (p0:aY) (p1:List Bool) (p2:Nat) (p3:Nat) (p4:List aj):Option Bool:=
 ah (bP p4 p0.Col) fun v8=>
 ah (iB p0 v8) fun Uw=>
 some Uw
theorem Ee (p0:aY) (p1:List Bool) (p2:Nat) (p3:Nat) (p4:List aj) (r:Bool) (h0:mJ p0 p1 p2 p3 p4=some r):aT Tryz.prog 127 [.d (bg p0),.slc 0 1 p2 p3 none,.d ((eL 3 au) p4)] [.row 1 (List.map eB p1) true] (.d (eB r)) [.row 1 (List.map eB p1) true]:=by
 unfold mJ at h0
 refine fn0 [0,1,2] Tryz.func127 U U U U U ?_
 obtain ⟨v8,hv8,h0⟩:=ob h0;obtain ⟨Uw,hq9,h0⟩:=ob h0;have q:=si h0;subst q
 refine sr (s1 (nN (k:=1) U U U) (sa U (sn (sd (by kernel_rfl) (t1 ([1],false) (bK (v:=.d (bg p0)) U (ak Bj Ho U U)) U (t1 aH (mv U) U (t1 aH (far (k:=1) U EC dH U) U (t1 ([1],false) (bK U (ak dH gV U U)) U (t1 aH (kV U U jJ gK (aB hv8).1 (bI (aB hv8).2) U) U ?_)))))))))
 exact t1 aH (bK (v:=.d (au v8)) U (bY gK ny U)) U (Hg (AJ p0 v8 _ hq9) wf U U U aor U (fun _=>rfl) (fun _=>rfl) (t1 aH (jA U) U (tn (by decide +kernel) (aM (bM (aC (e':=[(6,.d (eB Uw))]) [0] [0] U) (bq U aW) U)))))
noncomputable def pK (p0:aY) (p1:List Bool) (p2:Nat) (p3:Nat) (p4:List aj):Option Unit:=
 some ()
theorem Ed (p0:aY) (p1:List Bool) (p2:Nat) (p3:Nat) (p4:List aj) (r:Unit) (h0:pK p0 p1 p2 p3 p4=some r):aT Tryz.prog 126 [.d (bg p0),.slc 0 1 p2 p3 none,.d ((eL 3 au) p4)] [.row 1 (List.map eB p1) true] (.d (eB true)) [.row 1 (List.map eB p1) true]:=by
 unfold pK at h0
 refine fn0 [0,1,2] Tryz.func126 U U U U U ?_
 have q:=si h0;subst q
 exact sr (s1 (nN (k:=1) U U U) (sa U (sn (sr (sa U (sn (aM (bM (aC (e':=[(6,.d (eB true))]) [0] [0] U) (bq U aW) U))))))))
noncomputable def qC (p0:List aY) (p1:List aj):Option Bool:=
 ah vD fun _=>
 ah (α:=(List Bool))
 (ah (α:=(List Bool))
 (loop (Y:=(List Bool)×Int) (W:=(List Bool)) (fun (bV,Aw)=>
 bif (decide (Aw < (p0.length:Int))) then
 ah (bP p0 Aw) fun ko=>
 ah (jq ko) fun d9=>
 bif decide (0≤(bL ((bV.length:Int) - d9))∧(bL ((bV.length:Int) - d9))≤(bV.length:Int)) then
 bif (ko.Kind==(1:Int)) then
 bif decide (0≤(bL ((bV.length:Int) - d9))∧(bL ((bV.length:Int) - d9))≤(bV.length:Int)) then
 ah (pK ko bV (0+(bL ((bV.length:Int) - d9)).toNat) (bV.length - (bL ((bV.length:Int) - d9)).toNat) p1) fun _=>
 bif decide (0+((bL ((bV.length:Int) - d9)).toNat)≤bV.length) then
 bif decide ((((bL ((bV.length:Int) - d9)).toNat)+[true].length)*1≤room) then
 some (Sum.inl ((List.take ((bL ((bV.length:Int) - d9)).toNat) (List.drop 0 bV)++[true]),(bL (Aw+(1:Int)))))
 else none
 else none
 else none
 else
 bif (ko.Kind==(2:Int)) then
 bif decide (0≤(bL ((bV.length:Int) - d9))∧(bL ((bV.length:Int) - d9))≤(bV.length:Int)) then
 ah (mJ ko bV (0+(bL ((bV.length:Int) - d9)).toNat) (bV.length - (bL ((bV.length:Int) - d9)).toNat) p1) fun Pt=>
 bif decide (0+((bL ((bV.length:Int) - d9)).toNat)≤bV.length) then
 bif decide ((((bL ((bV.length:Int) - d9)).toNat)+[Pt].length)*1≤room) then
 some (Sum.inl ((List.take ((bL ((bV.length:Int) - d9)).toNat) (List.drop 0 bV)++[Pt]),(bL (Aw+(1:Int)))))
 else none
 else none
 else none
 else
 bif (ko.Kind==(3:Int)) then
 bif decide (0≤(bL ((bV.length:Int) - d9))∧(bL ((bV.length:Int) - d9))≤(bV.length:Int)) then
 ah (oF ko bV (0+(bL ((bV.length:Int) - d9)).toNat) (bV.length - (bL ((bV.length:Int) - d9)).toNat) p1) fun Pv=>
 bif decide (0+((bL ((bV.length:Int) - d9)).toNat)≤bV.length) then
 bif decide ((((bL ((bV.length:Int) - d9)).toNat)+[Pv].length)*1≤room) then
 some (Sum.inl ((List.take ((bL ((bV.length:Int) - d9)).toNat) (List.drop 0 bV)++[Pv]),(bL (Aw+(1:Int)))))
 else none
 else none
 else none
 else
 bif (ko.Kind==(4:Int)) then
 bif decide (0≤(bL ((bV.length:Int) - d9))∧(bL ((bV.length:Int) - d9))≤(bV.length:Int)) then
 ah (rA ko bV (0+(bL ((bV.length:Int) - d9)).toNat) (bV.length - (bL ((bV.length:Int) - d9)).toNat) p1) fun Pw=>
 bif decide (0+((bL ((bV.length:Int) - d9)).toNat)≤bV.length) then
 bif decide ((((bL ((bV.length:Int) - d9)).toNat)+[Pw].length)*1≤room) then
 some (Sum.inl ((List.take ((bL ((bV.length:Int) - d9)).toNat) (List.drop 0 bV)++[Pw]),(bL (Aw+(1:Int)))))
 else none
 else none
 else none
 else
 bif (ko.Kind==(5:Int)) then
 bif decide (0≤(bL ((bV.length:Int) - d9))∧(bL ((bV.length:Int) - d9))≤(bV.length:Int)) then
 ah (oG ko bV (0+(bL ((bV.length:Int) - d9)).toNat) (bV.length - (bL ((bV.length:Int) - d9)).toNat) p1) fun Px=>
 bif decide (0+((bL ((bV.length:Int) - d9)).toNat)≤bV.length) then
 bif decide ((((bL ((bV.length:Int) - d9)).toNat)+[Px].length)*1≤room) then
 some (Sum.inl ((List.take ((bL ((bV.length:Int) - d9)).toNat) (List.drop 0 bV)++[Px]),(bL (Aw+(1:Int)))))
 else none
 else none
 else none
 else
 bif (ko.Kind==(6:Int)) then
 bif decide (0≤(bL ((bV.length:Int) - d9))∧(bL ((bV.length:Int) - d9))≤(bV.length:Int)) then
 ah (qZ ko bV (0+(bL ((bV.length:Int) - d9)).toNat) (bV.length - (bL ((bV.length:Int) - d9)).toNat) p1) fun Py=>
 bif decide (0+((bL ((bV.length:Int) - d9)).toNat)≤bV.length) then
 bif decide ((((bL ((bV.length:Int) - d9)).toNat)+[Py].length)*1≤room) then
 some (Sum.inl ((List.take ((bL ((bV.length:Int) - d9)).toNat) (List.drop 0 bV)++[Py]),(bL (Aw+(1:Int)))))
 else none
 else none
 else none
 else
 none
 else none
 else
 some (Sum.inr bV)) (([]:List Bool),(0:Int)))
 (fun e=>some e))
 fun ada=>
 ah (bP ada (0:Int)) fun ZR=>
 some ZR
theorem PG (p0:List aY) (p1:List aj) (r:Bool) (h0:qC p0 p1=some r):aT Tryz.prog 29 [.d ((eL 6 bg) p0),.d ((eL 3 au) p1)] [] (.d (eB r)) []:=by
 unfold qC at h0
 refine fn0 [0,1] Tryz.func29 U U U U U ?_
 obtain ⟨_,al2,h0⟩:=ob h0
 refine sr (sa U (sn (sr (cq [] [0] (JG _ al2) wf U U U atO U U U U U U U U (s1 (yA (k:=1) aeW U) (s0 (jF U U (sB (d':=.agg [.d .wO,.fn (.func 126) [] [],.fn (.func 127) [] [],.fn (.func 128) [] [],.fn (.func 129) [] [],.fn (.func 130) [] [],.fn (.func 131) [] []]) aal U U U U U U U)) (sn (sr (s1 (jA (v:=.d .dB) U) ?_)))))))))
 refine sn (SC.dw h0 (fun y=>⟨mk 41 [(6,.slc 0 1 0 y.length none)],[.row 1 (List.map eB y) true]⟩) ?_ ?_)
 ·intro arO h1
  obtain ⟨aq8,h2,h1⟩:=ob h1
  refine sr (sm U (s1 (len U U U (bN M5)) (sm U (sn (SC.blk (SC.eH h2 (fun y=>⟨mk 41 [(1,.d ((eL 3 au) p1)),(5,.ref 0 0 0),(6,.slc 1 1 0 y.1.length none),(11,.d ((eL 6 bg) p0)),(12,.d (eI (p0.length:Int))),(13,.d (eI y.2))],[.box (.agg [.d .wO,.fn (.func 126) [] [],.fn (.func 127) [] [],.fn (.func 128) [] [],.fn (.func 129) [] [],.fn (.func 130) [] [],.fn (.func 131) [] []]),.row 1 (List.map eB y.1) true]⟩) (Wk.trans (Wk.nI (σ':=[.box (.agg [.d .wO,.fn (.func 126) [] [],.fn (.func 127) [] [],.fn (.func 128) [] [],.fn (.func 129) [] [],.fn (.func 130) [] [],.fn (.func 131) [] []]),.box (.agg [.d .wO,.fn (.func 126) [] [],.fn (.func 127) [] [],.fn (.func 128) [] [],.fn (.func 129) [] [],.fn (.func 130) [] [],.fn (.func 131) [] []]),.row 1 (List.map eB ([]:List Bool)) true]) (.row 1 [] true) (fun _ hh=>by cases hh) U) (Wk.trans (Wk.env (e':=[(1,.d ((eL 3 au) p1)),(5,.ref 1 0 0),(6,.slc 2 1 0 (([]:List Bool).length) none),(11,.d ((eL 6 bg) p0)),(12,.d (eI (p0.length:Int))),(13,.d (eI (0:Int)))]) (EW.cons (AW.refl _) (EW.cons (AW.refl _) (EW.cons (AW.mH _ _ _) (EW.cons (AW.refl _) (EW.cons (AW.refl _) (EW.cons (AW.refl _) EW.nil))))))) (aC [1,2] [1,2] U))) ?_))))))
  intro avo
  rintro ⟨bV,Aw⟩ ap5 h3 hv3
  refine sr (s1 (bi U U bB) (sn (sq (cB h3 U (fun h3=>?_) (fun h3=>?_)))))
  ·obtain ⟨ko,afQ,h3⟩:=ob h3;obtain ⟨d9,alO,h3⟩:=ob h3;obtain ⟨amZ,h3⟩:=gd h3
   refine sk (sq (SC.blk (sr (s1 (kV U U M5 Bj (aB afQ).1 (bI (aB afQ).2) U) (s1 (bK (v:=.d (bg ko)) U (bY Bj Ho U)) (s1 (yA (k:=2) ajt U) (s0 (jF U U (sB (d':=.d (bg ko)) Bj U U U U U U U)) (sn (sr ?_)))))))))
   refine sm U (s1 (len U U U (gN oQ)) (s1 (bK (v:=.d (bg ko)) U (ak Bj Ho U U)) (c0 (wK ko _ alO) wf U U U anH U (fun _=>rfl) (fun _=>rfl) (s1 (bi U U gX) (sa U (sn (SC.draws (by kernel_rfl) (t1 aH (mv U) U (t1 aH (mv U) U ?_)))))))))
   refine t1 aH (NT U U U U (yF oQ nu amZ)) U (t1 aH (far (k:=0) U LU dH U) U (t1 ([2],false) (bK U (ak dH gV U U)) U (tE h3 (fun hb h3=>?_) (fun h3=>?_))))
   ·obtain ⟨amJ,h3⟩:=gd h3;obtain ⟨_,alF,h3⟩:=ob h3;obtain ⟨amH,h3⟩:=gd h3;obtain ⟨amI,h3⟩:=gd h3
    refine t1 aH (iar (off':=1) 1 U U NP z8 (eq_of_beq hb) U U) U (t1 ([0],false) (bK U (ak z8 NR U U)) U (t1 ([2],false) (bK (v:=.d (bg ko)) U (ak Bj Ho U U)) U (t1 aH (mv U) U (t1 aH (mv U) U (t1 aH (NT U U U U (mR oQ nu amJ)) U (t1 aH (mv U) U (tqr [1] [1] (Ed ko bV (0+(bL ((bV.length:Int) - d9)).toNat) (bV.length - (bL ((bV.length:Int) - d9)).toNat) p1 _ alF) wf U U U aoJ U U U U U U U U (t1 ([3],true) (rX (k:=3) (ds:=List.map eB [true]) (off:=0) (l':=[true].length) U oQ TU U U (by rfl) U U U) U (t1 ([1,3,4],true) (app U U U U Tw (aS (f:=eB) (xs:=bV) (k:=4) oQ TU U amH (dU (xs:=[true]) U) amI U)) U ?_)))))))))
    refine t1 aH (jA U) U (ST.nil (And.intro (by decide +kernel) ?_))
    change SC _ _ _ _ _
    have q:=si h3;subst q
    exact aO (s1 (bi U U bH) (sm U (SO.nil (lf (aC [0,4] [0,4] U)))))
   ·refine tE h3 (fun hb h3=>?_) (fun h3=>?_)
    ·obtain ⟨amM,h3⟩:=gd h3;obtain ⟨Pt,alI,h3⟩:=ob h3;obtain ⟨amK,h3⟩:=gd h3;obtain ⟨amL,h3⟩:=gd h3
     refine t1 aH (iar (off':=2) 2 U U NP z8 (eq_of_beq hb) U U) U (t1 ([0],false) (bK U (ak z8 NR U U)) U (t1 ([2],false) (bK (v:=.d (bg ko)) U (ak Bj Ho U U)) U (t1 aH (mv U) U (t1 aH (mv U) U (t1 aH (NT U U U U (mR oQ nu amM)) U (t1 aH (mv U) U (tqr [1] [1] (Ee ko bV (0+(bL ((bV.length:Int) - d9)).toNat) (bV.length - (bL ((bV.length:Int) - d9)).toNat) p1 _ alI) wf U U U aoI U U U U U U U U (t1 ([3],true) (rX (k:=3) (ds:=List.map eB [Pt]) (off:=0) (l':=[Pt].length) U oQ TU U U (by rfl) U U U) U (t1 ([1,3,4],true) (app U U U U Tw (aS (f:=eB) (xs:=bV) (k:=4) oQ TU U amK (dU (xs:=[Pt]) U) amL U)) U ?_)))))))))
     refine t1 aH (jA U) U (ST.nil (And.intro (by decide +kernel) ?_))
     change SC _ _ _ _ _
     have q:=si h3;subst q
     exact aO (s1 (bi U U bH) (sm U (SO.nil (lf (aC [0,4] [0,4] U)))))
    ·refine tE h3 (fun hb h3=>?_) (fun h3=>?_)
     ·obtain ⟨amP,h3⟩:=gd h3;obtain ⟨Pv,alJ,h3⟩:=ob h3;obtain ⟨amN,h3⟩:=gd h3;obtain ⟨amO,h3⟩:=gd h3
      refine t1 aH (iar (off':=3) 3 U U NP z8 (eq_of_beq hb) U U) U (t1 ([0],false) (bK U (ak z8 NR U U)) U (t1 ([2],false) (bK (v:=.d (bg ko)) U (ak Bj Ho U U)) U (t1 aH (mv U) U (t1 aH (mv U) U (t1 aH (NT U U U U (mR oQ nu amP)) U (t1 aH (mv U) U (tqr [1] [1] (CZ ko bV (0+(bL ((bV.length:Int) - d9)).toNat) (bV.length - (bL ((bV.length:Int) - d9)).toNat) p1 _ alJ) wf U U U aoH U U U U U U U U (t1 ([3],true) (rX (k:=3) (ds:=List.map eB [Pv]) (off:=0) (l':=[Pv].length) U oQ TU U U (by rfl) U U U) U (t1 ([1,3,4],true) (app U U U U Tw (aS (f:=eB) (xs:=bV) (k:=4) oQ TU U amN (dU (xs:=[Pv]) U) amO U)) U ?_)))))))))
      refine t1 aH (jA U) U (ST.nil (And.intro (by decide +kernel) ?_))
      change SC _ _ _ _ _
      have q:=si h3;subst q
      exact aO (s1 (bi U U bH) (sm U (SO.nil (lf (aC [0,4] [0,4] U)))))
     ·refine tE h3 (fun hb h3=>?_) (fun h3=>?_)
      ·obtain ⟨amS,h3⟩:=gd h3;obtain ⟨Pw,alL,h3⟩:=ob h3;obtain ⟨amQ,h3⟩:=gd h3;obtain ⟨amR,h3⟩:=gd h3
       refine t1 aH (iar (off':=4) 4 U U NP z8 (eq_of_beq hb) U U) U (t1 ([0],false) (bK U (ak z8 NR U U)) U (t1 ([2],false) (bK (v:=.d (bg ko)) U (ak Bj Ho U U)) U (t1 aH (mv U) U (t1 aH (mv U) U (t1 aH (NT U U U U (mR oQ nu amS)) U (t1 aH (mv U) U (tqr [1] [1] (FX ko bV (0+(bL ((bV.length:Int) - d9)).toNat) (bV.length - (bL ((bV.length:Int) - d9)).toNat) p1 _ alL) wf U U U aoG U U U U U U U U (t1 ([3],true) (rX (k:=3) (ds:=List.map eB [Pw]) (off:=0) (l':=[Pw].length) U oQ TU U U (by rfl) U U U) U (t1 ([1,3,4],true) (app U U U U Tw (aS (f:=eB) (xs:=bV) (k:=4) oQ TU U amQ (dU (xs:=[Pw]) U) amR U)) U ?_)))))))))
       refine t1 aH (jA U) U (ST.nil (And.intro (by decide +kernel) ?_))
       change SC _ _ _ _ _
       have q:=si h3;subst q
       exact aO (s1 (bi U U bH) (sm U (SO.nil (lf (aC [0,4] [0,4] U)))))
      ·refine tE h3 (fun hb h3=>?_) (fun h3=>?_)
       ·obtain ⟨amV,h3⟩:=gd h3;obtain ⟨Px,alM,h3⟩:=ob h3;obtain ⟨amT,h3⟩:=gd h3;obtain ⟨amU,h3⟩:=gd h3
        refine t1 aH (iar (off':=5) 5 U U NP z8 (eq_of_beq hb) U U) U (t1 ([0],false) (bK U (ak z8 NR U U)) U (t1 ([2],false) (bK (v:=.d (bg ko)) U (ak Bj Ho U U)) U (t1 aH (mv U) U (t1 aH (mv U) U (t1 aH (NT U U U U (mR oQ nu amV)) U (t1 aH (mv U) U (tqr [1] [1] (C8 ko bV (0+(bL ((bV.length:Int) - d9)).toNat) (bV.length - (bL ((bV.length:Int) - d9)).toNat) p1 _ alM) wf U U U aoF U U U U U U U U (t1 ([3],true) (rX (k:=3) (ds:=List.map eB [Px]) (off:=0) (l':=[Px].length) U oQ TU U U (by rfl) U U U) U (t1 ([1,3,4],true) (app U U U U Tw (aS (f:=eB) (xs:=bV) (k:=4) oQ TU U amT (dU (xs:=[Px]) U) amU U)) U ?_)))))))))
        refine t1 aH (jA U) U (ST.nil (And.intro (by decide +kernel) ?_))
        change SC _ _ _ _ _
        have q:=si h3;subst q
        exact aO (s1 (bi U U bH) (sm U (SO.nil (lf (aC [0,4] [0,4] U)))))
       ·refine tE h3 (fun hb h3=>?_) (fun h3=>?_)
        ·obtain ⟨amY,h3⟩:=gd h3;obtain ⟨Py,alN,h3⟩:=ob h3;obtain ⟨amW,h3⟩:=gd h3;obtain ⟨amX,h3⟩:=gd h3
         refine t1 aH (iar (off':=6) 6 U U NP z8 (eq_of_beq hb) U U) U (t1 ([0],false) (bK U (ak z8 NR U U)) U (t1 ([2],false) (bK (v:=.d (bg ko)) U (ak Bj Ho U U)) U (t1 aH (mv U) U (t1 aH (mv U) U (t1 aH (NT U U U U (mR oQ nu amY)) U (t1 aH (mv U) U (tqr [1] [1] (FU ko bV (0+(bL ((bV.length:Int) - d9)).toNat) (bV.length - (bL ((bV.length:Int) - d9)).toNat) p1 _ alN) wf U U U aoE U U U U U U U U (t1 ([3],true) (rX (k:=3) (ds:=List.map eB [Py]) (off:=0) (l':=[Py].length) U oQ TU U U (by rfl) U U U) U (t1 ([1,3,4],true) (app U U U U Tw (aS (f:=eB) (xs:=bV) (k:=4) oQ TU U amW (dU (xs:=[Py]) U) amX U)) U ?_)))))))))
         refine t1 aH (jA U) U (ST.nil (And.intro (by decide +kernel) ?_))
         change SC _ _ _ _ _
         have q:=si h3;subst q
         exact aO (s1 (bi U U bH) (sm U (SO.nil (lf (aC [0,4] [0,4] U)))))
        ·cases h3
  ·have q:=si h3;subst q;have q:_=_:=hv3;subst q;have q:=si h1;subst q
   exact bZ ((aC [1] [1] U))
 ·rintro ada h0
  obtain ⟨ZR,afP,h0⟩:=ob h0;have q:=si h0;subst q
  exact sr (sm U (s1 (Yz U U oQ nu (pO afP)) (s1 (bK U (jD nu FB U (bI (aB afP).2) U)) (sa U (sn (aM (bM (aC (e':=[(4,.d (eB ZR))]) [] [] U) (bq U aW) U)))))))
noncomputable def pQ (p0:List aX) (p1:List aG):Option Unit:=
 some ()
theorem EG (p0:List aX) (p1:List aG) (r:Unit) (h0:pQ p0 p1=some r):aT Tryz.prog 100 [.agg [.d ((eL 2 aK) p0),.slc 0 2 0 p1.length none]] [.row 2 (List.map bA p1) true] (.d (eI (p1.length:Int))) [.row 2 (List.map bA p1) true]:=by
 unfold pQ at h0
 refine fn0 [0] Tryz.func100 U U U U U ?_
 have q:=si h0;subst q
 refine sr (s1 (nN (k:=1) U U U) (sa U (sn (sr (s1 (far (k:=1) U l8 jY U) (s1 (bK U (ak jY yE U U)) (s1 (len U U U (gN xu)) (sa U (sn ?_)))))))))
 exact aM (bM (aC (e':=[(2,.d (eI (p1.length:Int)))]) [0] [0] U) (bq U aW) U)
noncomputable def fC (p0:List aX) (p1:List aG) (p2:Nat) (p3:Nat) (p4:Int) (p5:Int):Option Bool:=
 ah (mP p1 p2 p3 p4) fun ZQ=>
 ah (mP p1 p2 p3 p5) fun v89=>
 fP (Y:=Unit) (E:=Bool)
 (ah (α:=Unit⊕Bool)
 (loop (Y:=Int) (W:=Unit⊕Bool) (fun iR=>
 bif (decide (iR < (p0.length:Int))) then
 ah (bP p0 iR) fun lQ=>
 ah (bP ZQ.row lQ.Col) fun Jr=>
 ah (bP v89.row lQ.Col) fun v127=>
 ah (iY Jr v127) fun wJ=>
 bif (wJ != (0:Int)) then
 some (Sum.inr (Sum.inr ((decide (wJ < (0:Int))) != lQ.Down)))
 else
 some (Sum.inl (bL (iR+(1:Int))))
 else
 some (Sum.inr (Sum.inl ()))) (0:Int))
 (Sum.elim (fun e=>some (Sum.inl e)) (fun e=>some (Sum.inr e))))
 (fun _=>
 some (o8 ZQ.primary v89.primary))
 (fun e=>some e)
theorem nE (p0:List aX) (p1:List aG) (p2:Nat) (p3:Nat) (p4:Int) (p5:Int) (r:Bool) (h0:fC p0 p1 p2 p3 p4 p5=some r):aT Tryz.prog 267 [.agg [.d ((eL 2 aK) p0),.slc 0 2 p2 p3 none],.d (eI p4),.d (eI p5)] [.row 2 (List.map bA p1) true] (.d (eB r)) [.row 2 (List.map bA p1) true]:=by
 unfold fC at h0
 refine fn0 [0,1,2] Tryz.func267 U U U U U ?_
 obtain ⟨ZQ,ak9,h0⟩:=ob h0;obtain ⟨v89,ak8,h0⟩:=ob h0
 refine sr (s1 (nN (k:=1) U U U) (sa U (sn (sd (by kernel_rfl) (t1 aH (far (k:=1) U l8 jY U) U (t1 ([1],false) (bK U (ak jY yE U U)) U (t1 aH (mv U) U (t1 aH (SA U U xu o9 (dI ak9).1) U (t1 ([0],false) (bK (v:=.d (bA ZQ)) U (jD o9 KG U (bI (dI ak9).2) U)) U ?_)))))))))
 refine t1 aH (far (k:=1) U l8 jY U) U (t1 ([1],false) (bK U (ak jY yE U U)) U (t1 aH (mv U) U (t1 aH (SA U U xu o9 (dI ak8).1) U (t1 ([0],false) (bK (v:=.d (bA v89)) U (jD o9 KG U (bI (dI ak8).2) U)) U (t1 ([2],true) (yA (k:=2) Vv U) U (t1 ([3],true) (yA (k:=3) Vv U) U (t0 ([2],true) (jF U U (sB (d':=.d (bA ZQ)) o9 U U U U U U U)) U (t0 ([3],true) (jF U U (sB (d':=.d (bA v89)) o9 U U U U U U U)) U (tn (by decide +kernel) ?_)))))))))
 refine SC.seqB h0 (fun y=>⟨mk 55 [(7,.ref 1 0 0),(8,.ref 2 0 0)],[.row 2 (List.map bA p1) true,.box (.d (bA ZQ)),.box (.d (bA v89))]⟩) ?_ ?_
 ·intro ahf h1 h0
  obtain ⟨aha,h2,h1⟩:=ob h1
  refine sr (s1 (far (k:=0) U aep vo U) (s1 (bK U (ak vo KF U U)) (s1 (len U U U (bN xg)) (sm U (sn (SC.blk (SC.eH h2 (fun y=>⟨mk 55 [(7,.ref 1 0 0),(8,.ref 2 0 0),(23,.d ((eL 2 aK) p0)),(24,.d (eI (p0.length:Int))),(25,.d (eI y))],[.row 2 (List.map bA p1) true,.box (.d (bA ZQ)),.box (.d (bA v89))]⟩) (aC [0,2,3] [0,2,3] U) ?_)))))))
  intro n130
  rintro iR ag1 h3 hv3
  refine sr (s1 (bi U U bB) (sn (sq (cB h3 U (fun h3=>?_) (fun h3=>?_)))))
  ·obtain ⟨lQ,SK,h3⟩:=ob h3;obtain ⟨Jr,agn,h3⟩:=ob h3;obtain ⟨v127,agm,h3⟩:=ob h3;obtain ⟨wJ,amk,h3⟩:=ob h3
   refine sk (sq (SC.blk (sr (s1 (kV U U xg Hf (aB SK).1 (bI (aB SK).2) U) (s1 (bK (v:=.d (aK lQ)) U (bY Hf ahh U)) (s1 (yA (k:=3) agS U) (s0 (jF U U (sB (d':=.d (aK lQ)) Hf U U U U U U U)) (sn (sd (by kernel_rfl) ?_)))))))))
   refine t1 aH (far (k:=0) U Ke ni U) U (t1 ([1],false) (bK U (ak ni zk U U)) U (t1 aH (far (k:=0) U Ce dH U) U (t1 ([3],false) (bK U (ak dH gV U U)) U (t1 aH (kV U U jJ gK (aB agn).1 (bI (aB agn).2) U) U (t1 aH (bK (v:=.d (au Jr)) U (bY gK ny U)) U (t1 aH (far (k:=0) U Ke ni U) U (t1 ([2],false) (bK U (ak ni zk U U)) U (t1 aH (far (k:=0) U Ce dH U) U (t1 ([3],false) (bK U (ak dH gV U U)) U ?_)))))))))
   refine t1 aH (kV U U jJ gK (aB agm).1 (bI (aB agm).2) U) U (t1 aH (bK (v:=.d (au v127)) U (bY gK ny U)) U (Hg (Bd Jr v127 _ amk) wf U U U anS U (fun _=>rfl) (fun _=>rfl) (t1 aH (jA U) U (tn (by decide +kernel) (sr (sm U (s1 (bi U U dA) (sn (cB h3 U (fun h3=>?_) (fun h3=>?_))))))))))
   ·have q:=si h3;subst q;have q:_=_:=hv3;subst q;have q:=si h1;subst q;have q:=si h0;subst q
    exact sr (sm U (s1 (bi U U bB) (s1 (far (k:=1) U U0 nu U) (s1 (bK U (ak nu FB U U)) (s1 (bi (v:=.d (eB ((decide (wJ < (0:Int))) != lQ.Down))) U U (fun X Y=>Vh un4 X Y (decide (wJ < (0:Int))) lQ.Down)) (sa U (sn (aM (bM (wc (e':=[(6,.d (eB ((decide (wJ < (0:Int))) != lQ.Down)))]) [0] [0] (by kernel_rfl) U (by kernel_rfl)) (bq U aW) U)))))))))
   ·refine bR ?_
    change SC _ _ _ _ _
    have q:=si h3;subst q
    exact aO (s1 (bi U U bH) (sm U (SO.nil (lf (aC [0,1,2] [0,1,2] U)))))
  ·have q:=si h3;subst q;have q:_=_:=hv3;subst q;have q:=si h1;subst q
   exact bZ (lf (wq U))
 ·intro _ h0
  have q:=si h0;subst q
  exact sr (s1 (far (k:=1) U WQ iA U) (s1 (bK U (ak iA qw U U)) (s1 (far (k:=1) U WQ iA U) (s1 (bK U (ak iA qw U U)) (s1 (bi U U N7) (sa U (sn (aM (bM (aC (e':=[(6,.d (eB (o8 ZQ.primary v89.primary)))]) [0] [0] U) (bq U aW) U)))))))))
noncomputable def fB (p0:List aX) (p1:List aG) (p2:Nat) (p3:Nat) (p4:Int) (p5:Int):Option ((List aG)):=
 ah (mP p1 p2 p3 p5) fun v10=>
 ah (mP p1 p2 p3 p4) fun v11=>
 ah (mP p1 p2 p3 p4) fun v12=>
 ah (mP (List.set p1 (p2+p4.toNat) v10) p2 p3 p5) fun v13=>
 some (List.set (List.set p1 (p2+p4.toNat) v10) (p2+p5.toNat) v11)
theorem nD (p0:List aX) (p1:List aG) (p2:Nat) (p3:Nat) (p4:Int) (p5:Int) (r:(List aG)) (h0:fB p0 p1 p2 p3 p4 p5=some r):aT Tryz.prog 268 [.agg [.d ((eL 2 aK) p0),.slc 0 2 p2 p3 none],.d (eI p4),.d (eI p5)] [.row 2 (List.map bA p1) true] (.tuple []) [.row 2 (List.map bA r) true]:=by
 unfold fB at h0
 refine fn0 [0,1,2] Tryz.func268 U U U U U ?_
 obtain ⟨v10,aln,h0⟩:=ob h0;obtain ⟨v11,alm,h0⟩:=ob h0;obtain ⟨v12,alk,h0⟩:=ob h0;obtain ⟨v13,alj,h0⟩:=ob h0;have q:=si h0;subst q
 refine sr (s1 (nN (k:=1) U U U) (sn (SC.draws (by kernel_rfl) (t1 aH (far (k:=1) U l8 jY U) U (t1 ([1],false) (bK U (ak jY yE U U)) U (t1 aH (mv U) U (t1 aH (far (k:=1) U l8 jY U) U (t1 ([1],false) (bK U (ak jY yE U U)) U (t1 aH (mv U) U ?_)))))))))
 refine t1 aH (far (k:=1) U l8 jY U) U (t1 ([1],false) (bK U (ak jY yE U U)) U (t1 aH (mv U) U (t1 aH (SA U U xu o9 (dI aln).1) U (t1 ([0],false) (bK (v:=.d (bA v10)) U (jD o9 KG U (bI (dI aln).2) U)) U (t1 aH (far (k:=1) U l8 jY U) U (t1 ([1],false) (bK U (ak jY yE U U)) U (t1 aH (mv U) U (t1 aH (SA U U xu o9 (dI alm).1) U (t1 ([0],false) (bK (v:=.d (bA v11)) U (jD o9 KG U (bI (dI alm).2) U)) U ?_)))))))))
 refine t1 aH (SA U U xu o9 (dI alk).1) U (t0 ([0],true) (jF (b:=.d (bA v10)) U U (sF (f:=bA) (v:=v10) (ds:=[((eL 3 au) v10.row),(eS v10.primary)]) o9 U U U U (dI alk).2 U U U U)) U (t1 aH (SA U U xu o9 (dI alj).1) U (t0 ([0],true) (jF (b:=.d (bA v11)) U U (sF (f:=bA) (v:=v11) (ds:=[((eL 3 au) v11.row),(eS v11.primary)]) o9 U U U U (dI alj).2 U U U U)) U (ST.nil (And.intro (by decide +kernel) ?_)))))
 exact vH (aC (e':=[]) [0] [0] U) aW U
noncomputable def fV (p0:Int) (p1:aL) (p2:bG) (p3:bQ) (p4:List bO) (p5:List aX) (p6:List aG) (p7:ay):Option ((List aG)):=
 ah (α:=(List aG))
 (loop (Y:=Int×(List aG)) (W:=(List aG)) (fun (JZ,MO)=>
 ah (α:=Bool)
 (bif ((bL (Int.tdiv (bL (JZ - (1:Int))) (2:Int)))==JZ) then
 some true
 else
 ah (fC p5 MO 0 p6.length JZ (bL (Int.tdiv (bL (JZ - (1:Int))) (2:Int)))) fun r91=>
 some (!r91))
 fun y88=>
 bif y88 then
 some (Sum.inr MO)
 else
 ah (fB p5 MO 0 p6.length (bL (Int.tdiv (bL (JZ - (1:Int))) (2:Int))) JZ) fun r93=>
 some (Sum.inl ((bL (Int.tdiv (bL (JZ - (1:Int))) (2:Int))),r93))) (p0,p6))
 (fun e=>some e)
theorem zQ (p0:Int) (p1:aL) (p2:bG) (p3:bQ) (p4:List bO) (p5:List aX) (p6:List aG) (p7:ay) (r:(List aG)) (h0:fV p0 p1 p2 p3 p4 p5 p6 p7=some r):aT Tryz.prog 187 [.iface 187 (.ref 0 0 19),.d (eI p0)] [.box (.agg [.iface 56 (.ref 1 0 0),.d (eS p1.Name),.d ((eL 7 aJ) p1.aV),.d ((eL 1 eI) p1.aR),.d ((eL 6 bF) p1.bn),.d (eI p1.Tree),.d ((eL 6 bg) p2.Pred),.d ((eL 1 eI) p2.aV),.d ((eL 2 aK) p2.Order),.d (eI p2.Limit),.d (eI p3.Index),.d (eS p3.Span.Lo),.d (eS p3.Span.Hi),.d (eB p3.Span.Open),.d (eI p3.Fixed),.d (eB p3.Bounded),.d (eB p3.Covers),.d (eI p3.iW),.slc 2 5 0 p4.length none,.d ((eL 2 aK) p5),.slc 3 2 0 p6.length none]),.box (.d (aI p7)),.row 5 (List.map cZ p4) true,.row 2 (List.map bA p6) true] (.tuple []) [.box (.agg [.iface 56 (.ref 1 0 0),.d (eS p1.Name),.d ((eL 7 aJ) p1.aV),.d ((eL 1 eI) p1.aR),.d ((eL 6 bF) p1.bn),.d (eI p1.Tree),.d ((eL 6 bg) p2.Pred),.d ((eL 1 eI) p2.aV),.d ((eL 2 aK) p2.Order),.d (eI p2.Limit),.d (eI p3.Index),.d (eS p3.Span.Lo),.d (eS p3.Span.Hi),.d (eB p3.Span.Open),.d (eI p3.Fixed),.d (eB p3.Bounded),.d (eB p3.Covers),.d (eI p3.iW),.slc 2 5 0 p4.length none,.d ((eL 2 aK) p5),.slc 3 2 0 p6.length none]),.box (.d (aI p7)),.row 5 (List.map cZ p4) true,.row 2 (List.map bA r) true]:=by
 unfold fV at h0
 refine fn0 [0,1] Tryz.func187 U U U U U ?_
 obtain ⟨auK,h1,h0⟩:=ob h0
 refine SC.blk (SC.eH h1 (fun y=>⟨mk 23 [(0,.iface 187 (.ref 0 0 19)),(1,.d (eI y.1))],[.box (.agg [.iface 56 (.ref 1 0 0),.d (eS p1.Name),.d ((eL 7 aJ) p1.aV),.d ((eL 1 eI) p1.aR),.d ((eL 6 bF) p1.bn),.d (eI p1.Tree),.d ((eL 6 bg) p2.Pred),.d ((eL 1 eI) p2.aV),.d ((eL 2 aK) p2.Order),.d (eI p2.Limit),.d (eI p3.Index),.d (eS p3.Span.Lo),.d (eS p3.Span.Hi),.d (eB p3.Span.Open),.d (eI p3.Fixed),.d (eB p3.Bounded),.d (eB p3.Covers),.d (eI p3.iW),.slc 2 5 0 p4.length none,.d ((eL 2 aK) p5),.slc 3 2 0 p6.length none]),.box (.d (aI p7)),.row 5 (List.map cZ p4) true,.row 2 (List.map bA y.2) true]⟩) (wq U) ?_)
 intro n94
 rintro ⟨JZ,MO⟩ auy h2 hv2
 refine SC.blk (sr (sm U (s1 (bi U U gX) (s1 (bi (v:=.d (eI (bL (Int.tdiv (bL (JZ - (1:Int))) (2:Int))))) U U (fun X Y=>OD _ X Y (bL (JZ - (1:Int))) (2:Int) (by decide))) (sa U (sn (sq (SC.dw h2 (fun y=>⟨mk 23 [(0,.iface 187 (.ref 0 0 19)),(1,.d (eI JZ)),(4,.d (eI (bL (Int.tdiv (bL (JZ - (1:Int))) (2:Int))))),(17,.d (eB y))],[.box (.agg [.iface 56 (.ref 1 0 0),.d (eS p1.Name),.d ((eL 7 aJ) p1.aV),.d ((eL 1 eI) p1.aR),.d ((eL 6 bF) p1.bn),.d (eI p1.Tree),.d ((eL 6 bg) p2.Pred),.d ((eL 1 eI) p2.aV),.d ((eL 2 aK) p2.Order),.d (eI p2.Limit),.d (eI p3.Index),.d (eS p3.Span.Lo),.d (eS p3.Span.Hi),.d (eB p3.Span.Open),.d (eI p3.Fixed),.d (eB p3.Bounded),.d (eB p3.Covers),.d (eI p3.iW),.slc 2 5 0 p4.length none,.d ((eL 2 aK) p5),.slc 3 2 0 p6.length none]),.box (.d (aI p7)),.row 5 (List.map cZ p4) true,.row 2 (List.map bA MO) true]⟩) ?_ ?_))))))))
 ·intro auz h3
  refine aO (sm U (sm U (s1 (bi U U bD) (sm U (sp h3 (fun h3=>?_) (fun h3=>?_))))))
  ·have q:=si h3;subst q
   exact kw U (kw U (kw U (kw U (kw U (s1 (pkt U U) (SO.nil ((wq U))))))))
  ·obtain ⟨r91,asR,h3⟩:=ob h3;have q:=si h3;subst q
   exact gw U (mv U) (gw U (mv U) (gw U (mv U) (iq [3] [] (nE p5 MO 0 p6.length JZ (bL (Int.tdiv (bL (JZ - (1:Int))) (2:Int))) _ asR) (ww U) U U U Es (IX (rv:=.agg [.d ((eL 2 aK) p5),.slc 3 2 0 p6.length none]) Dp (ak Aa FE U U)) ace U U U U U U U U (gw U (nt U) (s1 (eT U U) (SO.nil ((wq U))))))))
 ·rintro y88 h2
  refine cB h2 U (fun h2=>?_) (fun h2=>?_)
  ·have q:=si h2;subst q;have q:_=_:=hv2;subst q;have q:=si h0;subst q
   exact bZ (vH (Wk.refl _) aW U)
  ·obtain ⟨r93,abE,h2⟩:=ob h2;have q:=si h2;subst q
   refine sk (sr (sm U (sm U (sm U (iq [3] [] (nD p5 MO 0 p6.length (bL (Int.tdiv (bL (JZ - (1:Int))) (2:Int))) JZ _ abE) wf U U U Er (IX (rv:=.agg [.d ((eL 2 aK) p5),.slc 3 2 0 p6.length none]) Dp (ak Aa FE U U)) acd U U U U U U U U (sn (aO (sm U (sa U ?_)))))))))
   exact SO.nil (lf (wq U))
noncomputable def iT (p0:aG) (p1:aL) (p2:bG) (p3:bQ) (p4:List bO) (p5:List aX) (p6:List aG) (p7:Nat) (p8:Nat) (p9:ay):Option Unit:=
 bif decide (p7+p8≤p6.length) then
 bif decide ((p8+[p0].length)*40≤room) then
 some ()
 else none
 else none
theorem AP (p0:aG) (p1:aL) (p2:bG) (p3:bQ) (p4:List bO) (p5:List aX) (p6:List aG) (p7:Nat) (p8:Nat) (p9:ay) (r:Unit) (h0:iT p0 p1 p2 p3 p4 p5 p6 p7 p8 p9=some r):aT Tryz.prog 270 [.ref 0 0 19,.iface 185 (.d (bA p0))] [.box (.agg [.iface 56 (.ref 1 0 0),.d (eS p1.Name),.d ((eL 7 aJ) p1.aV),.d ((eL 1 eI) p1.aR),.d ((eL 6 bF) p1.bn),.d (eI p1.Tree),.d ((eL 6 bg) p2.Pred),.d ((eL 1 eI) p2.aV),.d ((eL 2 aK) p2.Order),.d (eI p2.Limit),.d (eI p3.Index),.d (eS p3.Span.Lo),.d (eS p3.Span.Hi),.d (eB p3.Span.Open),.d (eI p3.Fixed),.d (eB p3.Bounded),.d (eB p3.Covers),.d (eI p3.iW),.slc 2 5 0 p4.length none,.d ((eL 2 aK) p5),.slc 3 2 p7 p8 none]),.box (.d (aI p9)),.row 5 (List.map cZ p4) true,.row 2 (List.map bA p6) true] (.tuple []) [.box (.agg [.iface 56 (.ref 1 0 0),.d (eS p1.Name),.d ((eL 7 aJ) p1.aV),.d ((eL 1 eI) p1.aR),.d ((eL 6 bF) p1.bn),.d (eI p1.Tree),.d ((eL 6 bg) p2.Pred),.d ((eL 1 eI) p2.aV),.d ((eL 2 aK) p2.Order),.d (eI p2.Limit),.d (eI p3.Index),.d (eS p3.Span.Lo),.d (eS p3.Span.Hi),.d (eB p3.Span.Open),.d (eI p3.Fixed),.d (eB p3.Bounded),.d (eB p3.Covers),.d (eI p3.iW),.slc 2 5 0 p4.length none,.d ((eL 2 aK) p5),.slc 4 2 0 ((List.take p8 (List.drop p7 p6)++[p0]).length) none]),.box (.d (aI p9)),.row 5 (List.map cZ p4) true,.dead,.row 2 (List.map bA (List.take p8 (List.drop p7 p6)++[p0])) true]:=by
 unfold iT at h0
 refine fn0 [0,1] Tryz.func270 U U U U U ?_
 obtain ⟨hg6,h0⟩:=gd h0;obtain ⟨hg5,h0⟩:=gd h0;have q:=si h0;subst q
 refine SC.draws (by kernel_rfl) (t1 aH (mv U) U (t1 aH (mv U) U (t1 aH (lu U) U (t1 aH (far (k:=20) U l8 jY U) U (t1 ([0],false) (bK U (ak jY yE U U)) U (t1 aH (mv U) U (t1 aH (tya U Wx) U (t1 ([4],true) (rX (k:=4) (ds:=List.map bA [p0]) (off:=0) (l':=[p0].length) U xu agB U U (by rfl) U U U) U (t1 ([3,4,5],true) (app U U U U aoO (aS (f:=bA) (xs:=p6) (k:=5) xu agB U hg6 (dU (xs:=[p0]) U) hg5 U)) U ?_)))))))))
 refine t1 aH (lu U) U (t1 aH (far (k:=20) U l8 jY U) U (t0 ([0,5],true) (jF U U (sB (d':=.agg [.iface 56 (.ref 1 0 0),.d (eS p1.Name),.d ((eL 7 aJ) p1.aV),.d ((eL 1 eI) p1.aR),.d ((eL 6 bF) p1.bn),.d (eI p1.Tree),.d ((eL 6 bg) p2.Pred),.d ((eL 1 eI) p2.aV),.d ((eL 2 aK) p2.Order),.d (eI p2.Limit),.d (eI p3.Index),.d (eS p3.Span.Lo),.d (eS p3.Span.Hi),.d (eB p3.Span.Open),.d (eI p3.Fixed),.d (eB p3.Bounded),.d (eB p3.Covers),.d (eI p3.iW),.slc 2 5 0 p4.length none,.d ((eL 2 aK) p5),.slc 5 2 0 ((List.take p8 (List.drop p7 p6)++[p0]).length) none]) jY U U U U U U U)) U (ST.nil (And.intro (by decide +kernel) ?_))))
 exact vH (aC (e':=[]) [0,1,2,3,5] [0,1,2,3] U) aW U
noncomputable def fH (p0:aG) (p1:aL) (p2:bG) (p3:bQ) (p4:List bO) (p5:List aX) (p6:List aG) (p7:Nat) (p8:Nat) (p9:ay):Option ((List aG)):=
 ah (iT p0 p1 p2 p3 p4 p5 p6 p7 p8 p9) fun _=>
 ah (pQ p5 (List.take p8 (List.drop p7 p6)++[p0])) fun _=>
 ah (fV (bL (((List.take p8 (List.drop p7 p6)++[p0]).length:Int) - (1:Int))) p1 p2 p3 p4 p5 (List.take p8 (List.drop p7 p6)++[p0]) p9) fun PE=>
 some PE
theorem yj (p0:aG) (p1:aL) (p2:bG) (p3:bQ) (p4:List bO) (p5:List aX) (p6:List aG) (p7:Nat) (p8:Nat) (p9:ay) (r:(List aG)) (h0:fH p0 p1 p2 p3 p4 p5 p6 p7 p8 p9=some r):aT Tryz.prog 152 [.iface 187 (.ref 0 0 19),.iface 185 (.d (bA p0))] [.box (.agg [.iface 56 (.ref 1 0 0),.d (eS p1.Name),.d ((eL 7 aJ) p1.aV),.d ((eL 1 eI) p1.aR),.d ((eL 6 bF) p1.bn),.d (eI p1.Tree),.d ((eL 6 bg) p2.Pred),.d ((eL 1 eI) p2.aV),.d ((eL 2 aK) p2.Order),.d (eI p2.Limit),.d (eI p3.Index),.d (eS p3.Span.Lo),.d (eS p3.Span.Hi),.d (eB p3.Span.Open),.d (eI p3.Fixed),.d (eB p3.Bounded),.d (eB p3.Covers),.d (eI p3.iW),.slc 2 5 0 p4.length none,.d ((eL 2 aK) p5),.slc 3 2 p7 p8 none]),.box (.d (aI p9)),.row 5 (List.map cZ p4) true,.row 2 (List.map bA p6) true] (.tuple []) [.box (.agg [.iface 56 (.ref 1 0 0),.d (eS p1.Name),.d ((eL 7 aJ) p1.aV),.d ((eL 1 eI) p1.aR),.d ((eL 6 bF) p1.bn),.d (eI p1.Tree),.d ((eL 6 bg) p2.Pred),.d ((eL 1 eI) p2.aV),.d ((eL 2 aK) p2.Order),.d (eI p2.Limit),.d (eI p3.Index),.d (eS p3.Span.Lo),.d (eS p3.Span.Hi),.d (eB p3.Span.Open),.d (eI p3.Fixed),.d (eB p3.Bounded),.d (eB p3.Covers),.d (eI p3.iW),.slc 2 5 0 p4.length none,.d ((eL 2 aK) p5),.slc 4 2 0 ((List.take p8 (List.drop p7 p6)++[p0]).length) none]),.box (.d (aI p9)),.row 5 (List.map cZ p4) true,.dead,.row 2 (List.map bA r) true]:=by
 unfold fH at h0
 refine fn0 [0,1] Tryz.func152 U U U U U ?_
 obtain ⟨_,atd,h0⟩:=ob h0;obtain ⟨_,hq11,h0⟩:=ob h0;obtain ⟨PE,hq12,h0⟩:=ob h0;have q:=si h0;subst q
 refine sr (sm U (sm U (iq [0,1,2,3] [4] (AP p0 p1 p2 p3 p4 p5 p6 p7 p8 p9 _ atd) wf U U U UH (afs Dp) anT U U U U U U U U (sn (aO (sm U (sm U (iq [4] [] (EG p5 (List.take p8 (List.drop p7 p6)++[p0]) _ hq11) wf U U U Oh (IX (rv:=.agg [.d ((eL 2 aK) p5),.slc 4 2 0 ((List.take p8 (List.drop p7 p6)++[p0]).length) none]) Dp (ak Aa FE U U)) aci U U U U U U U U (s1 (bi U U gX) ?_)))))))))
 exact cq [0,1,2,4] [] (zQ (bL (((List.take p8 (List.drop p7 p6)++[p0]).length:Int) - (1:Int))) p1 p2 p3 p4 p5 (List.take p8 (List.drop p7 p6)++[p0]) p9 _ hq12) wf U U U aoh U U U U U U U U (SO.nil (vH (Wk.refl _) aW U))
noncomputable def iy (p0:aG) (p1:aL) (p2:bG) (p3:bQ) (p4:List bO) (p5:List aX) (p6:List aG) (p7:Nat) (p8:Nat) (p9:ay):Option ((List aG)×Nat×Nat):=
 ah (qC p2.Pred p0.row) fun PE=>
 bif PE then
 ah (fH p0 p1 p2 p3 p4 p5 p6 p7 p8 p9) fun r15=>
 some (r15,0,(List.take p8 (List.drop p7 p6)++[p0]).length)
 else
 some (p6,p7,p8)
theorem EH (p0:aG) (p1:aL) (p2:bG) (p3:bQ) (p4:List bO) (p5:List aX) (p6:List aG) (p7:Nat) (p8:Nat) (p9:ay) (r:(List aG)×Nat×Nat) (h0:iy p0 p1 p2 p3 p4 p5 p6 p7 p8 p9=some r):aT Tryz.prog 98 [.ref 0 0 0,.d (bA p0)] [.box (.agg [.iface 56 (.ref 1 0 0),.d (eS p1.Name),.d ((eL 7 aJ) p1.aV),.d ((eL 1 eI) p1.aR),.d ((eL 6 bF) p1.bn),.d (eI p1.Tree),.d ((eL 6 bg) p2.Pred),.d ((eL 1 eI) p2.aV),.d ((eL 2 aK) p2.Order),.d (eI p2.Limit),.d (eI p3.Index),.d (eS p3.Span.Lo),.d (eS p3.Span.Hi),.d (eB p3.Span.Open),.d (eI p3.Fixed),.d (eB p3.Bounded),.d (eB p3.Covers),.d (eI p3.iW),.slc 2 5 0 p4.length none,.d ((eL 2 aK) p5),.slc 3 2 p7 p8 none]),.box (.d (aI p9)),.row 5 (List.map cZ p4) true,.row 2 (List.map bA p6) true] (.tuple []) [.box (.agg [.iface 56 (.ref 1 0 0),.d (eS p1.Name),.d ((eL 7 aJ) p1.aV),.d ((eL 1 eI) p1.aR),.d ((eL 6 bF) p1.bn),.d (eI p1.Tree),.d ((eL 6 bg) p2.Pred),.d ((eL 1 eI) p2.aV),.d ((eL 2 aK) p2.Order),.d (eI p2.Limit),.d (eI p3.Index),.d (eS p3.Span.Lo),.d (eS p3.Span.Hi),.d (eB p3.Span.Open),.d (eI p3.Fixed),.d (eB p3.Bounded),.d (eB p3.Covers),.d (eI p3.iW),.slc 2 5 0 p4.length none,.d ((eL 2 aK) p5),.slc 4 2 r.2.1 r.2.2 none]),.box (.d (aI p9)),.row 5 (List.map cZ p4) true,.dead,.row 2 (List.map bA r.1) true]:=by
 unfold iy at h0
 refine fn0 [0,1] Tryz.func98 U U U U U ?_
 obtain ⟨PE,hq12,h0⟩:=ob h0
 refine sr (s1 (nN (k:=4) U U U) (sn (sd (by kernel_rfl) (t1 aH (mv U) U (t1 aH (lu U) U (t1 aH (far (k:=6) U Gp yD U) U (t1 aH (far (k:=6) U Qi Rh U) U (t1 ([0],false) (bK U (ak Rh ahj U U)) U (t1 aH (far (k:=0) U Ke ni U) U ?_)))))))))
 refine t1 ([4],false) (bK U (ak ni zk U U)) U (Hg (PG p2.Pred p0.row _ hq12) wf U U U at5 U (fun _=>rfl) (fun _=>rfl) (tn (by decide +kernel) (cB h0 U (fun h0=>?_) (fun h0=>?_))))
 ·obtain ⟨r15,aii,h0⟩:=ob h0;have q:=si h0;subst q
  refine SC.draws (by kernel_rfl) (t1 aH (mv U) U (t1 aH (lu U) U (t1 aH (far (k:=19) U Qk Aa U) U (t1 aH (mki U afC) U (t1 ([4],false) (bK (v:=.d (bA p0)) U (ak o9 KG U U)) U (t1 aH (mki U Wx) U (tq [0,1,2,3] [5] ([0,1,2,3,5],true) (yj p0 p1 p2 p3 p4 p5 p6 p7 p8 p9 _ aii) wf U U U aou U U U U U U U U U (ST.nil (And.intro (by decide +kernel) ?_)))))))))
  exact vH (Wk.trans (wq (e':=[]) U) (aC (e':=[]) [0,1,2,3,5] [0,1,2,3] U)) aW U
 ·have q:=si h0;subst q
  exact bR (vH (Wk.trans (wq (e':=[]) U) (Wk.trans (Wk.move (e':=[]) (os:=[.box (.agg [.iface 56 (.ref 1 0 0),.d (eS p1.Name),.d ((eL 7 aJ) p1.aV),.d ((eL 1 eI) p1.aR),.d ((eL 6 bF) p1.bn),.d (eI p1.Tree),.d ((eL 6 bg) p2.Pred),.d ((eL 1 eI) p2.aV),.d ((eL 2 aK) p2.Order),.d (eI p2.Limit),.d (eI p3.Index),.d (eS p3.Span.Lo),.d (eS p3.Span.Hi),.d (eB p3.Span.Open),.d (eI p3.Fixed),.d (eB p3.Bounded),.d (eB p3.Covers),.d (eI p3.iW),.slc 2 5 0 p4.length none,.d ((eL 2 aK) p5),.slc 5 2 p7 p8 none]),.box (.d (aI p9)),.row 5 (List.map cZ p4) true,.row 2 (List.map bA p6) true,.box (.d (bA p0))]) (o:=.row 2 (List.map bA p6) true) (σ':=[.box (.agg [.iface 56 (.ref 1 0 0),.d (eS p1.Name),.d ((eL 7 aJ) p1.aV),.d ((eL 1 eI) p1.aR),.d ((eL 6 bF) p1.bn),.d (eI p1.Tree),.d ((eL 6 bg) p2.Pred),.d ((eL 1 eI) p2.aV),.d ((eL 2 aK) p2.Order),.d (eI p2.Limit),.d (eI p3.Index),.d (eS p3.Span.Lo),.d (eS p3.Span.Hi),.d (eB p3.Span.Open),.d (eI p3.Fixed),.d (eB p3.Bounded),.d (eB p3.Covers),.d (eI p3.iW),.slc 2 5 0 p4.length none,.d ((eL 2 aK) p5),.slc 5 2 p7 p8 none]),.box (.d (aI p9)),.row 5 (List.map cZ p4) true,.dead,.box (.d (bA p0)),.row 2 (List.map bA p6) true]) 3 (Nat.le_of_ble_eq_true U) U U U U) (aC (e':=[]) [0,1,2,3,5] [0,1,2,3] U))) aW U)
noncomputable def iw (p0:List UInt8) (p1:aL) (p2:bG) (p3:bQ) (p4:List bO) (p5:List aX) (p6:List aG) (p7:Nat) (p8:Nat) (p9:ay):Option (Int×(List aG)×Nat×Nat):=
 ah (pX p1.aV p0) fun (RI,RH)=>
 bif (RH != (0:Int)) then
 some ((2:Int),p6,p7,p8)
 else
 ah (iF p1 RI) fun (GU,RG)=>
 ah (α:=(List aG)×Nat×Nat)
 (bif (RG==(0:Int)) then
 ah (iy (aG.mk RI GU) p1 p2 p3 p4 p5 p6 p7 p8 p9) fun (r56,DF,r58)=>
 some (r56,DF,r58)
 else
 some (p6,p7,p8))
 fun (y51,II,y53)=>
 some (RG,y51,II,y53)
theorem Gu (p0:List UInt8) (p1:aL) (p2:bG) (p3:bQ) (p4:List bO) (p5:List aX) (p6:List aG) (p7:Nat) (p8:Nat) (p9:ay) (r:Int×(List aG)×Nat×Nat) (h0:iw p0 p1 p2 p3 p4 p5 p6 p7 p8 p9=some r):aT Tryz.prog 95 [.ref 0 0 0,.d (eS p0)] [.box (.agg [.iface 56 (.ref 1 0 0),.d (eS p1.Name),.d ((eL 7 aJ) p1.aV),.d ((eL 1 eI) p1.aR),.d ((eL 6 bF) p1.bn),.d (eI p1.Tree),.d ((eL 6 bg) p2.Pred),.d ((eL 1 eI) p2.aV),.d ((eL 2 aK) p2.Order),.d (eI p2.Limit),.d (eI p3.Index),.d (eS p3.Span.Lo),.d (eS p3.Span.Hi),.d (eB p3.Span.Open),.d (eI p3.Fixed),.d (eB p3.Bounded),.d (eB p3.Covers),.d (eI p3.iW),.slc 2 5 0 p4.length none,.d ((eL 2 aK) p5),.slc 3 2 p7 p8 none]),.box (.d (aI p9)),.row 5 (List.map cZ p4) true,.row 2 (List.map bA p6) true] (.d (eI r.1)) [.box (.agg [.iface 56 (.ref 1 0 0),.d (eS p1.Name),.d ((eL 7 aJ) p1.aV),.d ((eL 1 eI) p1.aR),.d ((eL 6 bF) p1.bn),.d (eI p1.Tree),.d ((eL 6 bg) p2.Pred),.d ((eL 1 eI) p2.aV),.d ((eL 2 aK) p2.Order),.d (eI p2.Limit),.d (eI p3.Index),.d (eS p3.Span.Lo),.d (eS p3.Span.Hi),.d (eB p3.Span.Open),.d (eI p3.Fixed),.d (eB p3.Bounded),.d (eB p3.Covers),.d (eI p3.iW),.slc 2 5 0 p4.length none,.d ((eL 2 aK) p5),.slc 4 2 r.2.2.1 r.2.2.2 none]),.box (.d (aI p9)),.row 5 (List.map cZ p4) true,.dead,.row 2 (List.map bA r.2.1) true]:=by
 unfold iw at h0
 refine fn0 [0,1] Tryz.func95 U U U U U ?_
 obtain ⟨⟨RI,RH⟩,as2,h0⟩:=ob h0
 refine sr (sa U (sn (sr (sm U (s1 (lu U) (s1 (far (k:=1) U Qm oU U) (s1 (far (k:=2) U l6 mE U) (s1 (bK U (ak mE AA U U)) (sm U ?_)))))))))
 refine c0 (M9 p1.aV p0 _ as2) wf U U U aoy U (fun _=>rfl) (fun _=>rfl) (sm U (s1 (ext U U) (s1 (ext U U) (sa U (sa U (sn (sq (sr (sm U ?_)))))))))
 refine s1 (bi U U dA) (sn (cB h0 U (fun h0=>?_) (fun h0=>?_)))
 ·have q:=si h0;subst q
  exact sr (sa U (sn (aM (bM (Wk.trans (wq (e':=[(4,.d (eI (2:Int)))]) U) (Wk.trans (Wk.move (e':=[(4,.d (eI (2:Int)))]) (os:=[.box (.agg [.iface 56 (.ref 1 0 0),.d (eS p1.Name),.d ((eL 7 aJ) p1.aV),.d ((eL 1 eI) p1.aR),.d ((eL 6 bF) p1.bn),.d (eI p1.Tree),.d ((eL 6 bg) p2.Pred),.d ((eL 1 eI) p2.aV),.d ((eL 2 aK) p2.Order),.d (eI p2.Limit),.d (eI p3.Index),.d (eS p3.Span.Lo),.d (eS p3.Span.Hi),.d (eB p3.Span.Open),.d (eI p3.Fixed),.d (eB p3.Bounded),.d (eB p3.Covers),.d (eI p3.iW),.slc 2 5 0 p4.length none,.d ((eL 2 aK) p5),.slc 4 2 p7 p8 none]),.box (.d (aI p9)),.row 5 (List.map cZ p4) true,.row 2 (List.map bA p6) true]) (o:=.row 2 (List.map bA p6) true) (σ':=[.box (.agg [.iface 56 (.ref 1 0 0),.d (eS p1.Name),.d ((eL 7 aJ) p1.aV),.d ((eL 1 eI) p1.aR),.d ((eL 6 bF) p1.bn),.d (eI p1.Tree),.d ((eL 6 bg) p2.Pred),.d ((eL 1 eI) p2.aV),.d ((eL 2 aK) p2.Order),.d (eI p2.Limit),.d (eI p3.Index),.d (eS p3.Span.Lo),.d (eS p3.Span.Hi),.d (eB p3.Span.Open),.d (eI p3.Fixed),.d (eB p3.Bounded),.d (eB p3.Covers),.d (eI p3.iW),.slc 2 5 0 p4.length none,.d ((eL 2 aK) p5),.slc 4 2 p7 p8 none]),.box (.d (aI p9)),.row 5 (List.map cZ p4) true,.dead,.row 2 (List.map bA p6) true]) 3 (Nat.le_of_ble_eq_true U) U U U U) (wq (e':=[(4,.d (eI (2:Int)))]) U))) (bq U aW) U))))
 ·obtain ⟨⟨GU,RG⟩,ahU,h0⟩:=ob h0
  refine sk (sr (sm U (s1 (lu U) (s1 (far (k:=1) U Qm oU U) (s1 (bK (v:=.d (bE p1)) U (ak oU uQ U U)) (sm U (c0 (FJ p1 RI _ ahU) wf U U U aox U (fun _=>rfl) (fun _=>rfl) (sm U (s1 (ext U U) ?_)))))))))
  refine s1 (ext U U) (sa U (sa U (sn (SC.dw h0 (fun y=>⟨mk 37 [(6,.d (eI RG))],[.box (.agg [.iface 56 (.ref 1 0 0),.d (eS p1.Name),.d ((eL 7 aJ) p1.aV),.d ((eL 1 eI) p1.aR),.d ((eL 6 bF) p1.bn),.d (eI p1.Tree),.d ((eL 6 bg) p2.Pred),.d ((eL 1 eI) p2.aV),.d ((eL 2 aK) p2.Order),.d (eI p2.Limit),.d (eI p3.Index),.d (eS p3.Span.Lo),.d (eS p3.Span.Hi),.d (eB p3.Span.Open),.d (eI p3.Fixed),.d (eB p3.Bounded),.d (eB p3.Covers),.d (eI p3.iW),.slc 2 5 0 p4.length none,.d ((eL 2 aK) p5),.slc 4 2 y.2.1 y.2.2 none]),.box (.d (aI p9)),.row 5 (List.map cZ p4) true,.dead,.row 2 (List.map bA y.1) true]⟩) ?_ ?_))))
  ·intro auR h1
   refine sr (sm U (s1 (bi U U bD) (sn (cB h1 U (fun h1=>?_) (fun h1=>?_)))))
   ·obtain ⟨⟨r56,DF,r58⟩,asZ,h1⟩:=ob h1;have q:=si h1;subst q
    exact aO (sm U (sm U (sm U (s1 (vg U (YL RI GU)) (cq [0,1,2,3] [4] (EH (aG.mk RI GU) p1 p2 p3 p4 p5 p6 p7 p8 p9 _ asZ) wf U U U atD U U U U U U U U (SO.nil ((Wk.trans (wq (e':=[(6,.d (eI RG))]) U) (wq U)))))))))
   ·have q:=si h1;subst q
    exact bR ((Wk.trans (wq (e':=[(6,.d (eI RG))]) U) (Wk.trans (Wk.move (e':=[(6,.d (eI RG))]) (os:=[.box (.agg [.iface 56 (.ref 1 0 0),.d (eS p1.Name),.d ((eL 7 aJ) p1.aV),.d ((eL 1 eI) p1.aR),.d ((eL 6 bF) p1.bn),.d (eI p1.Tree),.d ((eL 6 bg) p2.Pred),.d ((eL 1 eI) p2.aV),.d ((eL 2 aK) p2.Order),.d (eI p2.Limit),.d (eI p3.Index),.d (eS p3.Span.Lo),.d (eS p3.Span.Hi),.d (eB p3.Span.Open),.d (eI p3.Fixed),.d (eB p3.Bounded),.d (eB p3.Covers),.d (eI p3.iW),.slc 2 5 0 p4.length none,.d ((eL 2 aK) p5),.slc 4 2 p7 p8 none]),.box (.d (aI p9)),.row 5 (List.map cZ p4) true,.row 2 (List.map bA p6) true]) (o:=.row 2 (List.map bA p6) true) (σ':=[.box (.agg [.iface 56 (.ref 1 0 0),.d (eS p1.Name),.d ((eL 7 aJ) p1.aV),.d ((eL 1 eI) p1.aR),.d ((eL 6 bF) p1.bn),.d (eI p1.Tree),.d ((eL 6 bg) p2.Pred),.d ((eL 1 eI) p2.aV),.d ((eL 2 aK) p2.Order),.d (eI p2.Limit),.d (eI p3.Index),.d (eS p3.Span.Lo),.d (eS p3.Span.Hi),.d (eB p3.Span.Open),.d (eI p3.Fixed),.d (eB p3.Bounded),.d (eB p3.Covers),.d (eI p3.iW),.slc 2 5 0 p4.length none,.d ((eL 2 aK) p5),.slc 4 2 p7 p8 none]),.box (.d (aI p9)),.row 5 (List.map cZ p4) true,.dead,.row 2 (List.map bA p6) true]) 3 (Nat.le_of_ble_eq_true U) U U U U) (wq U))))
  ·rintro ⟨y51,II,y53⟩ h0
   have q:=si h0;subst q
   exact sr (sm U (sa U (sn (aM (bM (Wk.trans (wq (e':=[(4,.d (eI RG))]) U) (wq (e':=[(4,.d (eI RG))]) U)) (bq U aW) U)))))
noncomputable def ig (p0:aL) (p1:bG) (p2:bQ) (p3:List aX) (p4:ay):Option (Int×(List aG)×Nat×Nat):=
 ah (je p0.Tree p0 p1 p2 p3 p4) fun (Nl,Ya)=>
 ah (α:=Int×(List aG)×Nat×Nat)
 (ah (α:=Int×(List aG)×Nat×Nat)
 (loop (Y:=Int×Int×(List aG)×Nat×Nat) (W:=Int×(List aG)×Nat×Nat) (fun (Jl,G5,GZ,GY,GX)=>
 bif (decide (G5 < (Nl.length:Int))) then
 ah (α:=Int×(List aG)×Nat×Nat)
 (ah (bP Nl G5) fun OX=>
 bif (Jl==(0:Int)) then
 ah (iw OX.Val p0 p1 p2 [(bO.mk p0.Tree p2.Span false)] p3 GZ GY GX (ay.mk p4.no p4.trees (bL (p4.calls+(1:Int))) p4.fail)) fun (X9,X8,X7,X6)=>
 some (X9,X8,X7,X6)
 else
 some (Jl,GZ,GY,GX))
 fun (Xv,Xu,Xt,Xr)=>
 some (Sum.inl (Xv,(bL (G5+(1:Int))),Xu,Xt,Xr))
 else
 some (Sum.inr (Jl,GZ,GY,GX))) (Ya,(0:Int),([]:List aG),0,([]:List aG).length))
 (fun e=>some e))
 fun (adg,adf,TY,ade)=>
 some (adg,adf,TY,ade)
theorem Gs (p0:aL) (p1:bG) (p2:bQ) (p3:List aX) (p4:ay) (r:Int×(List aG)×Nat×Nat) (h0:ig p0 p1 p2 p3 p4=some r):aT Tryz.prog 50 [.ref 0 0 0] [.box (.agg [.iface 56 (.ref 1 0 0),.d (eS p0.Name),.d ((eL 7 aJ) p0.aV),.d ((eL 1 eI) p0.aR),.d ((eL 6 bF) p0.bn),.d (eI p0.Tree),.d ((eL 6 bg) p1.Pred),.d ((eL 1 eI) p1.aV),.d ((eL 2 aK) p1.Order),.d (eI p1.Limit),.d (eI p2.Index),.d (eS p2.Span.Lo),.d (eS p2.Span.Hi),.d (eB p2.Span.Open),.d (eI p2.Fixed),.d (eB p2.Bounded),.d (eB p2.Covers),.d (eI p2.iW),.d .dB,.d ((eL 2 aK) p3),.d .dB]),.box (.d (aI p4))] (.d (eI r.1)) [.box (.agg [.iface 56 (.ref 1 0 0),.d (eS p0.Name),.d ((eL 7 aJ) p0.aV),.d ((eL 1 eI) p0.aR),.d ((eL 6 bF) p0.bn),.d (eI p0.Tree),.d ((eL 6 bg) p1.Pred),.d ((eL 1 eI) p1.aV),.d ((eL 2 aK) p1.Order),.d (eI p1.Limit),.d (eI p2.Index),.d (eS p2.Span.Lo),.d (eS p2.Span.Hi),.d (eB p2.Span.Open),.d (eI p2.Fixed),.d (eB p2.Bounded),.d (eB p2.Covers),.d (eI p2.iW),.slc 2 5 0 ([(bO.mk p0.Tree p2.Span false)].length) none,.d ((eL 2 aK) p3),.slc 3 2 r.2.2.1 r.2.2.2 none]),.box (.d (aI (ay.mk p4.no p4.trees (bL (p4.calls+(1:Int))) p4.fail))),.row 5 (List.map cZ [(bO.mk p0.Tree p2.Span false)]) true,.row 2 (List.map bA r.2.1) true]:=by
 unfold ig at h0
 refine fn0 [0] Tryz.func50 U U U U U ?_
 obtain ⟨⟨Nl,Ya⟩,al3,h0⟩:=ob h0
 refine sr (sa U (sn (sr (sm U (sm U (s1 (lu U) (s1 (far (k:=1) U Qm oU U) (s1 (far (k:=5) U U6 dH U) (s1 (bK U (ak dH gV U U)) ?_)))))))))
 refine cq [0,1] [2] (Gt p0.Tree p0 p1 p2 p3 p4 _ al3) wf U U U atF U U U U U U U U (sm U (s1 (ext U U) (s1 (ext U U) (sa U (sa U (sn (SC.dw h0 (fun y=>⟨mk 31 [(4,.d (eI y.1))],[.box (.agg [.iface 56 (.ref 1 0 0),.d (eS p0.Name),.d ((eL 7 aJ) p0.aV),.d ((eL 1 eI) p0.aR),.d ((eL 6 bF) p0.bn),.d (eI p0.Tree),.d ((eL 6 bg) p1.Pred),.d ((eL 1 eI) p1.aV),.d ((eL 2 aK) p1.Order),.d (eI p1.Limit),.d (eI p2.Index),.d (eS p2.Span.Lo),.d (eS p2.Span.Hi),.d (eB p2.Span.Open),.d (eI p2.Fixed),.d (eB p2.Bounded),.d (eB p2.Covers),.d (eI p2.iW),.slc 2 5 0 ([(bO.mk p0.Tree p2.Span false)].length) none,.d ((eL 2 aK) p3),.slc 3 2 y.2.2.1 y.2.2.2 none]),.box (.d (aI (ay.mk p4.no p4.trees (bL (p4.calls+(1:Int))) p4.fail))),.row 5 (List.map cZ [(bO.mk p0.Tree p2.Span false)]) true,.row 2 (List.map bA y.2.1) true]⟩) ?_ ?_)))))))
 ·intro arP h1
  obtain ⟨aq9,h2,h1⟩:=ob h1
  refine sr (sm U (s1 (len U U U (bN V4)) (sm U (sn (SC.blk (SC.eH h2 (fun y=>⟨mk 31 [(0,.ref 0 0 0),(4,.d (eI y.1)),(17,.d ((eL 2 dS) Nl)),(18,.d (eI (Nl.length:Int))),(19,.d (eI y.2.1))],[.box (.agg [.iface 56 (.ref 1 0 0),.d (eS p0.Name),.d ((eL 7 aJ) p0.aV),.d ((eL 1 eI) p0.aR),.d ((eL 6 bF) p0.bn),.d (eI p0.Tree),.d ((eL 6 bg) p1.Pred),.d ((eL 1 eI) p1.aV),.d ((eL 2 aK) p1.Order),.d (eI p1.Limit),.d (eI p2.Index),.d (eS p2.Span.Lo),.d (eS p2.Span.Hi),.d (eB p2.Span.Open),.d (eI p2.Fixed),.d (eB p2.Bounded),.d (eB p2.Covers),.d (eI p2.iW),.slc 2 5 0 ([(bO.mk p0.Tree p2.Span false)].length) none,.d ((eL 2 aK) p3),.slc 3 2 y.2.2.2.1 y.2.2.2.2 none]),.box (.d (aI (ay.mk p4.no p4.trees (bL (p4.calls+(1:Int))) p4.fail))),.row 5 (List.map cZ [(bO.mk p0.Tree p2.Span false)]) true,.row 2 (List.map bA y.2.2.1) true]⟩) (Wk.trans (Wk.nI (σ':=[.box (.agg [.iface 56 (.ref 1 0 0),.d (eS p0.Name),.d ((eL 7 aJ) p0.aV),.d ((eL 1 eI) p0.aR),.d ((eL 6 bF) p0.bn),.d (eI p0.Tree),.d ((eL 6 bg) p1.Pred),.d ((eL 1 eI) p1.aV),.d ((eL 2 aK) p1.Order),.d (eI p1.Limit),.d (eI p2.Index),.d (eS p2.Span.Lo),.d (eS p2.Span.Hi),.d (eB p2.Span.Open),.d (eI p2.Fixed),.d (eB p2.Bounded),.d (eB p2.Covers),.d (eI p2.iW),.slc 2 5 0 ([(bO.mk p0.Tree p2.Span false)].length) none,.d ((eL 2 aK) p3),.d .dB]),.box (.d (aI (ay.mk p4.no p4.trees (bL (p4.calls+(1:Int))) p4.fail))),.row 5 (List.map cZ [(bO.mk p0.Tree p2.Span false)]) true,.row 2 (List.map bA ([]:List aG)) true]) (.row 2 [] true) (fun _ hh=>by cases hh) U) (Wk.trans (Wk.Vd (id:=0) (y:=.agg [.iface 56 (.ref 1 0 0),.d (eS p0.Name),.d ((eL 7 aJ) p0.aV),.d ((eL 1 eI) p0.aR),.d ((eL 6 bF) p0.bn),.d (eI p0.Tree),.d ((eL 6 bg) p1.Pred),.d ((eL 1 eI) p1.aV),.d ((eL 2 aK) p1.Order),.d (eI p1.Limit),.d (eI p2.Index),.d (eS p2.Span.Lo),.d (eS p2.Span.Hi),.d (eB p2.Span.Open),.d (eI p2.Fixed),.d (eB p2.Bounded),.d (eB p2.Covers),.d (eI p2.iW),.slc 2 5 0 ([(bO.mk p0.Tree p2.Span false)].length) none,.d ((eL 2 aK) p3),.slc 3 2 0 (([]:List aG).length) none]) (σ':=[.box (.agg [.iface 56 (.ref 1 0 0),.d (eS p0.Name),.d ((eL 7 aJ) p0.aV),.d ((eL 1 eI) p0.aR),.d ((eL 6 bF) p0.bn),.d (eI p0.Tree),.d ((eL 6 bg) p1.Pred),.d ((eL 1 eI) p1.aV),.d ((eL 2 aK) p1.Order),.d (eI p1.Limit),.d (eI p2.Index),.d (eS p2.Span.Lo),.d (eS p2.Span.Hi),.d (eB p2.Span.Open),.d (eI p2.Fixed),.d (eB p2.Bounded),.d (eB p2.Covers),.d (eI p2.iW),.slc 2 5 0 ([(bO.mk p0.Tree p2.Span false)].length) none,.d ((eL 2 aK) p3),.slc 3 2 0 (([]:List aG).length) none]),.box (.d (aI (ay.mk p4.no p4.trees (bL (p4.calls+(1:Int))) p4.fail))),.row 5 (List.map cZ [(bO.mk p0.Tree p2.Span false)]) true,.row 2 (List.map bA ([]:List aG)) true]) U (jX.cons (AW.refl _) (jX.cons (AW.refl _) (jX.cons (AW.refl _) (jX.cons (AW.refl _) (jX.cons (AW.refl _) (jX.cons (AW.refl _) (jX.cons (AW.refl _) (jX.cons (AW.refl _) (jX.cons (AW.refl _) (jX.cons (AW.refl _) (jX.cons (AW.refl _) (jX.cons (AW.refl _) (jX.cons (AW.refl _) (jX.cons (AW.refl _) (jX.cons (AW.refl _) (jX.cons (AW.refl _) (jX.cons (AW.refl _) (jX.cons (AW.refl _) (jX.cons (AW.refl _) (jX.cons (AW.refl _) (jX.cons (AW.mH _ _ _) jX.nil))))))))))))))))))))) U) (wq U))) ?_))))))
  intro avp
  rintro ⟨Jl,G5,GZ,GY,GX⟩ ap6 h3 hv3
  refine sr (s1 (bi U U bB) (sn (sq (cB h3 U (fun h3=>?_) (fun h3=>?_)))))
  ·refine sk (SC.dw h3 (fun y=>⟨mk 31 [(0,.ref 0 0 0),(4,.d (eI y.1)),(17,.d ((eL 2 dS) Nl)),(18,.d (eI (Nl.length:Int))),(19,.d (eI G5))],[.box (.agg [.iface 56 (.ref 1 0 0),.d (eS p0.Name),.d ((eL 7 aJ) p0.aV),.d ((eL 1 eI) p0.aR),.d ((eL 6 bF) p0.bn),.d (eI p0.Tree),.d ((eL 6 bg) p1.Pred),.d ((eL 1 eI) p1.aV),.d ((eL 2 aK) p1.Order),.d (eI p1.Limit),.d (eI p2.Index),.d (eS p2.Span.Lo),.d (eS p2.Span.Hi),.d (eB p2.Span.Open),.d (eI p2.Fixed),.d (eB p2.Bounded),.d (eB p2.Covers),.d (eI p2.iW),.slc 2 5 0 ([(bO.mk p0.Tree p2.Span false)].length) none,.d ((eL 2 aK) p3),.slc 3 2 y.2.2.1 y.2.2.2 none]),.box (.d (aI (ay.mk p4.no p4.trees (bL (p4.calls+(1:Int))) p4.fail))),.row 5 (List.map cZ [(bO.mk p0.Tree p2.Span false)]) true,.row 2 (List.map bA y.2.1) true]⟩) ?_ ?_)
   ·intro aqP h4
    obtain ⟨OX,afR,h4⟩:=ob h4
    refine SC.blk (sr (s1 (kV U U V4 Rf (aB afR).1 (bI (aB afR).2) U) (s1 (bK (v:=.d (dS OX)) U (bY Rf ahi U)) (s1 (yA (k:=4) ac1 U) (s0 (jF U U (sB (d':=.d (dS OX)) Rf U U U U U U U)) (sn (sr (sm U (s1 (bi U U bD) ?_)))))))))
    refine sn (cB h4 U (fun h4=>?_) (fun h4=>?_))
    ·obtain ⟨⟨X9,X8,X7,X6⟩,alP,h4⟩:=ob h4;have q:=si h4;subst q
     exact aO (sm U (s1 (far (k:=1) U U1 iA U) (s1 (bK U (ak iA qw U U)) (cq [0,1,2,3] [5] (Gu OX.Val p0 p1 p2 [(bO.mk p0.Tree p2.Span false)] p3 GZ GY GX (ay.mk p4.no p4.trees (bL (p4.calls+(1:Int))) p4.fail) _ alP) wf U U U atE U U U U U U U U (sa U (SO.nil ((aC [0,1,2,5] [0,1,0] U))))))))
    ·have q:=si h4;subst q
     exact bR ((aC [0,1,2,3] [0,1,0] U))
   ·rintro ⟨Xv,Xu,Xt,Xr⟩ h3
    have q:=si h3;subst q
    exact aO (s1 (bi U U bH) (sm U (SO.nil (lf (wq U)))))
  ·have q:=si h3;subst q;have q:_=_:=hv3;subst q;have q:=si h1;subst q
   exact bZ ((wq U))
 ·rintro ⟨adg,adf,TY,ade⟩ h0
  have q:=si h0;subst q
  exact sr (sm U (sa U (sn (aM (bM (Wk.refl _) (bq U aW) U)))))
noncomputable def ji (p0:List aX) (p1:List aG) (p2:Nat) (p3:Nat):Option Unit:=
 some ()
theorem uK (p0:List aX) (p1:List aG) (p2:Nat) (p3:Nat) (r:Unit) (h0:ji p0 p1 p2 p3=some r):aT Tryz.prog 100 [.agg [.d ((eL 2 aK) p0),.slc 0 2 p2 p3 none]] [.row 2 (List.map bA p1) true] (.d (eI (p3:Int))) [.row 2 (List.map bA p1) true]:=by
 unfold ji at h0
 refine fn0 [0] Tryz.func100 U U U U U ?_
 have q:=si h0;subst q
 refine sr (s1 (nN (k:=1) U U U) (sa U (sn (sr (s1 (far (k:=1) U l8 jY U) (s1 (bK U (ak jY yE U U)) (s1 (len U U U (gN xu)) (sa U (sn ?_)))))))))
 exact aM (bM (aC (e':=[(2,.d (eI (p3:Int)))]) [0] [0] U) (bq U aW) U)
noncomputable def eO (p0:Int) (p1:Int) (p2:aL) (p3:bG) (p4:bQ) (p5:List bO) (p6:List aX) (p7:List aG) (p8:Nat) (p9:Nat) (Yj:ay):Option (Bool×(List aG)):=
 ah (α:=Int×(List aG))
 (ah (α:=Int×(List aG))
 (loop (Y:=Int×(List aG)) (W:=Int×(List aG)) (fun (oq,Ay)=>
 ah (α:=Bool)
 (bif (decide ((bL ((bL ((2:Int)*oq))+(1:Int)))≥p1)) then
 some true
 else
 some (decide ((bL ((bL ((2:Int)*oq))+(1:Int))) < (0:Int))))
 fun adk=>
 bif adk then
 some (Sum.inr (oq,Ay))
 else
 ah (α:=Int)
 (ah (α:=Bool)
 (bif (decide ((bL ((bL ((bL ((2:Int)*oq))+(1:Int)))+(1:Int))) < p1)) then
 ah (fC p6 Ay p8 p9 (bL ((bL ((bL ((2:Int)*oq))+(1:Int)))+(1:Int))) (bL ((bL ((2:Int)*oq))+(1:Int)))) fun r408=>
 some r408
 else
 some false)
 fun adj=>
 bif adj then
 some (bL ((bL ((bL ((2:Int)*oq))+(1:Int)))+(1:Int)))
 else
 some (bL ((bL ((2:Int)*oq))+(1:Int))))
 fun MQ=>
 ah (fC p6 Ay p8 p9 MQ oq) fun ad2=>
 bif (!ad2) then
 some (Sum.inr (oq,Ay))
 else
 ah (fB p6 Ay p8 p9 oq MQ) fun ad1=>
 some (Sum.inl (MQ,ad1))) (p0,p7))
 (fun e=>some e))
 fun (ado,adn)=>
 some ((decide (ado > p0)),adn)
theorem yh (p0:Int) (p1:Int) (p2:aL) (p3:bG) (p4:bQ) (p5:List bO) (p6:List aX) (p7:List aG) (p8:Nat) (p9:Nat) (Yj:ay) (r:Bool×(List aG)) (h0:eO p0 p1 p2 p3 p4 p5 p6 p7 p8 p9 Yj=some r):aT Tryz.prog 154 [.iface 187 (.ref 0 0 19),.d (eI p0),.d (eI p1)] [.box (.agg [.iface 56 (.ref 1 0 0),.d (eS p2.Name),.d ((eL 7 aJ) p2.aV),.d ((eL 1 eI) p2.aR),.d ((eL 6 bF) p2.bn),.d (eI p2.Tree),.d ((eL 6 bg) p3.Pred),.d ((eL 1 eI) p3.aV),.d ((eL 2 aK) p3.Order),.d (eI p3.Limit),.d (eI p4.Index),.d (eS p4.Span.Lo),.d (eS p4.Span.Hi),.d (eB p4.Span.Open),.d (eI p4.Fixed),.d (eB p4.Bounded),.d (eB p4.Covers),.d (eI p4.iW),.slc 2 5 0 p5.length none,.d ((eL 2 aK) p6),.slc 3 2 p8 p9 none]),.box (.d (aI Yj)),.row 5 (List.map cZ p5) true,.row 2 (List.map bA p7) true] (.d (eB r.1)) [.box (.agg [.iface 56 (.ref 1 0 0),.d (eS p2.Name),.d ((eL 7 aJ) p2.aV),.d ((eL 1 eI) p2.aR),.d ((eL 6 bF) p2.bn),.d (eI p2.Tree),.d ((eL 6 bg) p3.Pred),.d ((eL 1 eI) p3.aV),.d ((eL 2 aK) p3.Order),.d (eI p3.Limit),.d (eI p4.Index),.d (eS p4.Span.Lo),.d (eS p4.Span.Hi),.d (eB p4.Span.Open),.d (eI p4.Fixed),.d (eB p4.Bounded),.d (eB p4.Covers),.d (eI p4.iW),.slc 2 5 0 p5.length none,.d ((eL 2 aK) p6),.slc 3 2 p8 p9 none]),.box (.d (aI Yj)),.row 5 (List.map cZ p5) true,.row 2 (List.map bA r.2) true]:=by
 unfold eO at h0
 refine fn0 [0,1,2] Tryz.func154 U U U U U ?_
 refine sr (sa U (sn (sr (sm U (sa U (sn (SC.dw h0 (fun y=>⟨mk 48 [(1,.d (eI p0)),(7,.d (eI y.1))],[.box (.agg [.iface 56 (.ref 1 0 0),.d (eS p2.Name),.d ((eL 7 aJ) p2.aV),.d ((eL 1 eI) p2.aR),.d ((eL 6 bF) p2.bn),.d (eI p2.Tree),.d ((eL 6 bg) p3.Pred),.d ((eL 1 eI) p3.aV),.d ((eL 2 aK) p3.Order),.d (eI p3.Limit),.d (eI p4.Index),.d (eS p4.Span.Lo),.d (eS p4.Span.Hi),.d (eB p4.Span.Open),.d (eI p4.Fixed),.d (eB p4.Bounded),.d (eB p4.Covers),.d (eI p4.iW),.slc 2 5 0 p5.length none,.d ((eL 2 aK) p6),.slc 3 2 p8 p9 none]),.box (.d (aI Yj)),.row 5 (List.map cZ p5) true,.row 2 (List.map bA y.2) true]⟩) ?_ ?_)))))))
 ·intro arT h1
  obtain ⟨arf,h2,h1⟩:=ob h1
  refine SC.blk (SC.eH h2 (fun y=>⟨mk 48 [(0,.iface 187 (.ref 0 0 19)),(1,.d (eI p0)),(2,.d (eI p1)),(7,.d (eI y.1))],[.box (.agg [.iface 56 (.ref 1 0 0),.d (eS p2.Name),.d ((eL 7 aJ) p2.aV),.d ((eL 1 eI) p2.aR),.d ((eL 6 bF) p2.bn),.d (eI p2.Tree),.d ((eL 6 bg) p3.Pred),.d ((eL 1 eI) p3.aV),.d ((eL 2 aK) p3.Order),.d (eI p3.Limit),.d (eI p4.Index),.d (eS p4.Span.Lo),.d (eS p4.Span.Hi),.d (eB p4.Span.Open),.d (eI p4.Fixed),.d (eB p4.Bounded),.d (eB p4.Covers),.d (eI p4.iW),.slc 2 5 0 p5.length none,.d ((eL 2 aK) p6),.slc 3 2 p8 p9 none]),.box (.d (aI Yj)),.row 5 (List.map cZ p5) true,.row 2 (List.map bA y.2) true]⟩) (wq U) ?_)
  intro avt
  rintro ⟨oq,Ay⟩ aqa h3 hv3
  refine SC.blk (sr (sm U (s1 (bi U U vN) (s1 (bi U U bH) (sa U (sn (sq (SC.dw h3 (fun y=>⟨mk 48 [(0,.iface 187 (.ref 0 0 19)),(1,.d (eI p0)),(2,.d (eI p1)),(7,.d (eI oq)),(8,.d (eI (bL ((bL ((2:Int)*oq))+(1:Int))))),(21,.d (eB y))],[.box (.agg [.iface 56 (.ref 1 0 0),.d (eS p2.Name),.d ((eL 7 aJ) p2.aV),.d ((eL 1 eI) p2.aR),.d ((eL 6 bF) p2.bn),.d (eI p2.Tree),.d ((eL 6 bg) p3.Pred),.d ((eL 1 eI) p3.aV),.d ((eL 2 aK) p3.Order),.d (eI p3.Limit),.d (eI p4.Index),.d (eS p4.Span.Lo),.d (eS p4.Span.Hi),.d (eB p4.Span.Open),.d (eI p4.Fixed),.d (eB p4.Bounded),.d (eB p4.Covers),.d (eI p4.iW),.slc 2 5 0 p5.length none,.d ((eL 2 aK) p6),.slc 3 2 p8 p9 none]),.box (.d (aI Yj)),.row 5 (List.map cZ p5) true,.row 2 (List.map bA Ay) true]⟩) ?_ ?_))))))))
  ·intro aqV h4
   refine aO (sm U (sm U (s1 (bi U U fU) (sm U (sp h4 (fun h4=>?_) (fun h4=>?_))))))
   ·have q:=si h4;subst q
    exact kw U (kw U (s1 (pkt U U) (SO.nil ((wq U)))))
   ·have q:=si h4;subst q
    exact gw U (mv U) (gw U (bi U U bB) (s1 (eT U U) (SO.nil ((wq U)))))
  ·rintro adk h3
   refine cB h3 U (fun h3=>?_) (fun h3=>?_)
   ·have q:=si h3;subst q;have q:_=_:=hv3;subst q;have q:=si h1;subst q
    exact bZ ((wq U))
   ·refine sk (sr (sm U (sa U (sn (SC.dw h3 (fun y=>⟨mk 48 [(0,.iface 187 (.ref 0 0 19)),(1,.d (eI p0)),(2,.d (eI p1)),(7,.d (eI oq)),(9,.d (eI y))],[.box (.agg [.iface 56 (.ref 1 0 0),.d (eS p2.Name),.d ((eL 7 aJ) p2.aV),.d ((eL 1 eI) p2.aR),.d ((eL 6 bF) p2.bn),.d (eI p2.Tree),.d ((eL 6 bg) p3.Pred),.d ((eL 1 eI) p3.aV),.d ((eL 2 aK) p3.Order),.d (eI p3.Limit),.d (eI p4.Index),.d (eS p4.Span.Lo),.d (eS p4.Span.Hi),.d (eB p4.Span.Open),.d (eI p4.Fixed),.d (eB p4.Bounded),.d (eB p4.Covers),.d (eI p4.iW),.slc 2 5 0 p5.length none,.d ((eL 2 aK) p6),.slc 3 2 p8 p9 none]),.box (.d (aI Yj)),.row 5 (List.map cZ p5) true,.row 2 (List.map bA Ay) true]⟩) ?_ ?_)))))
    ·intro aqT h4
     refine sr (sm U (s1 (bi U U bH) (sa U (sn (SC.dw h4 (fun y=>⟨mk 48 [(0,.iface 187 (.ref 0 0 19)),(1,.d (eI p0)),(2,.d (eI p1)),(7,.d (eI oq)),(9,.d (eI (bL ((bL ((2:Int)*oq))+(1:Int))))),(10,.d (eI (bL ((bL ((bL ((2:Int)*oq))+(1:Int)))+(1:Int))))),(33,.d (eB y))],[.box (.agg [.iface 56 (.ref 1 0 0),.d (eS p2.Name),.d ((eL 7 aJ) p2.aV),.d ((eL 1 eI) p2.aR),.d ((eL 6 bF) p2.bn),.d (eI p2.Tree),.d ((eL 6 bg) p3.Pred),.d ((eL 1 eI) p3.aV),.d ((eL 2 aK) p3.Order),.d (eI p3.Limit),.d (eI p4.Index),.d (eS p4.Span.Lo),.d (eS p4.Span.Hi),.d (eB p4.Span.Open),.d (eI p4.Fixed),.d (eB p4.Bounded),.d (eB p4.Covers),.d (eI p4.iW),.slc 2 5 0 p5.length none,.d ((eL 2 aK) p6),.slc 3 2 p8 p9 none]),.box (.d (aI Yj)),.row 5 (List.map cZ p5) true,.row 2 (List.map bA Ay) true]⟩) ?_ ?_)))))
     ·intro aqH h5
      refine aO (sm U (sm U (s1 (bi U U bB) (sm U (sp h5 (fun h5=>?_) (fun h5=>?_))))))
      ·obtain ⟨r408,alX,h5⟩:=ob h5;have q:=si h5;subst q
       exact gw U (mv U) (gw U (mv U) (gw U (mv U) (iq [3] [] (nE p6 Ay p8 p9 (bL ((bL ((bL ((2:Int)*oq))+(1:Int)))+(1:Int))) (bL ((bL ((2:Int)*oq))+(1:Int))) _ alX) (ww U) U U U Es (IX (rv:=.agg [.d ((eL 2 aK) p6),.slc 3 2 p8 p9 none]) Dp (ak Aa FE U U)) ace U U U U U U U U (s1 (pkt U U) (SO.nil ((wq U)))))))
      ·have q:=si h5;subst q
       exact kw U (kw U (kw U (kw U (s1 (eT U U) (SO.nil ((wq U)))))))
     ·rintro adj h4
      refine cB h4 U (fun h4=>?_) (fun h4=>?_)
      ·have q:=si h4;subst q
       exact aO (sm U (sa U (SO.nil ((wq U)))))
      ·have q:=si h4;subst q
       exact bR ((wq U))
    ·rintro MQ h3
     obtain ⟨ad2,alW,h3⟩:=ob h3
     refine sq (sr (sm U (sm U (sm U (iq [3] [] (nE p6 Ay p8 p9 MQ oq _ alW) wf U U U Es (IX (rv:=.agg [.d ((eL 2 aK) p6),.slc 3 2 p8 p9 none]) Dp (ak Aa FE U U)) ace U U U U U U U U (s1 (nt U) (sn (cB h3 U (fun h3=>?_) (fun h3=>?_)))))))))
     ·have q:=si h3;subst q;have q:_=_:=hv3;subst q;have q:=si h1;subst q
      exact bZ ((wq U))
     ·obtain ⟨ad1,alV,h3⟩:=ob h3;have q:=si h3;subst q
      refine sk (sr (sm U (sm U (sm U (iq [3] [] (nD p6 Ay p8 p9 oq MQ _ alV) wf U U U Er (IX (rv:=.agg [.d ((eL 2 aK) p6),.slc 3 2 p8 p9 none]) Dp (ak Aa FE U U)) acd U U U U U U U U (sn (aO (sm U (sa U ?_)))))))))
      exact SO.nil (lf (wq U))
 ·rintro ⟨ado,adn⟩ h0
  have q:=si h0;subst q
  exact sr (sm U (sm U (s1 (bi U U dx) (sa U (sn (aM (bM (Wk.refl _) (bq U aW) U)))))))
noncomputable def j5 (p0:aL) (p1:bG) (p2:bQ) (p3:List bO) (p4:List aX) (p5:List aG) (p6:Nat) (p7:Nat) (p8:ay):Option aG:=
 ah (mP p5 p6 p7 (bL ((p7:Int) - (1:Int)))) fun v6=>
 bif decide (0≤(bL ((p7:Int) - (1:Int)))∧(bL ((p7:Int) - (1:Int)))≤(p7:Int)) then
 some v6
 else none
theorem EF (p0:aL) (p1:bG) (p2:bQ) (p3:List bO) (p4:List aX) (p5:List aG) (p6:Nat) (p7:Nat) (p8:ay) (r:aG) (h0:j5 p0 p1 p2 p3 p4 p5 p6 p7 p8=some r):aT Tryz.prog 269 [.ref 0 0 19] [.box (.agg [.iface 56 (.ref 1 0 0),.d (eS p0.Name),.d ((eL 7 aJ) p0.aV),.d ((eL 1 eI) p0.aR),.d ((eL 6 bF) p0.bn),.d (eI p0.Tree),.d ((eL 6 bg) p1.Pred),.d ((eL 1 eI) p1.aV),.d ((eL 2 aK) p1.Order),.d (eI p1.Limit),.d (eI p2.Index),.d (eS p2.Span.Lo),.d (eS p2.Span.Hi),.d (eB p2.Span.Open),.d (eI p2.Fixed),.d (eB p2.Bounded),.d (eB p2.Covers),.d (eI p2.iW),.slc 2 5 0 p3.length none,.d ((eL 2 aK) p4),.slc 3 2 p6 p7 none]),.box (.d (aI p8)),.row 5 (List.map cZ p3) true,.row 2 (List.map bA p5) true] (.iface 185 (.d (bA r))) [.box (.agg [.iface 56 (.ref 1 0 0),.d (eS p0.Name),.d ((eL 7 aJ) p0.aV),.d ((eL 1 eI) p0.aR),.d ((eL 6 bF) p0.bn),.d (eI p0.Tree),.d ((eL 6 bg) p1.Pred),.d ((eL 1 eI) p1.aV),.d ((eL 2 aK) p1.Order),.d (eI p1.Limit),.d (eI p2.Index),.d (eS p2.Span.Lo),.d (eS p2.Span.Hi),.d (eB p2.Span.Open),.d (eI p2.Fixed),.d (eB p2.Bounded),.d (eB p2.Covers),.d (eI p2.iW),.slc 2 5 0 p3.length none,.d ((eL 2 aK) p4),.slc 3 2 p6 ((bL ((p7:Int) - (1:Int))).toNat) none]),.box (.d (aI p8)),.row 5 (List.map cZ p3) true,.row 2 (List.map bA p5) true]:=by
 unfold j5 at h0
 refine fn0 [0] Tryz.func269 U U U U U ?_
 obtain ⟨v6,hv6,h0⟩:=ob h0;obtain ⟨hg7,h0⟩:=gd h0;have q:=si h0;subst q
 refine sr (s1 (jA (v:=.d .Nt) U) (sn (sd (by kernel_rfl) (t1 aH (mv U) U (t1 aH (lu U) U (t1 aH (far (k:=20) U l8 jY U) U (t1 ([0],false) (bK U (ak jY yE U U)) U (t1 aH (mv U) U (t1 aH (lu U) U ?_)))))))))
 refine t1 aH (far (k:=20) U l8 jY U) U (t1 ([0],false) (bK U (ak jY yE U U)) U (t1 aH (len U U U (gN xu)) U (t1 aH (bi U U gX) U (t1 aH (SA U U xu o9 (dI hv6).1) U (t1 ([3],false) (bK (v:=.d (bA v6)) U (jD o9 KG U (bI (dI hv6).2) U)) U (t1 ([4],true) (yA (k:=4) Vv U) U (t0 ([4],true) (jF U U (sB (d':=.d (bA v6)) o9 U U U U U U U)) U (tn (by decide +kernel) (sd (by kernel_rfl) ?_)))))))))
 refine t1 aH (mv U) U (t1 aH (mv U) U (t1 aH (lu U) U (t1 aH (far (k:=20) U l8 jY U) U (t1 ([0],false) (bK U (ak jY yE U U)) U (t1 aH (mv U) U (t1 aH (lu U) U (t1 aH (far (k:=20) U l8 jY U) U (t1 ([0],false) (bK U (ak jY yE U U)) U (t1 aH (len U U U (gN xu)) U ?_)))))))))
 refine t1 aH (bi U U gX) U (t1 aH (NT U U U U (yF xu o9 hg7)) U (t1 aH (lu U) U (t1 aH (far (k:=20) U l8 jY U) U (t0 ([0,3],true) (jF U U (sB (d':=.agg [.iface 56 (.ref 1 0 0),.d (eS p0.Name),.d ((eL 7 aJ) p0.aV),.d ((eL 1 eI) p0.aR),.d ((eL 6 bF) p0.bn),.d (eI p0.Tree),.d ((eL 6 bg) p1.Pred),.d ((eL 1 eI) p1.aV),.d ((eL 2 aK) p1.Order),.d (eI p1.Limit),.d (eI p2.Index),.d (eS p2.Span.Lo),.d (eS p2.Span.Hi),.d (eB p2.Span.Open),.d (eI p2.Fixed),.d (eB p2.Bounded),.d (eB p2.Covers),.d (eI p2.iW),.slc 2 5 0 p3.length none,.d ((eL 2 aK) p4),.slc 3 2 p6 ((bL ((p7:Int) - (1:Int))).toNat) none]) jY U U U U U U U)) U (tn (by decide +kernel) (sr (s1 (bK (v:=.d (bA v6)) U (ak o9 KG U U)) (s1 (mki U Wx) (sa U ?_)))))))))
 exact sn (aM (bM (aC (e':=[(2,.iface 185 (.d (bA v6)))]) [0,1,2,3] [0,1,2,3] U) (bq U aW) U))
noncomputable def dP (p0:aL) (p1:bG) (p2:bQ) (p3:List bO) (p4:List aX) (p5:List aG) (p6:Nat) (p7:Nat) (p8:ay):Option (aG×(List aG)):=
 ah (ji p4 p5 p6 p7) fun _=>
 ah (fB p4 p5 p6 p7 (0:Int) (bL ((p7:Int) - (1:Int)))) fun r21=>
 ah (eO (0:Int) (bL ((p7:Int) - (1:Int))) p0 p1 p2 p3 p4 r21 p6 p7 p8) fun (r23,r24)=>
 ah (j5 p0 p1 p2 p3 p4 r24 p6 p7 p8) fun r26=>
 some (r26,r24)
theorem yT (p0:aL) (p1:bG) (p2:bQ) (p3:List bO) (p4:List aX) (p5:List aG) (p6:Nat) (p7:Nat) (p8:ay) (r:aG×(List aG)) (h0:dP p0 p1 p2 p3 p4 p5 p6 p7 p8=some r):aT Tryz.prog 101 [.iface 187 (.ref 0 0 19)] [.box (.agg [.iface 56 (.ref 1 0 0),.d (eS p0.Name),.d ((eL 7 aJ) p0.aV),.d ((eL 1 eI) p0.aR),.d ((eL 6 bF) p0.bn),.d (eI p0.Tree),.d ((eL 6 bg) p1.Pred),.d ((eL 1 eI) p1.aV),.d ((eL 2 aK) p1.Order),.d (eI p1.Limit),.d (eI p2.Index),.d (eS p2.Span.Lo),.d (eS p2.Span.Hi),.d (eB p2.Span.Open),.d (eI p2.Fixed),.d (eB p2.Bounded),.d (eB p2.Covers),.d (eI p2.iW),.slc 2 5 0 p3.length none,.d ((eL 2 aK) p4),.slc 3 2 p6 p7 none]),.box (.d (aI p8)),.row 5 (List.map cZ p3) true,.row 2 (List.map bA p5) true] (.iface 185 (.d (bA r.1))) [.box (.agg [.iface 56 (.ref 1 0 0),.d (eS p0.Name),.d ((eL 7 aJ) p0.aV),.d ((eL 1 eI) p0.aR),.d ((eL 6 bF) p0.bn),.d (eI p0.Tree),.d ((eL 6 bg) p1.Pred),.d ((eL 1 eI) p1.aV),.d ((eL 2 aK) p1.Order),.d (eI p1.Limit),.d (eI p2.Index),.d (eS p2.Span.Lo),.d (eS p2.Span.Hi),.d (eB p2.Span.Open),.d (eI p2.Fixed),.d (eB p2.Bounded),.d (eB p2.Covers),.d (eI p2.iW),.slc 2 5 0 p3.length none,.d ((eL 2 aK) p4),.slc 3 2 p6 ((bL ((p7:Int) - (1:Int))).toNat) none]),.box (.d (aI p8)),.row 5 (List.map cZ p3) true,.row 2 (List.map bA r.2) true]:=by
 unfold dP at h0
 refine fn0 [0] Tryz.func101 U U U U U ?_
 obtain ⟨_,ah7,h0⟩:=ob h0;obtain ⟨r21,ata,h0⟩:=ob h0;obtain ⟨⟨r23,r24⟩,ah3,h0⟩:=ob h0;obtain ⟨r26,as9,h0⟩:=ob h0;have q:=si h0;subst q
 refine sr (s1 (jA (v:=.d .Nt) U) (sn (sr (sm U (iq [3] [] (uK p4 p5 p6 p7 _ ah7) wf U U U Oh (IX (rv:=.agg [.d ((eL 2 aK) p4),.slc 3 2 p6 p7 none]) Dp (ak Aa FE U U)) aci U U U U U U U U (s1 (bi U U gX) (sa U (sn (sr ?_)))))))))
 refine sm U (sm U (iq [3] [] (nD p4 p5 p6 p7 (0:Int) (bL ((p7:Int) - (1:Int))) _ ata) wf U U U Er (IX (rv:=.agg [.d ((eL 2 aK) p4),.slc 3 2 p6 p7 none]) Dp (ak Aa FE U U)) acd U U U U U U U U (sn (sr (sm U (sm U (cq [0,1,2,3] [] (yh (0:Int) (bL ((p7:Int) - (1:Int))) p0 p1 p2 p3 p4 r21 p6 p7 p8 _ ah3) wf U U U aot U U U U U U U U (sn (sr ?_)))))))))
 exact sm U (iq [0,1,2,3] [] (EF p0 p1 p2 p3 p4 r24 p6 p7 p8 _ as9) wf U U U Yr (afs Dp) anV U U U U U U U U (sa U (sn (aM (bM (Wk.refl _) (bq U aW) U)))))
end Lv
