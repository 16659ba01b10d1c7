/- Part of the proof of a law. -/
import Derived.Test.YtfjogpadeelnkaaGreatDoorA3
import Derived.Test.YtfjogpadeelnkaaGreatDoorA2
set_option linter.unnecessarySimpa false
set_option linter.unusedVariables false
set_option linter.unusedSimpArgs false
set_option linter.unusedSectionVars false
namespace Lv
open Option renaming bind→ah
open SC renaming region→aO,ret→aM,exit→bZ,skip→bR
open Go Go.Proofs
set_option maxRecDepth 100000
variable [bJ] [wY]
noncomputable def iN (p0:aL) (p1:bG) (p2:bQ) (p3:List bO) (p4:List aX) (p5:List aG) (p6:Nat) (p7:Nat) (p8:ay):Option ((List (List aj))×(List aG)×Nat):=
 ah (α:=(List (List aj))×(List aG)×Nat)
 (ah (α:=(List (List aj))×(List aG)×Nat)
 (loop (Y:=(List (List aj))×(List aG)×Nat) (W:=(List (List aj))×(List aG)×Nat) (fun (A8,Kl,Av)=>
 ah (α:=Bool)
 (ah (ji p4 Kl p6 Av) fun _=>
 bif (decide ((Av:Int) > (0:Int))) then
 bif (decide (p1.Limit < (0:Int))) then
 some true
 else
 some (decide ((A8.length:Int) < p1.Limit))
 else
 some false)
 fun ac4=>
 bif ac4 then
 ah (dP p0 p1 p2 p3 p4 Kl p6 Av p8) fun (X0,XZ)=>
 bif decide (0≤(p1.aV.length:Int)∧(p1.aV.length:Int)*32≤70368744177664∧(p1.aV.length:Int)≤70368744177664) then
 ah (α:=(List aj))
 (ah (α:=(List aj))
 (loop (Y:=(List aj)×Int) (W:=(List aj)) (fun (OO,QV)=>
 bif (decide (QV < (p1.aV.length:Int))) then
 ah (bP p1.aV QV) fun adB=>
 ah (bP X0.row adB) fun MZ=>
 bif decide ((OO.length+[MZ].length)*32≤room) then
 some (Sum.inl ((OO++[MZ]),(bL (QV+(1:Int)))))
 else none
 else
 some (Sum.inr OO)) (([]:List aj),(0:Int)))
 (fun e=>some e))
 fun MN=>
 bif decide ((A8.length+[MN].length)*24≤room) then
 some (Sum.inl ((A8++[MN]),XZ,(bL ((Av:Int) - (1:Int))).toNat))
 else none
 else none
 else
 some (Sum.inr (A8,Kl,Av))) (([]:List (List aj)),p5,p7))
 (fun e=>some e))
 fun (Xp,ac8,ac7)=>
 some (Xp,ac8,ac7)
theorem EJ (p0:aL) (p1:bG) (p2:bQ) (p3:List bO) (p4:List aX) (p5:List aG) (p6:Nat) (p7:Nat) (p8:ay) (r:(List (List aj))×(List aG)×Nat) (h0:iN p0 p1 p2 p3 p4 p5 p6 p7 p8=some r):aT Tryz.prog 52 [.ref 0 0 0] [.box (.agg [.iface 56 (.ref 1 0 0),.d (eS p0.Name),.d ((eL 7 aJ) p0.aV),.d ((eL 1 eI) p0.aR),.d ((eL 6 bF) p0.bn),.d (eI p0.Tree),.d ((eL 6 bg) p1.Pred),.d ((eL 1 eI) p1.aV),.d ((eL 2 aK) p1.Order),.d (eI p1.Limit),.d (eI p2.Index),.d (eS p2.Span.Lo),.d (eS p2.Span.Hi),.d (eB p2.Span.Open),.d (eI p2.Fixed),.d (eB p2.Bounded),.d (eB p2.Covers),.d (eI p2.iW),.slc 2 5 0 p3.length none,.d ((eL 2 aK) p4),.slc 3 2 p6 p7 none]),.box (.d (aI p8)),.row 5 (List.map cZ p3) true,.row 2 (List.map bA p5) true] (.d ((eL 1 (eL 3 au)) r.1)) [.box (.agg [.iface 56 (.ref 1 0 0),.d (eS p0.Name),.d ((eL 7 aJ) p0.aV),.d ((eL 1 eI) p0.aR),.d ((eL 6 bF) p0.bn),.d (eI p0.Tree),.d ((eL 6 bg) p1.Pred),.d ((eL 1 eI) p1.aV),.d ((eL 2 aK) p1.Order),.d (eI p1.Limit),.d (eI p2.Index),.d (eS p2.Span.Lo),.d (eS p2.Span.Hi),.d (eB p2.Span.Open),.d (eI p2.Fixed),.d (eB p2.Bounded),.d (eB p2.Covers),.d (eI p2.iW),.slc 2 5 0 p3.length none,.d ((eL 2 aK) p4),.slc 3 2 p6 r.2.2 none]),.box (.d (aI p8)),.row 5 (List.map cZ p3) true,.row 2 (List.map bA r.2.1) true]:=by
 unfold iN at h0
 refine fn0 [0] Tryz.func52 U U U U U ?_
 refine sr (s1 (jA (v:=.d .dB) U) (sn (sr (s1 (jA (v:=.d .dB) U) (sn (SC.dw h0 (fun y=>⟨mk 69 [(3,.slc 4 1 0 y.1.length none)],[.box (.agg [.iface 56 (.ref 1 0 0),.d (eS p0.Name),.d ((eL 7 aJ) p0.aV),.d ((eL 1 eI) p0.aR),.d ((eL 6 bF) p0.bn),.d (eI p0.Tree),.d ((eL 6 bg) p1.Pred),.d ((eL 1 eI) p1.aV),.d ((eL 2 aK) p1.Order),.d (eI p1.Limit),.d (eI p2.Index),.d (eS p2.Span.Lo),.d (eS p2.Span.Hi),.d (eB p2.Span.Open),.d (eI p2.Fixed),.d (eB p2.Bounded),.d (eB p2.Covers),.d (eI p2.iW),.slc 2 5 0 p3.length none,.d ((eL 2 aK) p4),.slc 3 2 p6 y.2.2 none]),.box (.d (aI p8)),.row 5 (List.map cZ p3) true,.row 2 (List.map bA y.2.1) true,.row 1 (List.map (eL 3 au) y.1) true]⟩) ?_ ?_))))))
 ·intro arK h1
  obtain ⟨aq4,h2,h1⟩:=ob h1
  refine SC.blk (SC.eH h2 (fun y=>⟨mk 69 [(0,.ref 0 0 0),(3,.slc 4 1 0 y.1.length none)],[.box (.agg [.iface 56 (.ref 1 0 0),.d (eS p0.Name),.d ((eL 7 aJ) p0.aV),.d ((eL 1 eI) p0.aR),.d ((eL 6 bF) p0.bn),.d (eI p0.Tree),.d ((eL 6 bg) p1.Pred),.d ((eL 1 eI) p1.aV),.d ((eL 2 aK) p1.Order),.d (eI p1.Limit),.d (eI p2.Index),.d (eS p2.Span.Lo),.d (eS p2.Span.Hi),.d (eB p2.Span.Open),.d (eI p2.Fixed),.d (eB p2.Bounded),.d (eB p2.Covers),.d (eI p2.iW),.slc 2 5 0 p3.length none,.d ((eL 2 aK) p4),.slc 3 2 p6 y.2.2 none]),.box (.d (aI p8)),.row 5 (List.map cZ p3) true,.row 2 (List.map bA y.2.1) true,.row 1 (List.map (eL 3 au) y.1) true]⟩) (Wk.trans (Wk.nI (σ':=[.box (.agg [.iface 56 (.ref 1 0 0),.d (eS p0.Name),.d ((eL 7 aJ) p0.aV),.d ((eL 1 eI) p0.aR),.d ((eL 6 bF) p0.bn),.d (eI p0.Tree),.d ((eL 6 bg) p1.Pred),.d ((eL 1 eI) p1.aV),.d ((eL 2 aK) p1.Order),.d (eI p1.Limit),.d (eI p2.Index),.d (eS p2.Span.Lo),.d (eS p2.Span.Hi),.d (eB p2.Span.Open),.d (eI p2.Fixed),.d (eB p2.Bounded),.d (eB p2.Covers),.d (eI p2.iW),.slc 2 5 0 p3.length none,.d ((eL 2 aK) p4),.slc 3 2 p6 p7 none]),.box (.d (aI p8)),.row 5 (List.map cZ p3) true,.row 2 (List.map bA p5) true,.row 1 (List.map (eL 3 au) ([]:List (List aj))) true]) (.row 1 [] true) (fun _ hh=>by cases hh) U) (Wk.trans (Wk.env (e':=[(0,.ref 0 0 0),(3,.slc 4 1 0 (([]:List (List aj)).length) none)]) (EW.cons (AW.refl _) (EW.cons (AW.mH _ _ _) EW.nil))) (wq U))) ?_)
  intro avi
  rintro ⟨A8,Kl,Av⟩ ap3 h3 hv3
  refine sq (SC.dw h3 (fun y=>⟨mk 69 [(0,.ref 0 0 0),(3,.slc 4 1 0 A8.length none),(31,.d (eB y))],[.box (.agg [.iface 56 (.ref 1 0 0),.d (eS p0.Name),.d ((eL 7 aJ) p0.aV),.d ((eL 1 eI) p0.aR),.d ((eL 6 bF) p0.bn),.d (eI p0.Tree),.d ((eL 6 bg) p1.Pred),.d ((eL 1 eI) p1.aV),.d ((eL 2 aK) p1.Order),.d (eI p1.Limit),.d (eI p2.Index),.d (eS p2.Span.Lo),.d (eS p2.Span.Hi),.d (eB p2.Span.Open),.d (eI p2.Fixed),.d (eB p2.Bounded),.d (eB p2.Covers),.d (eI p2.iW),.slc 2 5 0 p3.length none,.d ((eL 2 aK) p4),.slc 3 2 p6 Av none]),.box (.d (aI p8)),.row 5 (List.map cZ p3) true,.row 2 (List.map bA Kl) true,.row 1 (List.map (eL 3 au) A8) true]⟩) ?_ ?_)
  ·intro aqN h4
   obtain ⟨_,alx,h4⟩:=ob h4
   refine aO (sm U (s1 (lu U) (s1 (far (k:=19) U Qk Aa U) (s1 (bK (v:=.agg [.d ((eL 2 aK) p4),.slc 3 2 p6 Av none]) U (ak Aa FE U U)) (cq [3] [] (uK p4 Kl p6 Av _ alx) wf U U U aci U U U U U U U U (s1 (bi U U dx) (sm U (sp h4 (fun h4=>?_) (fun h4=>?_)))))))))
   ·refine gw U (mv U) (gw U (lu U) (gw U (far (k:=6) U Gp yD U) (gw U (far (k:=9) U LV dH U) (gw U (bK U (ak dH gV U U)) (gw U (bi U U bB) (gw U (mv U) (sp h4 (fun h4=>?_) (fun h4=>?_))))))))
    ·have q:=si h4;subst q
     refine kw U (kw U (kw U (kw U (kw U (kw U (kw U (kw U (gw U (pkt U U) (s1 (pkt U U) ?_)))))))))
     exact SO.nil ((wq U))
    ·have q:=si h4;subst q
     refine gw U (mv U) (gw U (len U U U (gN mZ)) (gw U (mv U) (gw U (lu U) (gw U (far (k:=6) U Gp yD U) (gw U (far (k:=9) U LV dH U) (gw U (bK U (ak dH gV U U)) (gw U (bi U U bB) (gw U (eT U U) (s1 (pkt U U) ?_)))))))))
     exact SO.nil ((wq U))
   ·have q:=si h4;subst q
    refine kw U (kw U (kw U (kw U (kw U (kw U (kw U (kw U (kw U (kw U ?_)))))))))
    exact kw U (kw U (kw U (kw U (kw U (kw U (s1 (eT U U) (SO.nil ((wq U)))))))))
  ·rintro ac4 h3
   refine cB h3 U (fun h3=>?_) (fun h3=>?_)
   ·obtain ⟨⟨X0,XZ⟩,alv,h3⟩:=ob h3;obtain ⟨abQ,h3⟩:=gd h3
    refine sk (SC.blk (sr (sm U (s1 (lu U) (s1 (far (k:=19) U Qk Aa U) (s1 (mki U afC) (cq [0,1,2,3] [] (yT p0 p1 p2 p3 p4 Kl p6 Av p8 _ alv) wf U U U aoL U U U U U U U U (s1 (tya U Wx) (s1 (yA (k:=5) Vv U) ?_)))))))))
    refine s0 (jF U U (sB (d':=.d (bA X0)) o9 U U U U U U U)) (sn (sr (sm U (s1 (lu U) (s1 (far (k:=6) U Gp yD U) (s1 (far (k:=7) U Qh jf U) (s1 (bK U (ak jf vB U U)) (s1 (len U U U (bN iJ)) (mkz (k:=6) wf U U jJ EO abQ U ?_)))))))))
    refine sa U (sn (SC.dw h3 (fun y=>⟨mk 69 [(0,.ref 0 0 0),(3,.slc 4 1 0 A8.length none),(5,.slc 5 3 0 y.length none)],[.box (.agg [.iface 56 (.ref 1 0 0),.d (eS p0.Name),.d ((eL 7 aJ) p0.aV),.d ((eL 1 eI) p0.aR),.d ((eL 6 bF) p0.bn),.d (eI p0.Tree),.d ((eL 6 bg) p1.Pred),.d ((eL 1 eI) p1.aV),.d ((eL 2 aK) p1.Order),.d (eI p1.Limit),.d (eI p2.Index),.d (eS p2.Span.Lo),.d (eS p2.Span.Hi),.d (eB p2.Span.Open),.d (eI p2.Fixed),.d (eB p2.Bounded),.d (eB p2.Covers),.d (eI p2.iW),.slc 2 5 0 p3.length none,.d ((eL 2 aK) p4),.slc 3 2 p6 ((bL ((Av:Int) - (1:Int))).toNat) none]),.box (.d (aI p8)),.row 5 (List.map cZ p3) true,.row 2 (List.map bA XZ) true,.row 1 (List.map (eL 3 au) A8) true,.row 3 (List.map au y) true]⟩) ?_ ?_))
    ·intro aqL h4
     obtain ⟨aqD,h5,h4⟩:=ob h4
     refine sr (sm U (s1 (lu U) (s1 (far (k:=6) U Gp yD U) (s1 (far (k:=7) U Qh jf U) (s1 (bK U (ak jf vB U U)) (s1 (len U U U (bN iJ)) (sm U (sn (SC.blk ?_)))))))))
     refine SC.eH h5 (fun y=>⟨mk 69 [(0,.ref 0 0 0),(3,.slc 4 1 0 A8.length none),(4,.ref 5 0 0),(5,.slc 6 3 0 y.1.length none),(49,.d ((eL 1 eI) p1.aV)),(50,.d (eI (p1.aV.length:Int))),(51,.d (eI y.2))],[.box (.agg [.iface 56 (.ref 1 0 0),.d (eS p0.Name),.d ((eL 7 aJ) p0.aV),.d ((eL 1 eI) p0.aR),.d ((eL 6 bF) p0.bn),.d (eI p0.Tree),.d ((eL 6 bg) p1.Pred),.d ((eL 1 eI) p1.aV),.d ((eL 2 aK) p1.Order),.d (eI p1.Limit),.d (eI p2.Index),.d (eS p2.Span.Lo),.d (eS p2.Span.Hi),.d (eB p2.Span.Open),.d (eI p2.Fixed),.d (eB p2.Bounded),.d (eB p2.Covers),.d (eI p2.iW),.slc 2 5 0 p3.length none,.d ((eL 2 aK) p4),.slc 3 2 p6 ((bL ((Av:Int) - (1:Int))).toNat) none]),.box (.d (aI p8)),.row 5 (List.map cZ p3) true,.row 2 (List.map bA XZ) true,.row 1 (List.map (eL 3 au) A8) true,.box (.d (bA X0)),.row 3 (List.map au y.1) true]⟩) (wq U) ?_
     intro avj
     rintro ⟨OO,QV⟩ apW h6 hv6
     refine sr (s1 (bi U U bB) (sn (sq (cB h6 U (fun h6=>?_) (fun h6=>?_)))))
     ·obtain ⟨adB,afG,h6⟩:=ob h6;obtain ⟨MZ,afF,h6⟩:=ob h6;obtain ⟨amG,h6⟩:=gd h6
      refine sk (sq (SC.blk (sr (s1 (kV U U iJ dH (aB afG).1 (bI (aB afG).2) U) (s1 (bK U (bY dH gV U)) (sa U (sn (aO (sm U ?_)))))))))
      refine s1 (far (k:=0) U Ke ni U) (s1 (bK U (ak ni zk U U)) (sm U (s1 (kV U U jJ gK (aB afF).1 (bI (aB afF).2) U) (s1 (bK (v:=.d (au MZ)) U (bY gK ny U)) (s1 (rX (k:=7) (ds:=List.map au [MZ]) (off:=0) (l':=[MZ].length) U jJ EO U U (by rfl) U U U) (s1 (app U U U U YM (aF (f:=au) (xs:=OO) (k:=8) U jJ EO U (dU (xs:=[MZ]) U) amG U)) (sa U (SO.nil ?_))))))))
      change SC _ _ _ _ _
      have q:=si h6;subst q
      exact aO (s1 (bi U U bH) (sm U (SO.nil (lf (aC [0,1,2,3,4,5,8] [0,1,2,3,0,4,5,8] U)))))
     ·have q:=si h6;subst q;have q:_=_:=hv6;subst q;have q:=si h4;subst q
      exact bZ ((aC [0,1,2,3,4,6] [0,1,2,3,0,4,6] U))
    ·rintro MN h3
     obtain ⟨amF,h3⟩:=gd h3;have q:=si h3;subst q
     exact aO (sm U (sm U (SO.wk (Wk.og (i:=65) (x:=.slc 5 3 0 MN.length none) U U (fF U U U)) (s1 (rX (k:=6) (ds:=List.map (eL 3 au) [MN]) (off:=0) (l':=[MN].length) U mZ ab3 U U (by rfl) U U U) (s1 (app U U U U bc31 (aF (f:=(eL 3 au)) (xs:=A8) (k:=7) U mZ ab3 U (dU (xs:=[MN]) U) amF U)) (sa U (SO.nil (lf (aC [0,1,2,3,7] [0,1,2,3,0,7] U)))))))))
   ·have q:=si h3;subst q;have q:_=_:=hv3;subst q;have q:=si h1;subst q
    exact bZ ((wq U))
 ·rintro ⟨Xp,ac8,ac7⟩ h0
  have q:=si h0;subst q
  exact sr (sm U (sa U (sn (aM (bM (Wk.trans (Wk.og (i:=2) (x:=.slc 4 1 0 Xp.length none) U U (fF U U U)) (wc (e':=[(2,.d ((eL 1 (eL 3 au)) Xp))]) [0,1,2,3] [0,1,2,3] (by kernel_rfl) U (by kernel_rfl))) (bq U aW) U)))))
noncomputable def pI (p0:aL) (p1:bG) (p2:ay):Option ((List (List aj))×(List bO)×Int):=
 ah (α:=Int×(List aG)×Nat×Nat)
 (ah (α:=Unit)
 (some ())
 fun _=>
 ah (ig p0 p1 (bQ.mk (-1:Int) (dG.mk ([]:List UInt8) ([]:List UInt8) true) (0:Int) false false (0:Int)) p1.Order p2) fun (X4,r60,X3,r62)=>
 some (X4,r60,X3,r62))
 fun (II,y53,y54,y55)=>
 bif (II != (0:Int)) then
 some (([]:List (List aj)),([]:List bO),II)
 else
 ah (iN p0 p1 (bQ.mk (-1:Int) (dG.mk ([]:List UInt8) ([]:List UInt8) true) (0:Int) false false (0:Int)) [(bO.mk p0.Tree (dG.mk ([]:List UInt8) ([]:List UInt8) true) false)] p1.Order y53 y54 y55 (ay.mk p2.no p2.trees (bL (p2.calls+(1:Int))) p2.fail)) fun (r64,r65,r66)=>
 some (r64,[(bO.mk p0.Tree (dG.mk ([]:List UInt8) ([]:List UInt8) true) false)],(0:Int))
theorem xJ (p0:aL) (p1:bG) (p2:ay) (r:(List (List aj))×(List bO)×Int) (h0:pI p0 p1 p2=some r):aT Tryz.prog 18 [.iface 56 (.ref 0 0 0),.d (bE p0),.d (dQ p1),.d (.agg [(eI (-1:Int)),(eS ([]:List UInt8)),(eS ([]:List UInt8)),(eB true),(eI (0:Int)),(eB false),(eB false),(eI (0:Int))])] [.box (.d (aI p2))] (.tuple [.d ((eL 1 (eL 3 au)) r.1),.d ((eL 5 cZ) r.2.1),.d (eI r.2.2)]) [.box (.d (aI (ay.mk p2.no p2.trees (bL (p2.calls+(1:Int))) p2.fail)))]:=by
 unfold pI at h0
 refine fn0 [0,1,2,3] Tryz.func18 U U U U U ?_
 refine sr (s1 (nN (k:=1) U U U) (s1 (nN (k:=2) U U U) (s1 (nN (k:=3) U U U) (s1 (jA (v:=.d .dB) U) (s1 (jA (v:=.d .dB) U) (sa U (sn (sr (sm U ?_)))))))))
 refine s1 (bK (v:=.d (bE p0)) U (ak oU uQ U U)) (s1 (bK (v:=.d (dQ p1)) U (ak yD KE U U)) (s1 (bK (v:=.d (mX (bQ.mk (-1:Int) (dG.mk ([]:List UInt8) ([]:List UInt8) true) (0:Int) false false (0:Int)))) U (ak Ug adO U U)) (s1 (far (k:=2) U U5 vo U) (s1 (bK U (ak vo KF U U)) (s1 (vg U (aeC p1.Order)) (s1 (vg (v:=.agg [.iface 56 (.ref 0 0 0),.d (eS p0.Name),.d ((eL 7 aJ) p0.aV),.d ((eL 1 eI) p0.aR),.d ((eL 6 bF) p0.bn),.d (eI p0.Tree),.d ((eL 6 bg) p1.Pred),.d ((eL 1 eI) p1.aV),.d ((eL 2 aK) p1.Order),.d (eI p1.Limit),.d (eI (-1:Int)),.d (eS ([]:List UInt8)),.d (eS ([]:List UInt8)),.d (eB true),.d (eI (0:Int)),.d (eB false),.d (eB false),.d (eI (0:Int)),.d .dB,.d ((eL 2 aK) p1.Order),.d .dB]) U (by rfl)) (s1 (nN (k:=4) U U U) (sa U (sn ?_)))))))))
 refine sr (sa U (sn (SC.dw h0 (fun y=>⟨mk 72 [(11,.ref 1 0 0),(12,.d (eI y.1))],[.box (.d (aI (ay.mk p2.no p2.trees (bL (p2.calls+(1:Int))) p2.fail))),.box (.agg [.iface 56 (.ref 0 0 0),.d (eS p0.Name),.d ((eL 7 aJ) p0.aV),.d ((eL 1 eI) p0.aR),.d ((eL 6 bF) p0.bn),.d (eI p0.Tree),.d ((eL 6 bg) p1.Pred),.d ((eL 1 eI) p1.aV),.d ((eL 2 aK) p1.Order),.d (eI p1.Limit),.d (eI (-1:Int)),.d (eS ([]:List UInt8)),.d (eS ([]:List UInt8)),.d (eB true),.d (eI (0:Int)),.d (eB false),.d (eB false),.d (eI (0:Int)),.slc 2 5 0 ([(bO.mk p0.Tree (dG.mk ([]:List UInt8) ([]:List UInt8) true) false)].length) none,.d ((eL 2 aK) p1.Order),.slc 3 2 y.2.2.1 y.2.2.2 none]),.row 5 (List.map cZ [(bO.mk p0.Tree (dG.mk ([]:List UInt8) ([]:List UInt8) true) false)]) true,.row 2 (List.map bA y.2.1) true]⟩) ?_ ?_)))
 ·intro auQ h1
  refine SC.blk (SC.dw h1 (fun y=>⟨mk 72 [(5,.ref 1 0 0),(7,.ref 2 0 0),(11,.ref 3 0 0),(30,.d (eB true))],[.box (.d (aI p2)),.box (.d (bE p0)),.box (.d (.agg [(eI (-1:Int)),(eS ([]:List UInt8)),(eS ([]:List UInt8)),(eB true),(eI (0:Int)),(eB false),(eB false),(eI (0:Int))])),.box (.agg [.iface 56 (.ref 0 0 0),.d (eS p0.Name),.d ((eL 7 aJ) p0.aV),.d ((eL 1 eI) p0.aR),.d ((eL 6 bF) p0.bn),.d (eI p0.Tree),.d ((eL 6 bg) p1.Pred),.d ((eL 1 eI) p1.aV),.d ((eL 2 aK) p1.Order),.d (eI p1.Limit),.d (eI (-1:Int)),.d (eS ([]:List UInt8)),.d (eS ([]:List UInt8)),.d (eB true),.d (eI (0:Int)),.d (eB false),.d (eB false),.d (eI (0:Int)),.d .dB,.d ((eL 2 aK) p1.Order),.d .dB])]⟩) ?_ ?_)
  ·intro auF h2
   have q:=si h2;subst q
   refine aO (s1 (far (k:=0) U aiQ dH U) (s1 (bK U (ak dH gV U U)) (s1 (bi (v:=.d (eB true)) U U (fun _ _=>rfl)) (sm U (kw U (kw U (kw U (s1 (pkt U U) (sa U ?_)))))))))
   exact SO.nil ((aC [0,1,3,4] [0,1,3,4] U))
  ·intro _ h1
   obtain ⟨⟨X4,r60,X3,r62⟩,abF,h1⟩:=ob h1;have q:=si h1;subst q
   exact cT U (aO (sm U (cq [3,0] [4,5] (Gs p0 p1 (bQ.mk (-1:Int) (dG.mk ([]:List UInt8) ([]:List UInt8) true) (0:Int) false false (0:Int)) p1.Order p2 _ abF) wf U U U atX U U U U U U U U (sa U (SO.nil ((aC [0,3,4,5] [0,3] U)))))))
 ·rintro ⟨II,y53,y54,y55⟩ h0
  refine sq (sr (sm U (s1 (bi U U dA) (sn (cB h0 U (fun h0=>?_) (fun h0=>?_))))))
  ·have q:=si h0;subst q
   exact sr (sm U (s1 (jA (v:=.d .dB) U) (s1 (jA (v:=.d .dB) U) (sa U (sn (aM (bM (Wk.trans (Wk.env (e':=[(8,.d ((eL 1 (eL 3 au)) ([]:List (List aj)))),(9,.d ((eL 5 cZ) ([]:List bO))),(10,.d (eI II))]) (EW.cons (AW.nl _) (EW.cons (AW.nl _) (EW.cons (AW.refl _) EW.nil)))) (wc (e':=[(8,.d ((eL 1 (eL 3 au)) ([]:List (List aj)))),(9,.d ((eL 5 cZ) ([]:List bO))),(10,.d (eI II))]) [0] [0] (by kernel_rfl) U (by kernel_rfl))) (bq U (bq U (bq U aW))) U)))))))
  ·obtain ⟨⟨r64,r65,r66⟩,ahQ,h0⟩:=ob h0;have q:=si h0;subst q
   refine sk (sdS 5 (by kernel_rfl) (t1 aH (mv U) U (tq [1,0,2,3] [] ([1,0,2,3],true) (EJ p0 p1 (bQ.mk (-1:Int) (dG.mk ([]:List UInt8) ([]:List UInt8) true) (0:Int) false false (0:Int)) [(bO.mk p0.Tree (dG.mk ([]:List UInt8) ([]:List UInt8) true) false)] p1.Order y53 y54 y55 (ay.mk p2.no p2.trees (bL (p2.calls+(1:Int))) p2.fail) _ ahQ) wf U U U atW U U U U U U U U U (t1 aH (mv U) U (t1 aH (lu U) U (t1 aH (far (k:=18) U Ql Uf U) U (t1 ([1],false) (bK U (ak Uf akr U U)) U (t1 aH (jA U) U (t1 aH (jA U) U ?_)))))))))
   exact t1 aH (jA U) U (tnS (by decide +kernel) U U U (by decide +kernel) (by decide +kernel) U U U Uf U (aM (bM (Wk.trans (Wk.og (i:=9) (x:=.slc 2 5 0 ([(bO.mk p0.Tree (dG.mk ([]:List UInt8) ([]:List UInt8) true) false)].length) none) U U (fF U U U)) (wc (e':=[(8,.d ((eL 1 (eL 3 au)) r64)),(9,.d ((eL 5 cZ) [(bO.mk p0.Tree (dG.mk ([]:List UInt8) ([]:List UInt8) true) false)])),(10,.d (eI (0:Int)))]) [0] [0] (by kernel_rfl) U (by kernel_rfl))) (bq U (bq U (bq U aW))) U)))
noncomputable def nX:Option Bool:=
 ah (nQ (aL.mk ([97]:List UInt8) [(aA.mk ([105,100]:List UInt8) (1:Int) (0:Int) false (aj.mk (1:Int) (0:UInt64) ([]:List UInt8))),(aA.mk ([110]:List UInt8) (1:Int) (0:Int) false (aj.mk (1:Int) (0:UInt64) ([]:List UInt8)))] [(0:Int)] ([]:List bT) (2:Int)) [[(aj.mk (1:Int) (1:UInt64) ([]:List UInt8)),(aj.mk (1:Int) (5:UInt64) ([]:List UInt8))],[(aj.mk (1:Int) (2:UInt64) ([]:List UInt8)),(aj.mk (1:Int) (7:UInt64) ([]:List UInt8))]]) fun (r41,RI)=>
 ah (pI (aL.mk ([97]:List UInt8) [(aA.mk ([105,100]:List UInt8) (1:Int) (0:Int) false (aj.mk (1:Int) (0:UInt64) ([]:List UInt8))),(aA.mk ([110]:List UInt8) (1:Int) (0:Int) false (aj.mk (1:Int) (0:UInt64) ([]:List UInt8)))] [(0:Int)] ([]:List bT) (2:Int)) (bG.mk [(aY.mk (2:Int) (1:Int) (5:Int) (aj.mk (1:Int) (5:UInt64) ([]:List UInt8)))] [(0:Int)] ([]:List aX) (-1:Int)) (ay.mk r41 RI (0:Int) (0:Int))) fun (r44,GU,RG)=>
 ah (α:=Bool)
 (bif (RG==(0:Int)) then
 bif ((r44.length:Int)==(1:Int)) then
 ah (bP r44 (0:Int)) fun v54=>
 bif ((v54.length:Int)==(1:Int)) then
 ah (bP r44 (0:Int)) fun v55=>
 ah (bP v55 (0:Int)) fun v56=>
 bif (v56.N==(2:UInt64)) then
 bif ((GU.length:Int)==(1:Int)) then
 ah (bP GU (0:Int)) fun v57=>
 bif (v57.Space==(2:Int)) then
 ah (bP GU (0:Int)) fun v58=>
 some (!v58.Own)
 else
 some false
 else
 some false
 else
 some false
 else
 some false
 else
 some false
 else
 some false)
 fun II=>
 some II
theorem LD (r:Bool) (h0:nX=some r):aT Tryz.prog 8 [] [] (.d (eB r)) []:=by
 unfold nX at h0
 refine fn0 [] Tryz.func8 U U U U U ?_
 obtain ⟨⟨r41,RI⟩,as3,h0⟩:=ob h0;obtain ⟨⟨r44,GU,RG⟩,ahV,h0⟩:=ob h0
 refine sr (sa U (sn (sr (s1 (vg U (Ve (1:Int))) (s1 (vg U (Me ([105,100]:List UInt8) (1:Int) (aj.mk (1:Int) (0:UInt64) ([]:List UInt8)))) (s1 (vg U (Ve (1:Int))) (s1 (vg U (Me ([110]:List UInt8) (1:Int) (aj.mk (1:Int) (0:UInt64) ([]:List UInt8)))) (s1 (rX (k:=0) (ds:=List.map aJ [(aA.mk ([105,100]:List UInt8) (1:Int) (0:Int) false (aj.mk (1:Int) (0:UInt64) ([]:List UInt8))),(aA.mk ([110]:List UInt8) (1:Int) (0:Int) false (aj.mk (1:Int) (0:UInt64) ([]:List UInt8)))]) (off:=0) (l':=[(aA.mk ([105,100]:List UInt8) (1:Int) (0:Int) false (aj.mk (1:Int) (0:UInt64) ([]:List UInt8))),(aA.mk ([110]:List UInt8) (1:Int) (0:Int) false (aj.mk (1:Int) (0:UInt64) ([]:List UInt8)))].length) U ng ai0 U U (by rfl) U U U) (s1 (rX (k:=1) (ds:=List.map eI [(0:Int)]) (off:=0) (l':=[(0:Int)].length) U iJ TV U U (by rfl) U U U) ?_)))))))))
 refine s1 (vg U (Qy ([97]:List UInt8) (2:Int))) (s1 (yA (k:=2) agT U) (s0 (jF U U (sB (d':=.agg [.d (eS ([97]:List UInt8)),.slc 0 7 0 ([(aA.mk ([105,100]:List UInt8) (1:Int) (0:Int) false (aj.mk (1:Int) (0:UInt64) ([]:List UInt8))),(aA.mk ([110]:List UInt8) (1:Int) (0:Int) false (aj.mk (1:Int) (0:UInt64) ([]:List UInt8)))].length) none,.slc 1 1 0 ([(0:Int)].length) none,.d .dB,.d (eI (2:Int))]) oU U U U U U U U)) (sn (sr (s1 (vg U (Cn (1:Int) (1:UInt64))) (s1 (vg U (Cn (1:Int) (5:UInt64))) (s1 (rX (k:=3) (ds:=List.map au [(aj.mk (1:Int) (1:UInt64) ([]:List UInt8)),(aj.mk (1:Int) (5:UInt64) ([]:List UInt8))]) (off:=0) (l':=[(aj.mk (1:Int) (1:UInt64) ([]:List UInt8)),(aj.mk (1:Int) (5:UInt64) ([]:List UInt8))].length) U jJ EO U U (by rfl) U U U) (s1 (vg U (Cn (1:Int) (2:UInt64))) (s1 (vg U (Cn (1:Int) (7:UInt64))) ?_)))))))))
 refine s1 (rX (k:=4) (ds:=List.map au [(aj.mk (1:Int) (2:UInt64) ([]:List UInt8)),(aj.mk (1:Int) (7:UInt64) ([]:List UInt8))]) (off:=0) (l':=[(aj.mk (1:Int) (2:UInt64) ([]:List UInt8)),(aj.mk (1:Int) (7:UInt64) ([]:List UInt8))].length) U jJ EO U U (by rfl) U U U) (SO.wk (Wk.og (i:=18) (x:=.slc 3 3 0 ([(aj.mk (1:Int) (1:UInt64) ([]:List UInt8)),(aj.mk (1:Int) (5:UInt64) ([]:List UInt8))].length) none) U U (fF U U U)) (SO.wk (Wk.og (i:=21) (x:=.slc 4 3 0 ([(aj.mk (1:Int) (2:UInt64) ([]:List UInt8)),(aj.mk (1:Int) (7:UInt64) ([]:List UInt8))].length) none) U U (fF U U U)) (s1 (rX (k:=5) (ds:=List.map (eL 3 au) [[(aj.mk (1:Int) (1:UInt64) ([]:List UInt8)),(aj.mk (1:Int) (5:UInt64) ([]:List UInt8))],[(aj.mk (1:Int) (2:UInt64) ([]:List UInt8)),(aj.mk (1:Int) (7:UInt64) ([]:List UInt8))]]) (off:=0) (l':=[[(aj.mk (1:Int) (1:UInt64) ([]:List UInt8)),(aj.mk (1:Int) (5:UInt64) ([]:List UInt8))],[(aj.mk (1:Int) (2:UInt64) ([]:List UInt8)),(aj.mk (1:Int) (7:UInt64) ([]:List UInt8))]].length) U mZ ab3 U U (by rfl) U U U) (sa U (sn (sr (s1 (bK (v:=.agg [.d (eS ([97]:List UInt8)),.slc 0 7 0 ([(aA.mk ([105,100]:List UInt8) (1:Int) (0:Int) false (aj.mk (1:Int) (0:UInt64) ([]:List UInt8))),(aA.mk ([110]:List UInt8) (1:Int) (0:Int) false (aj.mk (1:Int) (0:UInt64) ([]:List UInt8)))].length) none,.slc 1 1 0 ([(0:Int)].length) none,.d .dB,.d (eI (2:Int))]) U (ak oU uQ U U)) ?_)))))))
 refine sm U (cq (args':=[.agg [.d (eS ([97]:List UInt8)),.slc 0 7 0 ([(aA.mk ([105,100]:List UInt8) (1:Int) (0:Int) false (aj.mk (1:Int) (0:UInt64) ([]:List UInt8))),(aA.mk ([110]:List UInt8) (1:Int) (0:Int) false (aj.mk (1:Int) (0:UInt64) ([]:List UInt8)))].length) none,.slc 1 1 0 ([(0:Int)].length) none,.d .dB,.d (eI (2:Int))],.slc 2 1 0 ([[(aj.mk (1:Int) (1:UInt64) ([]:List UInt8)),(aj.mk (1:Int) (5:UInt64) ([]:List UInt8))],[(aj.mk (1:Int) (2:UInt64) ([]:List UInt8)),(aj.mk (1:Int) (7:UInt64) ([]:List UInt8))]].length) none]) (lF:=[.row 7 (List.map aJ [(aA.mk ([105,100]:List UInt8) (1:Int) (0:Int) false (aj.mk (1:Int) (0:UInt64) ([]:List UInt8))),(aA.mk ([110]:List UInt8) (1:Int) (0:Int) false (aj.mk (1:Int) (0:UInt64) ([]:List UInt8)))]) true,.row 1 (List.map eI [(0:Int)]) true,.row 1 (List.map (eL 3 au) [[(aj.mk (1:Int) (1:UInt64) ([]:List UInt8)),(aj.mk (1:Int) (5:UInt64) ([]:List UInt8))],[(aj.mk (1:Int) (2:UInt64) ([]:List UInt8)),(aj.mk (1:Int) (7:UInt64) ([]:List UInt8))]]) true]) [0,1,5] [] (aT.og (iX.YD (y:=.d (bE (aL.mk ([97]:List UInt8) [(aA.mk ([105,100]:List UInt8) (1:Int) (0:Int) false (aj.mk (1:Int) (0:UInt64) ([]:List UInt8))),(aA.mk ([110]:List UInt8) (1:Int) (0:Int) false (aj.mk (1:Int) (0:UInt64) ([]:List UInt8)))] [(0:Int)] ([]:List bT) (2:Int)))) U (kX U (kW (fF U U U) (kW (fF U U U) (kX U (kX U wP))))) (AW.acL U (jX.cons (AW.refl _) (jX.cons (AW.refl _) (jX.cons (AW.refl _) (jX.cons (AW.nl _) (jX.cons (AW.refl _) jX.nil)))))) (iX.og (fF U U U) (iX.nil _))) (fq [] [] (Bq (aL.mk ([97]:List UInt8) [(aA.mk ([105,100]:List UInt8) (1:Int) (0:Int) false (aj.mk (1:Int) (0:UInt64) ([]:List UInt8))),(aA.mk ([110]:List UInt8) (1:Int) (0:Int) false (aj.mk (1:Int) (0:UInt64) ([]:List UInt8)))] [(0:Int)] ([]:List bT) (2:Int)) [[(aj.mk (1:Int) (1:UInt64) ([]:List UInt8)),(aj.mk (1:Int) (5:UInt64) ([]:List UInt8))],[(aj.mk (1:Int) (2:UInt64) ([]:List UInt8)),(aj.mk (1:Int) (7:UInt64) ([]:List UInt8))]] _ as3) U U U U U U U U)) wf U U U aoz U U U U U U U U ?_)
 refine sm U (s1 (ext U U) (s1 (ext U U) (sa U (sa U (sn (sr (s1 (vg U (Cn (1:Int) (5:UInt64))) (s1 (vg U (Qx (2:Int) (1:Int) (5:Int) (aj.mk (1:Int) (5:UInt64) ([]:List UInt8)))) (s1 (rX (k:=6) (ds:=List.map bg [(aY.mk (2:Int) (1:Int) (5:Int) (aj.mk (1:Int) (5:UInt64) ([]:List UInt8)))]) (off:=0) (l':=[(aY.mk (2:Int) (1:Int) (5:Int) (aj.mk (1:Int) (5:UInt64) ([]:List UInt8)))].length) U M5 ab2 U U (by rfl) U U U) ?_)))))))))
 refine s1 (rX (k:=7) (ds:=List.map eI [(0:Int)]) (off:=0) (l':=[(0:Int)].length) U iJ TV U U (by rfl) U U U) (s1 (vg U (Vf (-1:Int))) (s1 (yA (k:=8) ac2 U) (s0 (jF U U (sB (d':=.agg [.slc 6 6 0 ([(aY.mk (2:Int) (1:Int) (5:Int) (aj.mk (1:Int) (5:UInt64) ([]:List UInt8)))].length) none,.slc 7 1 0 ([(0:Int)].length) none,.d .dB,.d (eI (-1:Int))]) yD U U U U U U U)) (sn (sr (sm U (sm U (s1 (vg U (GI r41 RI)) (s1 (nN (k:=9) U U U) ?_)))))))))
 refine s1 (mki U aef) (s1 (bK (v:=.agg [.d (eS ([97]:List UInt8)),.slc 0 7 0 ([(aA.mk ([105,100]:List UInt8) (1:Int) (0:Int) false (aj.mk (1:Int) (0:UInt64) ([]:List UInt8))),(aA.mk ([110]:List UInt8) (1:Int) (0:Int) false (aj.mk (1:Int) (0:UInt64) ([]:List UInt8)))].length) none,.slc 1 1 0 ([(0:Int)].length) none,.d .dB,.d (eI (2:Int))]) U (ak oU uQ U U)) (s1 (bK (v:=.agg [.slc 6 6 0 ([(aY.mk (2:Int) (1:Int) (5:Int) (aj.mk (1:Int) (5:UInt64) ([]:List UInt8)))].length) none,.slc 7 1 0 ([(0:Int)].length) none,.d .dB,.d (eI (-1:Int))]) U (ak yD KE U U)) (s1 (vg U (acv true)) (s1 (vg U (Tt (-1:Int) (dG.mk ([]:List UInt8) ([]:List UInt8) true))) (cq (args':=[.iface 56 (.ref 0 0 0),.agg [.d (eS ([97]:List UInt8)),.slc 1 7 0 ([(aA.mk ([105,100]:List UInt8) (1:Int) (0:Int) false (aj.mk (1:Int) (0:UInt64) ([]:List UInt8))),(aA.mk ([110]:List UInt8) (1:Int) (0:Int) false (aj.mk (1:Int) (0:UInt64) ([]:List UInt8)))].length) none,.slc 2 1 0 ([(0:Int)].length) none,.d .dB,.d (eI (2:Int))],.agg [.slc 3 6 0 ([(aY.mk (2:Int) (1:Int) (5:Int) (aj.mk (1:Int) (5:UInt64) ([]:List UInt8)))].length) none,.slc 4 1 0 ([(0:Int)].length) none,.d .dB,.d (eI (-1:Int))],.d (mX (bQ.mk (-1:Int) (dG.mk ([]:List UInt8) ([]:List UInt8) true) (0:Int) false false (0:Int)))]) (lF:=[.box (.d (aI (ay.mk r41 RI (0:Int) (0:Int)))),.row 7 (List.map aJ [(aA.mk ([105,100]:List UInt8) (1:Int) (0:Int) false (aj.mk (1:Int) (0:UInt64) ([]:List UInt8))),(aA.mk ([110]:List UInt8) (1:Int) (0:Int) false (aj.mk (1:Int) (0:UInt64) ([]:List UInt8)))]) false,.row 1 (List.map eI [(0:Int)]) false,.row 6 (List.map bg [(aY.mk (2:Int) (1:Int) (5:Int) (aj.mk (1:Int) (5:UInt64) ([]:List UInt8)))]) true,.row 1 (List.map eI [(0:Int)]) true]) [9,0,1,6,7] [] (aT.og (iX.keep (iX.YD (y:=.d (bE (aL.mk ([97]:List UInt8) [(aA.mk ([105,100]:List UInt8) (1:Int) (0:Int) false (aj.mk (1:Int) (0:UInt64) ([]:List UInt8))),(aA.mk ([110]:List UInt8) (1:Int) (0:Int) false (aj.mk (1:Int) (0:UInt64) ([]:List UInt8)))] [(0:Int)] ([]:List bT) (2:Int)))) U (kX U (kW (fF U U U) (kW (fF U U U) (kX U (kX U wP))))) (AW.acL U (jX.cons (AW.refl _) (jX.cons (AW.refl _) (jX.cons (AW.refl _) (jX.cons (AW.nl _) (jX.cons (AW.refl _) jX.nil)))))) (iX.YD (y:=.d (dQ (bG.mk [(aY.mk (2:Int) (1:Int) (5:Int) (aj.mk (1:Int) (5:UInt64) ([]:List UInt8)))] [(0:Int)] ([]:List aX) (-1:Int)))) U (kW (fF U U U) (kW (fF U U U) (kX U (kX U wP)))) (AW.acL U (jX.cons (AW.refl _) (jX.cons (AW.refl _) (jX.cons (AW.nl _) (jX.cons (AW.refl _) jX.nil))))) (iX.keep (iX.nil _))))) (fq [0] [] (xJ (aL.mk ([97]:List UInt8) [(aA.mk ([105,100]:List UInt8) (1:Int) (0:Int) false (aj.mk (1:Int) (0:UInt64) ([]:List UInt8))),(aA.mk ([110]:List UInt8) (1:Int) (0:Int) false (aj.mk (1:Int) (0:UInt64) ([]:List UInt8)))] [(0:Int)] ([]:List bT) (2:Int)) (bG.mk [(aY.mk (2:Int) (1:Int) (5:Int) (aj.mk (1:Int) (5:UInt64) ([]:List UInt8)))] [(0:Int)] ([]:List aX) (-1:Int)) (ay.mk r41 RI (0:Int) (0:Int)) _ ahV) U U U U U U U U)) wf U U U aeA U U U U U U U U ?_)))))
 refine sm U (s1 (ext U U) (s1 (ext U U) (s1 (ext U U) (sa U (sa U (sa U (sn (SC.dw h0 (fun y=>⟨mk 90 [(0,.d (eB y))],[]⟩) ?_ ?_))))))))
 ·intro afo h1
  refine aO (sm U (s1 (bi U U bD) (sm U (sp h1 (fun h1=>?_) (fun h1=>?_)))))
  ·refine gw U (mv U) (gw U (len U U U (bN mZ)) (gw U (bi U U bD) (s1 (pkt U U) (sm U (sp h1 (fun h1=>?_) (fun h1=>?_))))))
   ·obtain ⟨v54,ali,h1⟩:=ob h1
    refine gw U (mv U) (gw U (kV U U mZ ni (aB ali).1 (bI (aB ali).2) U) (gw U (bK U (bY ni zk U)) (gw U (len U U U (bN jJ)) (gw U (bi U U bD) (s1 (pkt U U) (sm U (sp h1 (fun h1=>?_) (fun h1=>?_))))))))
    ·obtain ⟨v55,alh,h1⟩:=ob h1;obtain ⟨v56,alg,h1⟩:=ob h1
     refine gw U (mv U) (gw U (kV U U mZ ni (aB alh).1 (bI (aB alh).2) U) (gw U (bK U (bY ni zk U)) (gw U (kV U U jJ gK (aB alg).1 (bI (aB alg).2) U) (gw U (fap U j3 iK U) (gw U (bK U (bY iK qN U)) (gw U (bi U U (j4 (b:=(2:UInt64)))) (s1 (pkt U U) (sm U (sp h1 (fun h1=>?_) (fun h1=>?_))))))))))
     ·refine gw U (mv U) (gw U (len U U U (bN aaf)) (gw U (bi U U bD) (s1 (pkt U U) (sm U (sp h1 (fun h1=>?_) (fun h1=>?_))))))
      ·obtain ⟨v57,alf,h1⟩:=ob h1
       refine gw U (mv U) (gw U (kV U U aaf akn (aB alf).1 (bI (aB alf).2) U) (gw U (fap U aiK dH U) (gw U (bK U (bY dH gV U)) (gw U (bi U U bD) (s1 (pkt U U) (sm U (sp h1 (fun h1=>?_) (fun h1=>?_))))))))
       ·obtain ⟨v58,ale,h1⟩:=ob h1;have q:=si h1;subst q
        exact gw U (mv U) (gw U (kV U U aaf akn (aB ale).1 (bI (aB ale).2) U) (gw U (fap U aiJ nu U) (gw U (bK U (bY nu FB U)) (gw U (nt U) (s1 (pkt U U) (sa U (SO.nil ((aC [] [] U)))))))))
       ·have q:=si h1;subst q
        exact kw U (kw U (kw U (kw U (kw U (s1 (eT U U) (sa U (SO.nil ((aC [] [] U)))))))))
      ·have q:=si h1;subst q
       refine kw U (kw U (kw U (kw U (kw U (s1 (eT U U) (sm U (kw U (kw U (kw U ?_)))))))))
       exact kw U (kw U (s1 (eT U U) (sa U (SO.nil ((aC [] [] U))))))
     ·have q:=si h1;subst q
      refine kw U (kw U (kw U (s1 (eT U U) (sm U (kw U (kw U (kw U (kw U (kw U ?_)))))))))
      refine s1 (eT U U) (sm U (kw U (kw U (kw U (kw U (kw U (s1 (eT U U) (sa U (SO.nil ?_)))))))))
      exact (aC [] [] U)
    ·have q:=si h1;subst q
     refine kw U (kw U (kw U (kw U (kw U (kw U (kw U (s1 (eT U U) (sm U (kw U ?_)))))))))
     refine kw U (kw U (s1 (eT U U) (sm U (kw U (kw U (kw U (kw U (kw U (s1 (eT U U) ?_)))))))))
     exact sm U (kw U (kw U (kw U (kw U (kw U (s1 (eT U U) (sa U (SO.nil ((aC [] [] U))))))))))
   ·have q:=si h1;subst q
    refine kw U (kw U (kw U (kw U (kw U (s1 (eT U U) (sm U (kw U (kw U (kw U ?_)))))))))
    refine kw U (kw U (kw U (kw U (s1 (eT U U) (sm U (kw U (kw U (kw U (s1 (eT U U) ?_)))))))))
    refine sm U (kw U (kw U (kw U (kw U (kw U (s1 (eT U U) (sm U (kw U (kw U ?_)))))))))
    exact kw U (kw U (kw U (s1 (eT U U) (sa U (SO.nil ((aC [] [] U)))))))
  ·have q:=si h1;subst q
   refine kw U (kw U (kw U (s1 (eT U U) (sm U (kw U (kw U (kw U (kw U (kw U ?_)))))))))
   refine s1 (eT U U) (sm U (kw U (kw U (kw U (kw U (kw U (kw U (kw U (s1 (eT U U) ?_)))))))))
   refine sm U (kw U (kw U (kw U (s1 (eT U U) (sm U (kw U (kw U (kw U (kw U ?_)))))))))
   refine kw U (s1 (eT U U) (sm U (kw U (kw U (kw U (kw U (kw U (s1 (eT U U) (sa U ?_)))))))))
   exact SO.nil ((aC [] [] U))
 ·rintro II h0
  have q:=si h0;subst q
  exact aM (bM (Wk.refl _) (bq U aW) U)
noncomputable def qb (p0:List UInt8):Option Bool:=
 ah (α:=Bool)
 (bif (decide ((p0.length:Int) < (1:Int))) then
 some true
 else
 bif (decide ((p0.length:Int) > (16:Int))) then
 some true
 else
 ah (bP p0 (0:Int)) fun aj6=>
 bif (decide (aj6 < (97:UInt8))) then
 some true
 else
 ah (bP p0 (0:Int)) fun aj5=>
 some (decide ((122:UInt8) < aj5)))
 fun ajM=>
 bif ajM then
 some false
 else
 fP (Y:=Unit) (E:=Bool)
 (ah (α:=Unit⊕Bool)
 (loop (Y:=Int) (W:=Unit⊕Bool) (fun EZ=>
 bif (decide (EZ < (p0.length:Int))) then
 ah (α:=Bool)
 (ah (bP p0 EZ) fun aj4=>
 bif (decide (aj4 < (97:UInt8))) then
 ah (bP p0 EZ) fun aj3=>
 bif (decide (aj3 < (48:UInt8))) then
 ah (bP p0 EZ) fun Ra=>
 some (Ra != (95:UInt8))
 else
 ah (bP p0 EZ) fun aj2=>
 bif (decide ((57:UInt8) < aj2)) then
 ah (bP p0 EZ) fun aj1=>
 some (aj1 != (95:UInt8))
 else
 some false
 else
 ah (bP p0 EZ) fun G9=>
 bif (decide ((122:UInt8) < G9)) then
 ah (bP p0 EZ) fun aj0=>
 bif (decide (aj0 < (48:UInt8))) then
 ah (bP p0 EZ) fun ajZ=>
 some (ajZ != (95:UInt8))
 else
 ah (bP p0 EZ) fun ajY=>
 bif (decide ((57:UInt8) < ajY)) then
 ah (bP p0 EZ) fun ajX=>
 some (ajX != (95:UInt8))
 else
 some false
 else
 some false)
 fun TY=>
 bif TY then
 some (Sum.inr (Sum.inr false))
 else
 some (Sum.inl (bL (EZ+(1:Int))))
 else
 some (Sum.inr (Sum.inl ()))) (1:Int))
 (Sum.elim (fun e=>some (Sum.inl e)) (fun e=>some (Sum.inr e))))
 (fun _=>
 some true)
 (fun e=>some e)
theorem xV (p0:List UInt8) (r:Bool) (h0:qb p0=some r):aT Tryz.prog 31 [.d (eS p0)] [] (.d (eB r)) []:=by
 unfold qb at h0
 refine fn0 [0] Tryz.func31 U U U U U ?_
 refine sr (sa U (sn (sq (SC.dw h0 (fun y=>⟨mk 56 [(0,.d (eS p0)),(21,.d (eB y))],[]⟩) ?_ ?_))))
 ·intro arV h1
  refine aO (sm U (s1 (len U U U (iV vk)) (s1 (bi U U bB) (sm U (sp h1 (fun h1=>?_) (fun h1=>?_))))))
  ·have q:=si h1;subst q
   refine kw U (kw U (kw U (s1 (pkt U U) (sm U (kw U (kw U (kw U (s1 (pkt U U) (sm U ?_)))))))))
   exact kw U (kw U (kw U (s1 (pkt U U) (SO.nil ((wq U))))))
  ·refine gw U (mv U) (gw U (len U U U (iV vk)) (gw U (bi U U dx) (s1 (eT U U) (sm U (sp h1 (fun h1=>?_) (fun h1=>?_))))))
   ·have q:=si h1;subst q
    refine kw U (kw U (kw U (s1 (pkt U U) (sm U (kw U (kw U (kw U (s1 (pkt U U) (SO.nil ?_)))))))))
    exact (wq U)
   ·obtain ⟨aj6,af3,h1⟩:=ob h1
    refine gw U (mv U) (gw U (ixs U U U U (nC vk (aB af3).1 (aB af3).2)) (gw U (bi U U (BF (b:=(97:UInt8)))) (s1 (eT U U) (sm U (sp h1 (fun h1=>?_) (fun h1=>?_))))))
    ·have q:=si h1;subst q
     exact kw U (kw U (kw U (s1 (pkt U U) (SO.nil ((wq U))))))
    ·obtain ⟨aj5,af2,h1⟩:=ob h1;have q:=si h1;subst q
     exact gw U (mv U) (gw U (ixs U U U U (nC vk (aB af2).1 (aB af2).2)) (gw U (bi U U (yJ (b:=(122:UInt8)))) (s1 (eT U U) (SO.nil ((wq U))))))
 ·rintro ajM h0
  refine cB h0 U (fun h0=>?_) (fun h0=>?_)
  ·have q:=si h0;subst q
   exact sr (sa U (sn (aM (bM (Wk.refl _) (bq U aW) U))))
  ·refine sk (SC.seqB h0 (fun y=>⟨mk 56 [],[]⟩) ?_ ?_)
   ·intro arQ h1 h0
    obtain ⟨ara,h2,h1⟩:=ob h1
    refine sr (sa U (sn (SC.blk (SC.eH h2 (fun y=>⟨mk 56 [(0,.d (eS p0)),(3,.d (eI y))],[]⟩) (wq U) ?_))))
    intro avq
    rintro EZ ap7 h3 hv3
    refine sq (sr (sm U (sm U (s1 (len U U U (iV vk)) (s1 (bi U U bB) (sn (cB h3 U (fun h3=>?_) (fun h3=>?_))))))))
    ·refine sk (sq (SC.blk (SC.dw h3 (fun y=>⟨mk 56 [(0,.d (eS p0)),(3,.d (eI EZ)),(55,.d (eB y))],[]⟩) ?_ ?_)))
     ·intro aqQ h4
      obtain ⟨aj4,afZ,h4⟩:=ob h4
      refine aO (sm U (sm U (s1 (ixs U U U U (nC vk (aB afZ).1 (aB afZ).2)) (s1 (bi U U (BF (b:=(97:UInt8)))) (sm U (sp h4 (fun h4=>?_) (fun h4=>?_)))))))
      ·obtain ⟨aj3,afY,h4⟩:=ob h4
       refine kw U (kw U (kw U (kw U (s1 (pkt U U) (sm U (gw U (mv U) (gw U (mv U) (gw U (ixs U U U U (nC vk (aB afY).1 (aB afY).2)) (gw U (bi U U (BF (b:=(48:UInt8)))) ?_)))))))))
       refine gw U (mv U) (sp h4 (fun h4=>?_) (fun h4=>?_))
       ·obtain ⟨Ra,SF,h4⟩:=ob h4;have q:=si h4;subst q
        refine kw U (kw U (kw U (kw U (gw U (pkt U U) (s1 (pkt U U) (sm U (gw U (mv U) (gw U (mv U) (gw U (ixs U U U U (nC vk (aB SF).1 (aB SF).2)) ?_)))))))))
        exact gw U (bi U U (BD (b:=(95:UInt8)))) (s1 (pkt U U) (SO.nil ((wq U))))
       ·obtain ⟨aj2,afX,h4⟩:=ob h4
        refine gw U (mv U) (gw U (mv U) (gw U (ixs U U U U (nC vk (aB afX).1 (aB afX).2)) (gw U (bi U U (yJ (b:=(57:UInt8)))) (gw U (eT U U) (s1 (pkt U U) (sm U (sp h4 (fun h4=>?_) (fun h4=>?_))))))))
        ·obtain ⟨aj1,afW,h4⟩:=ob h4;have q:=si h4;subst q
         exact gw U (mv U) (gw U (mv U) (gw U (ixs U U U U (nC vk (aB afW).1 (aB afW).2)) (gw U (bi U U (BD (b:=(95:UInt8)))) (s1 (pkt U U) (SO.nil ((wq U)))))))
        ·have q:=si h4;subst q
         exact kw U (kw U (kw U (kw U (s1 (eT U U) (SO.nil ((wq U)))))))
      ·obtain ⟨G9,SE,h4⟩:=ob h4
       refine gw U (mv U) (gw U (mv U) (gw U (ixs U U U U (nC vk (aB SE).1 (aB SE).2)) (gw U (bi U U (yJ (b:=(122:UInt8)))) (s1 (eT U U) (sm U (sp h4 (fun h4=>?_) (fun h4=>?_)))))))
       ·obtain ⟨aj0,afV,h4⟩:=ob h4
        refine gw U (mv U) (gw U (mv U) (gw U (ixs U U U U (nC vk (aB afV).1 (aB afV).2)) (gw U (bi U U (BF (b:=(48:UInt8)))) (gw U (mv U) (sp h4 (fun h4=>?_) (fun h4=>?_))))))
        ·obtain ⟨ajZ,afU,h4⟩:=ob h4;have q:=si h4;subst q
         refine kw U (kw U (kw U (kw U (gw U (pkt U U) (s1 (pkt U U) (sm U (gw U (mv U) (gw U (mv U) (gw U (ixs U U U U (nC vk (aB afU).1 (aB afU).2)) ?_)))))))))
         exact gw U (bi U U (BD (b:=(95:UInt8)))) (s1 (pkt U U) (SO.nil ((wq U))))
        ·obtain ⟨ajY,afT,h4⟩:=ob h4
         refine gw U (mv U) (gw U (mv U) (gw U (ixs U U U U (nC vk (aB afT).1 (aB afT).2)) (gw U (bi U U (yJ (b:=(57:UInt8)))) (gw U (eT U U) (s1 (pkt U U) (sm U (sp h4 (fun h4=>?_) (fun h4=>?_))))))))
         ·obtain ⟨ajX,afS,h4⟩:=ob h4;have q:=si h4;subst q
          exact gw U (mv U) (gw U (mv U) (gw U (ixs U U U U (nC vk (aB afS).1 (aB afS).2)) (gw U (bi U U (BD (b:=(95:UInt8)))) (s1 (pkt U U) (SO.nil ((wq U)))))))
         ·have q:=si h4;subst q
          exact kw U (kw U (kw U (kw U (s1 (eT U U) (SO.nil ((wq U)))))))
       ·have q:=si h4;subst q
        refine kw U (kw U (kw U (kw U (kw U (kw U (kw U (kw U (kw U (kw U ?_)))))))))
        exact s1 (eT U U) (sm U (kw U (kw U (kw U (kw U (s1 (eT U U) (SO.nil ((wq U)))))))))
     ·rintro TY h3
      refine cB h3 U (fun h3=>?_) (fun h3=>?_)
      ·have q:=si h3;subst q;have q:_=_:=hv3;subst q;have q:=si h1;subst q;have q:=si h0;subst q
       exact sr (sa U (sn (aM (bM (Wk.refl _) (bq U aW) U))))
      ·refine bR ?_
       change SC _ _ _ _ _
       have q:=si h3;subst q
       exact aO (sm U (s1 (bi U U bH) (sa U (SO.nil (lf (wq U))))))
    ·have q:=si h3;subst q;have q:_=_:=hv3;subst q;have q:=si h1;subst q
     exact bZ (lf (wq U))
   ·intro _ h0
    have q:=si h0;subst q
    exact sr (sa U (sn (aM (bM (Wk.refl _) (bq U aW) U))))
noncomputable def wE (p0:List UInt8):Option Bool:=
 fP (Y:=Unit) (E:=Bool)
 (ah (α:=Unit⊕Bool)
 (loop (Y:=Int) (W:=Unit⊕Bool) (fun EY=>
 bif (decide (EY < (p0.length:Int))) then
 ah (bP p0 EY) fun CX=>
 fP (Y:=Int×Int×Int) (E:=Bool)
 (bif (decide ((CX.toNat:Int) < (128:Int))) then
 some (Sum.inl ((1:Int),(0:Int),(CX.toNat:Int)))
 else
 ah (α:=Bool)
 (bif (decide ((CX.toNat:Int)≥(194:Int))) then
 some (decide ((CX.toNat:Int) < (224:Int)))
 else
 some false)
 fun ajD=>
 bif ajD then
 some (Sum.inl ((2:Int),(128:Int),(bL ((CX.toNat:Int) - (192:Int)))))
 else
 ah (α:=Bool)
 (bif (decide ((CX.toNat:Int)≥(224:Int))) then
 some (decide ((CX.toNat:Int) < (240:Int)))
 else
 some false)
 fun ajC=>
 bif ajC then
 some (Sum.inl ((3:Int),(2048:Int),(bL ((CX.toNat:Int) - (224:Int)))))
 else
 ah (α:=Bool)
 (bif (decide ((CX.toNat:Int)≥(240:Int))) then
 some (decide ((CX.toNat:Int) < (245:Int)))
 else
 some false)
 fun ajB=>
 bif ajB then
 some (Sum.inl ((4:Int),(65536:Int),(bL ((CX.toNat:Int) - (240:Int)))))
 else
 some (Sum.inr false))
 (fun (QU,Zw,ajE)=>
 bif (decide ((bL (EY+QU)) > (p0.length:Int))) then
 some (Sum.inr (Sum.inr false))
 else
 fP (Y:=Int) (E:=Bool)
 (ah (α:=Int⊕Bool)
 (loop (Y:=Int×Int) (W:=Int⊕Bool) (fun (ac3,Zu)=>
 bif (decide (Zu < QU)) then
 ah (bP p0 (bL (EY+Zu))) fun XE=>
 ah (α:=Bool)
 (bif (decide ((XE.toNat:Int) < (128:Int))) then
 some true
 else
 some (decide ((XE.toNat:Int)≥(192:Int))))
 fun ajA=>
 bif ajA then
 some (Sum.inr (Sum.inr false))
 else
 some (Sum.inl ((bL ((bL ((bL (ac3*(64:Int)))+(XE.toNat:Int))) - (128:Int))),(bL (Zu+(1:Int)))))
 else
 some (Sum.inr (Sum.inl ac3))) (ajE,(1:Int)))
 (Sum.elim (fun e=>some (Sum.inl e)) (fun e=>some (Sum.inr e))))
 (fun Zv=>
 ah (α:=Bool)
 (bif (decide (Zv < Zw)) then
 some true
 else
 bif (decide (Zv > (1114111:Int))) then
 some true
 else
 bif (decide (Zv≥(55296:Int))) then
 some (decide (Zv < (57344:Int)))
 else
 some false)
 fun ajz=>
 bif ajz then
 some (Sum.inr (Sum.inr false))
 else
 some (Sum.inl (bL (EY+QU))))
 (fun e=>some (Sum.inr (Sum.inr e))))
 (fun e=>some (Sum.inr (Sum.inr e)))
 else
 some (Sum.inr (Sum.inl ()))) (0:Int))
 (Sum.elim (fun e=>some (Sum.inl e)) (fun e=>some (Sum.inr e))))
 (fun _=>
 some true)
 (fun e=>some e)
theorem Ng (p0:List UInt8) (r:Bool) (h0:wE p0=some r):aT Tryz.prog 136 [.d (eS p0)] [] (.d (eB r)) []:=by
 unfold wE at h0
 refine fn0 [0] Tryz.func136 U U U U U ?_
 refine sr (sa U (sn (SC.seqB h0 (fun y=>⟨mk 95 [],[]⟩) ?_ ?_)))
 ·intro arI h1 h0
  obtain ⟨aq2,h2,h1⟩:=ob h1
  refine sr (sa U (sn (SC.blk (SC.eH h2 (fun y=>⟨mk 95 [(0,.d (eS p0)),(3,.d (eI y))],[]⟩) (wq U) ?_))))
  intro avg
  rintro EY ap1 h3 hv3
  refine sq (sr (sm U (sm U (s1 (len U U U (iV vk)) (s1 (bi U U bB) (sn (cB h3 U (fun h3=>?_) (fun h3=>?_))))))))
  ·obtain ⟨CX,afE,h3⟩:=ob h3
   refine sk (SC.blk (sr (sm U (sm U (s1 (ixs U U U U (nC vk (aB afE).1 (aB afE).2)) (s1 (AZ U (qG EU Rc CX)) (sa U (sn (sr ?_)))))))))
   refine sa U (sn (sr (sa U (sn (sr (sm U (sa U (sn (SC.seqB h3 (fun y=>⟨mk 95 [(0,.d (eS p0)),(3,.d (eI EY)),(5,.d (eI y.1)),(6,.d (eI y.2.1)),(7,.d (eI y.2.2))],[]⟩) ?_ ?_)))))))))
   ·intro aqK h4 h3
    refine SC.blk (sr (sm U (s1 (bi U U bB) (sa U (sn (cB h4 U (fun h4=>?_) (fun h4=>?_)))))))
    ·have q:=si h4;subst q
     exact bR (lf (wq U))
    ·refine SC.dw h4 (fun y=>⟨mk 95 [(0,.d (eS p0)),(3,.d (eI EY)),(4,.d (eI (CX.toNat:Int))),(22,.d (eB y))],[]⟩) ?_ ?_
     ·intro aqC h5
      refine aO (sm U (s1 (bi U U fU) (sm U (sp h5 (fun h5=>?_) (fun h5=>?_)))))
      ·have q:=si h5;subst q
       exact gw U (mv U) (gw U (bi U U bB) (s1 (pkt U U) (sa U (SO.nil ((wq U))))))
      ·have q:=si h5;subst q
       exact kw U (kw U (s1 (eT U U) (sa U (SO.nil ((wq U))))))
     ·rintro ajD h4
      refine cB h4 U (fun h4=>?_) (fun h4=>?_)
      ·have q:=si h4;subst q
       exact aO (sm U (s1 (bi U U gX) (sa U (sa U (sa U (SO.nil (lf (wq U))))))))
      ·refine SC.dw h4 (fun y=>⟨mk 95 [(0,.d (eS p0)),(3,.d (eI EY)),(4,.d (eI (CX.toNat:Int))),(31,.d (eB y))],[]⟩) ?_ ?_
       ·intro aqB h5
        refine aO (sm U (s1 (bi U U fU) (sm U (sp h5 (fun h5=>?_) (fun h5=>?_)))))
        ·have q:=si h5;subst q
         exact gw U (mv U) (gw U (bi U U bB) (s1 (pkt U U) (sa U (SO.nil ((wq U))))))
        ·have q:=si h5;subst q
         exact kw U (kw U (s1 (eT U U) (sa U (SO.nil ((wq U))))))
       ·rintro ajC h4
        refine cB h4 U (fun h4=>?_) (fun h4=>?_)
        ·have q:=si h4;subst q
         exact aO (sm U (s1 (bi U U gX) (sa U (sa U (sa U (SO.nil (lf (wq U))))))))
        ·refine SC.dw h4 (fun y=>⟨mk 95 [(0,.d (eS p0)),(3,.d (eI EY)),(4,.d (eI (CX.toNat:Int))),(40,.d (eB y))],[]⟩) ?_ ?_
         ·intro aqA h5
          refine aO (sm U (s1 (bi U U fU) (sm U (sp h5 (fun h5=>?_) (fun h5=>?_)))))
          ·have q:=si h5;subst q
           exact gw U (mv U) (gw U (bi U U bB) (s1 (pkt U U) (sa U (SO.nil ((wq U))))))
          ·have q:=si h5;subst q
           exact kw U (kw U (s1 (eT U U) (sa U (SO.nil ((wq U))))))
         ·rintro ajB h4
          refine cB h4 U (fun h4=>?_) (fun h4=>?_)
          ·have q:=si h4;subst q
           exact aO (sm U (s1 (bi U U gX) (sa U (sa U (sa U (SO.nil (lf (wq U))))))))
          ·have q:=si h4;subst q;have q:=si h3;subst q;have q:_=_:=hv3;subst q;have q:=si h1;subst q;have q:=si h0;subst q
           exact sr (sa U (sn (aM (bM (Wk.refl _) (bq U aW) U))))
   ·rintro ⟨QU,Zw,ajE⟩ h3
    refine sq (sr (sm U (sm U (s1 (bi U U bH) (sm U (s1 (len U U U (iV vk)) (s1 (bi U U dx) (sn (cB h3 U (fun h3=>?_) (fun h3=>?_))))))))))
    ·have q:=si h3;subst q;have q:_=_:=hv3;subst q;have q:=si h1;subst q;have q:=si h0;subst q
     exact sr (sa U (sn (aM (bM (Wk.refl _) (bq U aW) U))))
    ·refine sk (SC.seqB h3 (fun y=>⟨mk 95 [(0,.d (eS p0)),(3,.d (eI EY)),(5,.d (eI QU)),(6,.d (eI Zw)),(7,.d (eI y))],[]⟩) ?_ ?_)
     ·intro aqJ h4 h3
      obtain ⟨aqz,h5,h4⟩:=ob h4
      refine sr (sa U (sn (SC.blk (SC.eH h5 (fun y=>⟨mk 95 [(0,.d (eS p0)),(3,.d (eI EY)),(5,.d (eI QU)),(6,.d (eI Zw)),(7,.d (eI y.1)),(8,.d (eI y.2))],[]⟩) (wq U) ?_))))
      intro avh
      rintro ⟨ac3,Zu⟩ apV h6 hv6
      refine sq (sr (sm U (sm U (s1 (bi U U bB) (sn (cB h6 U (fun h6=>?_) (fun h6=>?_)))))))
      ·obtain ⟨XE,afD,h6⟩:=ob h6
       refine sk (sq (SC.blk (sr (sm U (sm U (sm U (s1 (bi U U bH) (s1 (ixs U U U U (nC vk (aB afD).1 (aB afD).2)) (s1 (AZ U (qG EU Rc XE)) ?_)))))))))
       refine sa U (sn (sq (SC.dw h6 (fun y=>⟨mk 95 [(0,.d (eS p0)),(3,.d (eI EY)),(5,.d (eI QU)),(6,.d (eI Zw)),(7,.d (eI ac3)),(8,.d (eI Zu)),(9,.d (eI (XE.toNat:Int))),(71,.d (eB y))],[]⟩) ?_ ?_)))
       ·intro aqy h7
        refine aO (sm U (s1 (bi U U bB) (sm U (sp h7 (fun h7=>?_) (fun h7=>?_)))))
        ·have q:=si h7;subst q
         exact kw U (kw U (s1 (pkt U U) (SO.nil ((wq U)))))
        ·have q:=si h7;subst q
         exact gw U (mv U) (gw U (bi U U fU) (s1 (eT U U) (SO.nil ((wq U)))))
       ·rintro ajA h6
        refine cB h6 U (fun h6=>?_) (fun h6=>?_)
        ·have q:=si h6;subst q;have q:_=_:=hv6;subst q;have q:=si h4;subst q;have q:=si h3;subst q;have q:_=_:=hv3;subst q;have q:=si h1;subst q;have q:=si h0;subst q
         exact sr (sa U (sn (aM (bM (Wk.refl _) (bq U aW) U))))
        ·refine sk (aO (sm U (s1 (bi U U vN) (sm U (s1 (bi U U bH) (s1 (bi U U gX) (sa U (SO.nil ?_))))))))
         change SC _ _ _ _ _
         have q:=si h6;subst q
         exact aO (sm U (s1 (bi U U bH) (sa U (SO.nil (lf (wq U))))))
      ·have q:=si h6;subst q;have q:_=_:=hv6;subst q;have q:=si h4;subst q
       exact bZ (lf (wq U))
     ·rintro Zv h3
      refine sq (SC.dw h3 (fun y=>⟨mk 95 [(0,.d (eS p0)),(3,.d (eI EY)),(5,.d (eI QU)),(91,.d (eB y))],[]⟩) ?_ ?_)
      ·intro aqI h4
       refine aO (sm U (sm U (s1 (bi U U bB) (sm U (sp h4 (fun h4=>?_) (fun h4=>?_))))))
       ·have q:=si h4;subst q
        refine kw U (kw U (s1 (pkt U U) (sm U (kw U (kw U (kw U (kw U (kw U (kw U ?_)))))))))
        exact s1 (pkt U U) (SO.nil ((wq U)))
       ·refine gw U (mv U) (gw U (bi U U dx) (s1 (eT U U) (sm U (sp h4 (fun h4=>?_) (fun h4=>?_)))))
        ·have q:=si h4;subst q
         exact kw U (kw U (kw U (kw U (kw U (kw U (s1 (pkt U U) (SO.nil ((wq U)))))))))
        ·refine gw U (mv U) (gw U (bi U U fU) (gw U (mv U) (sp h4 (fun h4=>?_) (fun h4=>?_))))
         ·have q:=si h4;subst q
          exact gw U (mv U) (gw U (bi U U bB) (gw U (pkt U U) (s1 (eT U U) (SO.nil ((wq U))))))
         ·have q:=si h4;subst q
          exact kw U (kw U (gw U (eT U U) (s1 (eT U U) (SO.nil ((wq U))))))
      ·rintro ajz h3
       refine cB h3 U (fun h3=>?_) (fun h3=>?_)
       ·have q:=si h3;subst q;have q:_=_:=hv3;subst q;have q:=si h1;subst q;have q:=si h0;subst q
        exact sr (sa U (sn (aM (bM (Wk.refl _) (bq U aW) U))))
       ·have q:=si h3;subst q
        exact sk (aO (sm U (sm U (s1 (bi U U bH) (sa U (SO.nil (lf (wq U))))))))
  ·have q:=si h3;subst q;have q:_=_:=hv3;subst q;have q:=si h1;subst q
   exact bZ (lf (wq U))
 ·intro _ h0
  have q:=si h0;subst q
  exact sr (sa U (sn (aM (bM (Wk.refl _) (bq U aW) U))))
noncomputable def uD (p0:aj):Option Bool:=
 bif (p0.Kind==(0:Int)) then
 ah (α:=Bool)
 (bif (p0.N==(0:UInt64)) then
 some (p0.S==([]:List UInt8))
 else
 some false)
 fun A9=>
 some A9
 else
 ah (α:=Bool)
 (bif (p0.Kind==(1:Int)) then
 some (p0.Kind==(1:Int))
 else
 some (p0.Kind==(2:Int)))
 fun y32=>
 bif y32 then
 some (p0.S==([]:List UInt8))
 else
 bif (p0.Kind==(3:Int)) then
 ah (α:=Bool)
 (bif (decide (p0.N < (2:UInt64))) then
 some (p0.S==([]:List UInt8))
 else
 some false)
 fun y34=>
 some y34
 else
 bif (p0.Kind==(4:Int)) then
 ah (α:=Bool)
 (bif (p0.N==(0:UInt64)) then
 some (decide ((p0.S.length:Int)≤(64:Int)))
 else
 some false)
 fun y36=>
 some y36
 else
 bif (p0.Kind==(5:Int)) then
 ah (α:=Bool)
 (bif (p0.N==(0:UInt64)) then
 bif (decide ((p0.S.length:Int)≤(64:Int))) then
 ah (wE p0.S) fun RH=>
 some RH
 else
 some false
 else
 some false)
 fun y40=>
 some y40
 else
 some false
theorem KZ (p0:aj) (r:Bool) (h0:uD p0=some r):aT Tryz.prog 82 [.d (au p0)] [] (.d (eB r)) []:=by
 unfold uD at h0
 refine fn0 [0] Tryz.func82 U U U U U ?_
 refine sr (s1 (nN (k:=0) U U U) (sa U (sn (sq (sr (s1 (far (k:=0) U iG dH U) (s1 (bK U (ak dH gV U U)) (sn (SC.blk ?_)))))))))
 refine sr (s1 (bi U U bD) (sa U (sn (cB h0 U (fun h0=>?_) (fun h0=>?_)))))
 ·refine SC.dw h0 (fun y=>⟨mk 58 [(2,.d (eB y))],[]⟩) ?_ ?_
  ·intro afq h1
   refine aO (s1 (far (k:=1) U j3 iK U) (s1 (bK U (ak iK qN U U)) (s1 (bi U U (j4 (b:=(0:UInt64)))) (sm U (sp h1 (fun h1=>?_) (fun h1=>?_))))))
   ·have q:=si h1;subst q
    exact gw U (far (k:=2) U jZ iA U) (gw U (bK U (ak iA qw U U)) (gw U (bi U U (mV (b:=([]:List UInt8)))) (s1 (pkt U U) (sa U (SO.nil ((aC [] [] U)))))))
   ·have q:=si h1;subst q
    exact kw U (kw U (kw U (s1 (eT U U) (sa U (SO.nil ((aC [] [] U)))))))
  ·rintro A9 h0
   have q:=si h0;subst q
   exact aM (bM (Wk.refl _) (bq U aW) U)
 ·refine SC.dw h0 (fun y=>⟨mk 58 [(1,.ref 0 0 0),(4,.d (eI p0.Kind)),(15,.d (eB y))],[.box (.d (au p0))]⟩) ?_ ?_
  ·intro auV h1
   refine sr (s1 (bi U U bD) (sa U (sn (cB h1 U (fun h1=>?_) (fun h1=>?_)))))
   ·have q:=si h1;subst q
    exact bR ((wq U))
   ·have q:=si h1;subst q
    exact aO (s1 (bi U U bD) (sa U (SO.nil ((wq U)))))
  ·rintro y32 h0
   refine cB h0 U (fun h0=>?_) (fun h0=>?_)
   ·have q:=si h0;subst q
    exact sr (s1 (far (k:=2) U jZ iA U) (s1 (bK U (ak iA qw U U)) (s1 (bi U U (mV (b:=([]:List UInt8)))) (sa U (sn (aM (bM (wc (e':=[(2,.d (eB (p0.S==([]:List UInt8))))]) [] [] (by kernel_rfl) U (by kernel_rfl)) (bq U aW) U)))))))
   ·refine sr (s1 (bi U U bD) (sa U (sn (cB h0 U (fun h0=>?_) (fun h0=>?_)))))
    ·refine SC.dw h0 (fun y=>⟨mk 58 [(2,.d (eB y))],[]⟩) ?_ ?_
     ·intro aki h1
      refine aO (s1 (far (k:=1) U j3 iK U) (s1 (bK U (ak iK qN U U)) (s1 (bi U U (NZ (b:=(2:UInt64)))) (sm U (sp h1 (fun h1=>?_) (fun h1=>?_))))))
      ·have q:=si h1;subst q
       exact gw U (far (k:=2) U jZ iA U) (gw U (bK U (ak iA qw U U)) (gw U (bi U U (mV (b:=([]:List UInt8)))) (s1 (pkt U U) (sa U (SO.nil ((aC [] [] U)))))))
      ·have q:=si h1;subst q
       exact kw U (kw U (kw U (s1 (eT U U) (sa U (SO.nil ((aC [] [] U)))))))
     ·rintro y34 h0
      have q:=si h0;subst q
      exact aM (bM (Wk.refl _) (bq U aW) U)
    ·refine sr (s1 (bi U U bD) (sa U (sn (cB h0 U (fun h0=>?_) (fun h0=>?_)))))
     ·refine SC.dw h0 (fun y=>⟨mk 58 [(2,.d (eB y))],[]⟩) ?_ ?_
      ·intro aak h1
       refine aO (s1 (far (k:=1) U j3 iK U) (s1 (bK U (ak iK qN U U)) (s1 (bi U U (j4 (b:=(0:UInt64)))) (sm U (sp h1 (fun h1=>?_) (fun h1=>?_))))))
       ·have q:=si h1;subst q
        exact gw U (far (k:=2) U jZ iA U) (gw U (bK U (ak iA qw U U)) (gw U (len U U U (iV vk)) (gw U (bi U U qA) (s1 (pkt U U) (sa U (SO.nil ((aC [] [] U))))))))
       ·have q:=si h1;subst q
        exact kw U (kw U (kw U (kw U (s1 (eT U U) (sa U (SO.nil ((aC [] [] U))))))))
      ·rintro y36 h0
       have q:=si h0;subst q
       exact aM (bM (Wk.refl _) (bq U aW) U)
     ·refine sr (s1 (bi U U bD) (sa U (sn (cB h0 U (fun h0=>?_) (fun h0=>?_)))))
      ·refine SC.dw h0 (fun y=>⟨mk 58 [(2,.d (eB y))],[]⟩) ?_ ?_
       ·intro auU h1
        refine aO (s1 (far (k:=1) U j3 iK U) (s1 (bK U (ak iK qN U U)) (s1 (bi U U (j4 (b:=(0:UInt64)))) (sm U (sp h1 (fun h1=>?_) (fun h1=>?_))))))
        ·refine gw U (far (k:=2) U jZ iA U) (gw U (bK U (ak iA qw U U)) (gw U (len U U U (iV vk)) (gw U (bi U U qA) (s1 (pkt U U) (sm U (sp h1 (fun h1=>?_) (fun h1=>?_)))))))
         ·obtain ⟨RH,abI,h1⟩:=ob h1;have q:=si h1;subst q
          exact gw U (far (k:=2) U jZ iA U) (gw U (bK U (ak iA qw U U)) (c0 (Ng p0.S _ abI) (ww U) U U U aoD U (fun _=>rfl) (fun _=>rfl) (s1 (pkt U U) (sa U (SO.nil ((aC [] [] U)))))))
         ·have q:=si h1;subst q
          exact kw U (kw U (kw U (s1 (eT U U) (sa U (SO.nil ((aC [] [] U)))))))
        ·have q:=si h1;subst q
         refine kw U (kw U (kw U (kw U (s1 (eT U U) (sm U (kw U (kw U (kw U (s1 (eT U U) ?_)))))))))
         exact sa U (SO.nil ((aC [] [] U)))
       ·rintro y40 h0
        have q:=si h0;subst q
        exact aM (bM (Wk.refl _) (bq U aW) U)
      ·refine bR ?_
       change SC _ _ _ _ _
       have q:=si h0;subst q
       exact sr (sa U (sn (aM (bM (aC (e':=[(2,.d (eB false))]) [] [] U) (bq U aW) U))))
noncomputable def sH (p0:aA) (p1:aj):Option Int:=
 ah (α:=Bool)
 (ah (uD p1) fun r23=>
 bif (!r23) then
 some true
 else
 bif (p1.Kind==(0:Int)) then
 bif (!p0.Au) then
 some true
 else
 bif (p1.Kind != (0:Int)) then
 some (p1.Kind != p0.Kind)
 else
 some false
 else
 bif (p1.Kind != (0:Int)) then
 some (p1.Kind != p0.Kind)
 else
 some false)
 fun y20=>
 bif y20 then
 some (8:Int)
 else
 ah (α:=Bool)
 (bif (p1.Kind==(4:Int)) then
 some (decide ((p1.S.length:Int) > p0.Max))
 else
 bif (p1.Kind==(5:Int)) then
 some (decide ((p1.S.length:Int) > p0.Max))
 else
 some false)
 fun y24=>
 bif y24 then
 some (7:Int)
 else
 some (0:Int)
theorem Dz (p0:aA) (p1:aj) (r:Int) (h0:sH p0 p1=some r):aT Tryz.prog 61 [.d (aJ p0),.d (au p1)] [] (.d (eI r)) []:=by
 unfold sH at h0
 refine fn0 [0,1] Tryz.func61 U U U U U ?_
 refine sr (s1 (nN (k:=0) U U U) (s1 (nN (k:=1) U U U) (sa U (sn (sq (SC.dw h0 (fun y=>⟨mk 46 [(2,.ref 0 0 0),(3,.ref 1 0 0),(29,.d (eB y))],[.box (.d (aJ p0)),.box (.d (au p1))]⟩) ?_ ?_))))))
 ·intro akm h1
  obtain ⟨r23,ah3,h1⟩:=ob h1
  refine aO (s1 (bK (v:=.d (au p1)) U (ak gK ny U U)) (c0 (KZ p1 _ ah3) wf U U U atI U (fun _=>rfl) (fun _=>rfl) (s1 (nt U) (sm U (sp h1 (fun h1=>?_) (fun h1=>?_))))))
  ·have q:=si h1;subst q
   refine kw U (kw U (kw U (kw U (kw U (kw U (kw U (kw U (s1 (pkt U U) (sm U ?_)))))))))
   refine kw U (kw U (kw U (kw U (kw U (kw U (kw U (kw U (kw U (kw U ?_)))))))))
   exact s1 (pkt U U) (SO.nil ((wq U)))
  ·refine gw U (far (k:=0) U iG dH U) (gw U (bK U (ak dH gV U U)) (gw U (bi U U bD) (gw U (mv U) (sp h1 (fun h1=>?_) (fun h1=>?_)))))
   ·refine gw U (far (k:=3) U UZ nu U) (gw U (bK U (ak nu FB U U)) (gw U (nt U) (gw U (pkt U U) (s1 (eT U U) (sm U (sp h1 (fun h1=>?_) (fun h1=>?_)))))))
    ·have q:=si h1;subst q
     refine kw U (kw U (kw U (kw U (kw U (kw U (kw U (kw U (kw U (kw U ?_)))))))))
     exact s1 (pkt U U) (SO.nil ((wq U)))
    ·refine gw U (far (k:=0) U iG dH U) (gw U (bK U (ak dH gV U U)) (gw U (bi U U dA) (gw U (mv U) (sp h1 (fun h1=>?_) (fun h1=>?_)))))
     ·have q:=si h1;subst q
      exact gw U (far (k:=0) U iG dH U) (gw U (bK U (ak dH gV U U)) (gw U (far (k:=1) U oZ dH U) (gw U (bK U (ak dH gV U U)) (gw U (bi U U dA) (gw U (pkt U U) (s1 (eT U U) (SO.nil ((wq U)))))))))
     ·have q:=si h1;subst q
      exact kw U (kw U (kw U (kw U (kw U (gw U (eT U U) (s1 (eT U U) (SO.nil ((wq U)))))))))
   ·refine kw U (kw U (kw U (gw U (eT U U) (s1 (eT U U) (sm U (gw U (far (k:=0) U iG dH U) (gw U (bK U (ak dH gV U U)) (gw U (bi U U dA) (gw U (mv U) ?_)))))))))
    refine sp h1 (fun h1=>?_) (fun h1=>?_)
    ·have q:=si h1;subst q
     exact gw U (far (k:=0) U iG dH U) (gw U (bK U (ak dH gV U U)) (gw U (far (k:=1) U oZ dH U) (gw U (bK U (ak dH gV U U)) (gw U (bi U U dA) (gw U (pkt U U) (s1 (eT U U) (SO.nil ((wq U)))))))))
    ·have q:=si h1;subst q
     exact kw U (kw U (kw U (kw U (kw U (gw U (eT U U) (s1 (eT U U) (SO.nil ((wq U)))))))))
 ·rintro y20 h0
  refine cB h0 U (fun h0=>?_) (fun h0=>?_)
  ·have q:=si h0;subst q
   exact sr (sa U (sn (aM (bM (aC (e':=[(4,.d (eI (8:Int)))]) [] [] U) (bq U aW) U))))
  ·refine sk (sq (SC.dw h0 (fun y=>⟨mk 46 [(45,.d (eB y))],[]⟩) ?_ ?_))
   ·intro auW h1
    refine aO (s1 (far (k:=0) U iG dH U) (s1 (bK U (ak dH gV U U)) (s1 (bi U U bD) (sm U (sp h1 (fun h1=>?_) (fun h1=>?_))))))
    ·have q:=si h1;subst q
     refine kw U (kw U (kw U (s1 (pkt U U) (sm U (gw U (far (k:=2) U jZ iA U) (gw U (bK U (ak iA qw U U)) (gw U (len U U U (iV vk)) (gw U (far (k:=2) U sU dH U) (gw U (bK U (ak dH gV U U)) ?_)))))))))
     exact gw U (bi U U dx) (s1 (pkt U U) (SO.nil ((aC [] [] U))))
    ·refine gw U (far (k:=0) U iG dH U) (gw U (bK U (ak dH gV U U)) (gw U (bi U U bD) (s1 (eT U U) (sm U (sp h1 (fun h1=>?_) (fun h1=>?_))))))
     ·have q:=si h1;subst q
      exact gw U (far (k:=2) U jZ iA U) (gw U (bK U (ak iA qw U U)) (gw U (len U U U (iV vk)) (gw U (far (k:=2) U sU dH U) (gw U (bK U (ak dH gV U U)) (gw U (bi U U dx) (s1 (pkt U U) (SO.nil ((aC [] [] U)))))))))
     ·have q:=si h1;subst q
      exact kw U (kw U (kw U (kw U (kw U (kw U (s1 (eT U U) (SO.nil ((aC [] [] U)))))))))
   ·rintro y24 h0
    refine cB h0 U (fun h0=>?_) (fun h0=>?_)
    ·have q:=si h0;subst q
     exact sr (sa U (sn (aM (bM (Wk.refl _) (bq U aW) U))))
    ·have q:=si h0;subst q
     exact sk (sr (sa U (sn (aM (bM (Wk.refl _) (bq U aW) U)))))
noncomputable def oD (p0:aA):Option Int:=
 ah (qb p0.Name) fun GV=>
 bif (!GV) then
 some (1:Int)
 else
 ah (α:=Bool)
 (bif (decide (p0.Kind < (1:Int))) then
 some true
 else
 some (decide (p0.Kind > (5:Int))))
 fun y20=>
 bif y20 then
 some (8:Int)
 else
 ah (α:=Bool)
 (bif (decide (p0.Kind < (4:Int))) then
 bif (p0.Max != (0:Int)) then
 some true
 else
 bif (decide (p0.Kind > (3:Int))) then
 bif (decide (p0.Max < (1:Int))) then
 some true
 else
 some (decide (p0.Max > (64:Int)))
 else
 some false
 else
 bif (decide (p0.Kind > (3:Int))) then
 bif (decide (p0.Max < (1:Int))) then
 some true
 else
 some (decide (p0.Max > (64:Int)))
 else
 some false)
 fun y22=>
 bif y22 then
 some (7:Int)
 else
 ah (sH p0 p0.Default) fun r25=>
 some r25
theorem Ad (p0:aA) (r:Int) (h0:oD p0=some r):aT Tryz.prog 32 [.d (aJ p0)] [] (.d (eI r)) []:=by
 unfold oD at h0
 refine fn0 [0] Tryz.func32 U U U U U ?_
 obtain ⟨GV,UN,h0⟩:=ob h0
 refine sr (s1 (nN (k:=0) U U U) (sa U (sn (sq (sr (s1 (far (k:=0) U Qd iA U) (s1 (bK U (ak iA qw U U)) (c0 (xV p0.Name _ UN) wf U U U aja U (fun _=>rfl) (fun _=>rfl) (s1 (nt U) ?_)))))))))
 refine sn (cB h0 U (fun h0=>?_) (fun h0=>?_))
 ·have q:=si h0;subst q
  exact sr (sa U (sn (aM (bM (aC (e':=[(2,.d (eI (1:Int)))]) [] [] U) (bq U aW) U))))
 ·refine sk (sq (SC.dw h0 (fun y=>⟨mk 42 [(1,.ref 0 0 0),(14,.d (eB y))],[.box (.d (aJ p0))]⟩) ?_ ?_))
  ·intro akm h1
   refine aO (s1 (far (k:=1) U oZ dH U) (s1 (bK U (ak dH gV U U)) (s1 (bi U U bB) (sm U (sp h1 (fun h1=>?_) (fun h1=>?_))))))
   ·have q:=si h1;subst q
    exact kw U (kw U (kw U (s1 (pkt U U) (SO.nil ((wq U))))))
   ·have q:=si h1;subst q
    exact gw U (far (k:=1) U oZ dH U) (gw U (bK U (ak dH gV U U)) (gw U (bi U U dx) (s1 (eT U U) (SO.nil ((wq U))))))
  ·rintro y20 h0
   refine cB h0 U (fun h0=>?_) (fun h0=>?_)
   ·have q:=si h0;subst q
    exact sr (sa U (sn (aM (bM (aC (e':=[(2,.d (eI (8:Int)))]) [] [] U) (bq U aW) U))))
   ·refine sk (sq (SC.dw h0 (fun y=>⟨mk 42 [(1,.ref 0 0 0),(37,.d (eB y))],[.box (.d (aJ p0))]⟩) ?_ ?_))
    ·intro akl h1
     refine aO (s1 (far (k:=1) U oZ dH U) (s1 (bK U (ak dH gV U U)) (s1 (bi U U bB) (sm U (sp h1 (fun h1=>?_) (fun h1=>?_))))))
     ·refine gw U (far (k:=2) U sU dH U) (gw U (bK U (ak dH gV U U)) (gw U (bi U U dA) (s1 (pkt U U) (sm U (sp h1 (fun h1=>?_) (fun h1=>?_))))))
      ·have q:=si h1;subst q
       refine kw U (kw U (kw U (kw U (kw U (kw U (kw U (kw U (kw U (kw U ?_)))))))))
       exact kw U (kw U (kw U (s1 (pkt U U) (SO.nil ((wq U))))))
      ·refine gw U (far (k:=1) U oZ dH U) (gw U (bK U (ak dH gV U U)) (gw U (bi U U dx) (gw U (mv U) (sp h1 (fun h1=>?_) (fun h1=>?_)))))
       ·refine gw U (far (k:=2) U sU dH U) (gw U (bK U (ak dH gV U U)) (gw U (bi U U bB) (gw U (mv U) (sp h1 (fun h1=>?_) (fun h1=>?_)))))
        ·have q:=si h1;subst q
         exact kw U (kw U (kw U (gw U (pkt U U) (gw U (pkt U U) (s1 (eT U U) (SO.nil ((wq U))))))))
        ·have q:=si h1;subst q
         exact gw U (far (k:=2) U sU dH U) (gw U (bK U (ak dH gV U U)) (gw U (bi U U dx) (gw U (eT U U) (gw U (pkt U U) (s1 (eT U U) (SO.nil ((wq U))))))))
       ·have q:=si h1;subst q
        refine kw U (kw U (kw U (kw U (kw U (kw U (kw U (kw U (gw U (eT U U) (s1 (eT U U) ?_)))))))))
        exact SO.nil ((wq U))
     ·refine kw U (kw U (kw U (s1 (eT U U) (sm U (gw U (far (k:=1) U oZ dH U) (gw U (bK U (ak dH gV U U)) (gw U (bi U U dx) (gw U (mv U) (sp h1 (fun h1=>?_) (fun h1=>?_))))))))))
      ·refine gw U (far (k:=2) U sU dH U) (gw U (bK U (ak dH gV U U)) (gw U (bi U U bB) (gw U (mv U) (sp h1 (fun h1=>?_) (fun h1=>?_)))))
       ·have q:=si h1;subst q
        exact kw U (kw U (kw U (gw U (pkt U U) (gw U (pkt U U) (s1 (eT U U) (SO.nil ((wq U))))))))
       ·have q:=si h1;subst q
        exact gw U (far (k:=2) U sU dH U) (gw U (bK U (ak dH gV U U)) (gw U (bi U U dx) (gw U (eT U U) (gw U (pkt U U) (s1 (eT U U) (SO.nil ((wq U))))))))
      ·have q:=si h1;subst q
       refine kw U (kw U (kw U (kw U (kw U (kw U (kw U (kw U (gw U (eT U U) (s1 (eT U U) ?_)))))))))
       exact SO.nil ((wq U))
    ·rintro y22 h0
     refine cB h0 U (fun h0=>?_) (fun h0=>?_)
     ·have q:=si h0;subst q
      exact sr (sa U (sn (aM (bM (aC (e':=[(2,.d (eI (7:Int)))]) [] [] U) (bq U aW) U))))
     ·obtain ⟨r25,ah2,h0⟩:=ob h0;have q:=si h0;subst q
      exact sk (sr (s1 (bK (v:=.d (aJ p0)) U (ak qH Hl U U)) (s1 (far (k:=4) U UY gK U) (s1 (bK (v:=.d (au p0.Default)) U (ak gK ny U U)) (c0 (Dz p0 p0.Default _ ah2) wf U U U anK U (fun _=>rfl) (fun _=>rfl) (sa U (sn (aM (bM (aC (e':=[(2,.d (eI r25))]) [] [] U) (bq U aW) U)))))))))
noncomputable def sw (p0:List Int) (p1:Int):Option Bool:=
 fP (Y:=Unit) (E:=Bool)
 (ah (α:=Unit⊕Bool)
 (loop (Y:=Int) (W:=Unit⊕Bool) (fun MP=>
 bif (decide (MP < (p0.length:Int))) then
 ah (bP p0 MP) fun v51=>
 bif (v51==p1) then
 some (Sum.inr (Sum.inr true))
 else
 some (Sum.inl (bL (MP+(1:Int))))
 else
 some (Sum.inr (Sum.inl ()))) (0:Int))
 (Sum.elim (fun e=>some (Sum.inl e)) (fun e=>some (Sum.inr e))))
 (fun _=>
 some false)
 (fun e=>some e)
theorem zw (p0:List Int) (p1:Int) (r:Bool) (h0:sw p0 p1=some r):aT Tryz.prog 39 [.d ((eL 1 eI) p0),.d (eI p1)] [] (.d (eB r)) []:=by
 unfold sw at h0
 refine fn0 [0,1] Tryz.func39 U U U U U ?_
 refine sr (sa U (sn (SC.seqB h0 (fun y=>⟨mk 18 [],[]⟩) ?_ ?_)))
 ·intro akh h1 h0
  obtain ⟨ake,h2,h1⟩:=ob h1
  refine sr (sa U (sn (SC.blk (SC.eH h2 (fun y=>⟨mk 18 [(0,.d ((eL 1 eI) p0)),(1,.d (eI p1)),(5,.d (eI y))],[]⟩) (wq U) ?_))))
  intro n52
  rintro MP ajU h3 hv3
  refine sq (sr (sm U (sm U (s1 (len U U U (bN iJ)) (s1 (bi U U bB) (sn (cB h3 U (fun h3=>?_) (fun h3=>?_))))))))
  ·obtain ⟨v51,aa8,h3⟩:=ob h3
   refine sk (sq (SC.blk (sr (sm U (sm U (s1 (kV U U iJ dH (aB aa8).1 (bI (aB aa8).2) U) (s1 (bK U (bY dH gV U)) (sm U (s1 (bi U U bD) ?_)))))))))
   refine sn (cB h3 U (fun h3=>?_) (fun h3=>?_))
   ·have q:=si h3;subst q;have q:_=_:=hv3;subst q;have q:=si h1;subst q;have q:=si h0;subst q
    exact sr (sa U (sn (aM (bM (Wk.refl _) (bq U aW) U))))
   ·refine bR ?_
    change SC _ _ _ _ _
    have q:=si h3;subst q
    exact aO (sm U (s1 (bi U U bH) (sa U (SO.nil (lf (wq U))))))
  ·have q:=si h3;subst q;have q:_=_:=hv3;subst q;have q:=si h1;subst q
   exact bZ (lf (wq U))
 ·intro _ h0
  have q:=si h0;subst q
  exact sr (sa U (sn (aM (bM (Wk.refl _) (bq U aW) U))))
noncomputable def lV (p0:Int) (p1:List Int):Option Bool:=
 fP (Y:=Unit) (E:=Bool)
 (ah (α:=Unit⊕Bool)
 (loop (Y:=Int) (W:=Unit⊕Bool) (fun Kn=>
 bif (decide (Kn < (p1.length:Int))) then
 ah (α:=Bool)
 (ah (bP p1 Kn) fun aj8=>
 bif (decide (aj8 < (0:Int))) then
 some true
 else
 ah (bP p1 Kn) fun aj7=>
 bif (decide (aj7≥p0)) then
 some true
 else
 bif decide (0≤Kn∧Kn≤(p1.length:Int)) then
 ah (bP p1 Kn) fun Uc=>
 ah (sw (List.take Kn.toNat p1) Uc) fun Eb=>
 some Eb
 else none)
 fun ZA=>
 bif ZA then
 some (Sum.inr (Sum.inr false))
 else
 some (Sum.inl (bL (Kn+(1:Int))))
 else
 some (Sum.inr (Sum.inl ()))) (0:Int))
 (Sum.elim (fun e=>some (Sum.inl e)) (fun e=>some (Sum.inr e))))
 (fun _=>
 some true)
 (fun e=>some e)
theorem uT (p0:Int) (p1:List Int) (r:Bool) (h0:lV p0 p1=some r):aT Tryz.prog 33 [.d (eI p0),.d ((eL 1 eI) p1)] [] (.d (eB r)) []:=by
 unfold lV at h0
 refine fn0 [0,1] Tryz.func33 U U U U U ?_
 refine sr (sa U (sn (SC.seqB h0 (fun y=>⟨mk 35 [],[]⟩) ?_ ?_)))
 ·intro ahd h1 h0
  obtain ⟨arj,h2,h1⟩:=ob h1
  refine sr (sa U (sn (SC.blk (SC.eH h2 (fun y=>⟨mk 35 [(0,.d (eI p0)),(1,.d ((eL 1 eI) p1)),(5,.d (eI y))],[]⟩) (wq U) ?_))))
  intro n286
  rintro Kn aqc h3 hv3
  refine sq (sr (sm U (sm U (s1 (len U U U (bN iJ)) (s1 (bi U U bB) (sn (cB h3 U (fun h3=>?_) (fun h3=>?_))))))))
  ·refine sk (sq (SC.blk (SC.dw h3 (fun y=>⟨mk 35 [(0,.d (eI p0)),(1,.d ((eL 1 eI) p1)),(5,.d (eI Kn)),(34,.d (eB y))],[]⟩) ?_ ?_)))
   ·intro aqW h4
    obtain ⟨aj8,af5,h4⟩:=ob h4
    refine SC.draws (by kernel_rfl) (t1 aH (mv U) U (t1 aH (mv U) U (t1 aH (kV U U iJ dH (aB af5).1 (bI (aB af5).2) U) U (t1 aH (bK U (bY dH gV U)) U (t1 aH (bi U U bB) U (t1 aH (mv U) U (tp h4 (fun h4=>?_) (fun h4=>?_))))))))
    ·have q:=si h4;subst q
     refine jw U (jw U (jw U (jw U (jw U (jw U (t1 aH (pkt U U) U (t1 aH (mv U) U (jw U (jw U ?_)))))))))
     refine jw U (jw U (jw U (jw U (jw U (jw U (t1 aH (pkt U U) U (ST.nil (And.intro (by decide +kernel) ?_))))))))
     exact (wq U)
    ·obtain ⟨aj7,af4,h4⟩:=ob h4
     refine u1 aH (ww U) (mv U) U (u1 aH (ww U) (mv U) U (u1 aH (ww U) (kV U U iJ dH (aB af4).1 (bI (aB af4).2) U) U (u1 aH (ww U) (bK U (bY dH gV U)) U (u1 aH (ww U) (mv U) U (u1 aH (ww U) (bi U U fU) U (t1 aH (eT U U) U (t1 aH (mv U) U (tp h4 (fun h4=>?_) (fun h4=>?_)))))))))
     ·have q:=si h4;subst q
      refine jw U (jw U (jw U (jw U (jw U (jw U (jw U (jw U (t1 aH (pkt U U) U (ST.nil (And.intro (by decide +kernel) ?_))))))))))
      exact (wq U)
     ·obtain ⟨am5,h4⟩:=gd h4;obtain ⟨Uc,SH,h4⟩:=ob h4;obtain ⟨Eb,abK,h4⟩:=ob h4;have q:=si h4;subst q
      refine u1 aH (ww U) (mv U) U (u1 aH (ww U) (mv U) U (u1 aH (ww U) (NT U U U U (Hr iJ dH am5)) U (u1 aH (ww U) (mv U) U (u1 aH (ww U) (mv U) U (u1 aH (ww U) (kV U U iJ dH (aB SH).1 (bI (aB SH).2) U) U (u1 aH (ww U) (bK U (bY dH gV U)) U (Hg (zw (List.take Kn.toNat p1) Uc _ abK) (ww U) U U U ai8 U (fun _=>rfl) (fun _=>rfl) (t1 aH (eT U U) U (ST.nil (And.intro (by decide +kernel) ?_))))))))))
      exact (wq U)
   ·rintro ZA h3
    refine cB h3 U (fun h3=>?_) (fun h3=>?_)
    ·have q:=si h3;subst q;have q:_=_:=hv3;subst q;have q:=si h1;subst q;have q:=si h0;subst q
     exact sr (sa U (sn (aM (bM (Wk.refl _) (bq U aW) U))))
    ·refine bR ?_
     change SC _ _ _ _ _
     have q:=si h3;subst q
     exact aO (sm U (s1 (bi U U bH) (sa U (SO.nil (lf (wq U))))))
  ·have q:=si h3;subst q;have q:_=_:=hv3;subst q;have q:=si h1;subst q
   exact bZ (lf (wq U))
 ·intro _ h0
  have q:=si h0;subst q
  exact sr (sa U (sn (aM (bM (Wk.refl _) (bq U aW) U))))
noncomputable def su (p0:aA) (p1:Int):Option Int:=
 ah (α:=Bool)
 (bif (p0.Kind==(1:Int)) then
 some (p0.Kind==(1:Int))
 else
 some (p0.Kind==(2:Int)))
 fun y6=>
 bif y6 then
 some (9:Int)
 else
 bif (p0.Kind==(3:Int)) then
 some (2:Int)
 else
 some (bL ((3:Int)+(bL (p1*p0.Max))))
theorem Du (p0:aA) (p1:Int) (r:Int) (h0:su p0 p1=some r):aT Tryz.prog 80 [.d (aJ p0),.d (eI p1)] [] (.d (eI r)) []:=by
 unfold su at h0
 refine fn0 [0,1] Tryz.func80 U U U U U ?_
 refine sr (s1 (nN (k:=0) U U U) (sa U (sn (sq (sr (s1 (far (k:=1) U oZ dH U) (s1 (bK U (ak dH gV U U)) (sn (SC.blk ?_)))))))))
 refine SC.dw h0 (fun y=>⟨mk 17 [(1,.d (eI p1)),(2,.ref 0 0 0),(6,.d (eI p0.Kind)),(7,.d (eB y))],[.box (.d (aJ p0))]⟩) ?_ ?_
 ·intro aaj h1
  refine sr (s1 (bi U U bD) (sa U (sn (cB h1 U (fun h1=>?_) (fun h1=>?_)))))
  ·have q:=si h1;subst q
   exact bR ((wq U))
  ·have q:=si h1;subst q
   exact aO (s1 (bi U U bD) (sa U (SO.nil ((wq U)))))
 ·rintro y6 h0
  refine cB h0 U (fun h0=>?_) (fun h0=>?_)
  ·have q:=si h0;subst q
   exact sr (sa U (sn (aM (bM (aC (e':=[(4,.d (eI (9:Int)))]) [] [] U) (bq U aW) U))))
  ·refine sr (s1 (bi U U bD) (sa U (sn (cB h0 U (fun h0=>?_) (fun h0=>?_)))))
   ·have q:=si h0;subst q
    exact sr (sa U (sn (aM (bM (aC (e':=[(4,.d (eI (2:Int)))]) [] [] U) (bq U aW) U))))
   ·refine bR ?_
    change SC _ _ _ _ _
    have q:=si h0;subst q
    exact sr (sm U (s1 (far (k:=2) U sU dH U) (s1 (bK U (ak dH gV U U)) (s1 (bi U U vN) (s1 (bi U U bH) (sa U (sn (aM (bM (wc (e':=[(4,.d (eI (bL ((3:Int)+(bL (p1*p0.Max))))))]) [] [] (by kernel_rfl) U (by kernel_rfl)) (bq U aW) U)))))))))
noncomputable def qQ (p0:List aA):Option Int:=
 ah (α:=Int)
 (ah (α:=Int)
 (loop (Y:=Int×Int) (W:=Int) (fun (y91,TW)=>
 bif (decide (TW < (p0.length:Int))) then
 ah (bP p0 TW) fun adH=>
 ah (su adH (1:Int)) fun K8=>
 some (Sum.inl ((bL (y91+K8)),(bL (TW+(1:Int)))))
 else
 some (Sum.inr y91)) ((1:Int),(0:Int)))
 (fun e=>some e))
 fun y86=>
 some y86
theorem Jw (p0:List aA) (r:Int) (h0:qQ p0=some r):aT Tryz.prog 34 [.d ((eL 7 aJ) p0)] [] (.d (eI r)) []:=by
 unfold qQ at h0
 refine fn0 [0] Tryz.func34 U U U U U ?_
 refine sr (sa U (sn (sr (sa U (sn (SC.dw h0 (fun y=>⟨mk 19 [(3,.d (eI y))],[]⟩) ?_ ?_))))))
 ·intro afn h1
  obtain ⟨auA,h2,h1⟩:=ob h1
  refine sr (sa U (sn (SC.blk (SC.eH h2 (fun y=>⟨mk 19 [(0,.d ((eL 7 aJ) p0)),(3,.d (eI y.1)),(4,.d (eI y.2))],[]⟩) (wq U) ?_))))
  intro n103
  rintro ⟨y91,TW⟩ aut h3 hv3
  refine sq (sr (sm U (sm U (s1 (len U U U (bN ng)) (s1 (bi U U bB) (sn (cB h3 U (fun h3=>?_) (fun h3=>?_))))))))
  ·obtain ⟨adH,agu,h3⟩:=ob h3;obtain ⟨K8,amw,h3⟩:=ob h3
   refine sk (sq (SC.blk (aO (sm U (sm U (sm U (s1 (kV U U ng qH (aB agu).1 (bI (aB agu).2) U) (s1 (bK (v:=.d (aJ adH)) U (bY qH Hl U)) (c0 (Du adH (1:Int) _ amw) wf U U U anG U (fun _=>rfl) (fun _=>rfl) ?_)))))))))
   refine s1 (bi U U bH) (sa U (SO.nil ?_))
   change SC _ _ _ _ _
   have q:=si h3;subst q
   exact aO (sm U (s1 (bi U U bH) (sa U (SO.nil (lf (wq U))))))
  ·have q:=si h3;subst q;have q:_=_:=hv3;subst q;have q:=si h1;subst q
   exact bZ ((wq U))
 ·rintro y86 h0
  have q:=si h0;subst q
  exact sr (sm U (sa U (sn (aM (bM (Wk.refl _) (bq U aW) U)))))
noncomputable def oz (p0:List aA) (p1:List aX):Option Int:=
 ah (α:=Int)
 (ah (α:=Int)
 (loop (Y:=Int×Int) (W:=Int) (fun (Az,G7)=>
 bif (decide (G7 < (p1.length:Int))) then
 ah (bP p1 G7) fun v117=>
 ah (bP p0 v117.Col) fun adF=>
 ah (su adF (2:Int)) fun akQ=>
 some (Sum.inl ((bL (Az+akQ)),(bL (G7+(1:Int)))))
 else
 some (Sum.inr Az)) ((0:Int),(0:Int)))
 (fun e=>some e))
 fun y101=>
 some y101
theorem Ab (p0:List aA) (p1:List aX) (r:Int) (h0:oz p0 p1=some r):aT Tryz.prog 35 [.d ((eL 7 aJ) p0),.d ((eL 2 aK) p1)] [] (.d (eI r)) []:=by
 unfold oz at h0
 refine fn0 [0,1] Tryz.func35 U U U U U ?_
 refine sr (sa U (sn (sr (sa U (sn (SC.dw h0 (fun y=>⟨mk 25 [(5,.d (eI y))],[]⟩) ?_ ?_))))))
 ·intro ar9 h1
  obtain ⟨arB,h2,h1⟩:=ob h1
  refine sr (sa U (sn (SC.blk (SC.eH h2 (fun y=>⟨mk 25 [(0,.d ((eL 7 aJ) p0)),(1,.d ((eL 2 aK) p1)),(5,.d (eI y.1)),(6,.d (eI y.2))],[]⟩) (wq U) ?_))))
  intro n121
  rintro ⟨Az,G7⟩ aqh h3 hv3
  refine sq (sr (sm U (sm U (s1 (len U U U (bN xg)) (s1 (bi U U bB) (sn (cB h3 U (fun h3=>?_) (fun h3=>?_))))))))
  ·obtain ⟨v117,agq,h3⟩:=ob h3;obtain ⟨adF,agp,h3⟩:=ob h3;obtain ⟨akQ,amo,h3⟩:=ob h3
   refine sk (sq (SC.blk (aO (sm U (sm U (sm U (sm U (s1 (kV U U xg Hf (aB agq).1 (bI (aB agq).2) U) (s1 (fap U Ce dH U) ?_)))))))))
   refine s1 (bK U (bY dH gV U)) (s1 (kV U U ng qH (aB agp).1 (bI (aB agp).2) U) (s1 (bK (v:=.d (aJ adF)) U (bY qH Hl U)) (c0 (Du adF (2:Int) _ amo) wf U U U anG U (fun _=>rfl) (fun _=>rfl) (s1 (bi U U bH) (sa U (SO.nil ?_))))))
   change SC _ _ _ _ _
   have q:=si h3;subst q
   exact aO (sm U (s1 (bi U U bH) (sa U (SO.nil (lf (wq U))))))
  ·have q:=si h3;subst q;have q:_=_:=hv3;subst q;have q:=si h1;subst q
   exact bZ ((wq U))
 ·rintro y101 h0
  have q:=si h0;subst q
  exact sr (sm U (sa U (sn (aM (bM (Wk.refl _) (bq U aW) U)))))
noncomputable def sD (p0:List aX):Option ((List Int)):=
 ah (α:=(List Int))
 (ah (α:=(List Int))
 (loop (Y:=(List Int)×Int) (W:=(List Int)) (fun (xO,AX)=>
 bif (decide (AX < (p0.length:Int))) then
 ah (bP p0 AX) fun v83=>
 bif decide ((xO.length+[v83.Col].length)*8≤room) then
 some (Sum.inl ((xO++[v83.Col]),(bL (AX+(1:Int)))))
 else none
 else
 some (Sum.inr xO)) (([]:List Int),(0:Int)))
 (fun e=>some e))
 fun IG=>
 some IG
theorem Dw (p0:List aX) (r:(List Int)) (h0:sD p0=some r):aT Tryz.prog 40 [.d ((eL 2 aK) p0)] [] (.d ((eL 1 eI) r)) []:=by
 unfold sD at h0
 refine fn0 [0] Tryz.func40 U U U U U ?_
 refine sr (s1 (jA (v:=.d .dB) U) (sn (sr (s1 (jA (v:=.d .dB) U) (sn (SC.dw h0 (fun y=>⟨mk 20 [(3,.slc 0 1 0 y.length none)],[.row 1 (List.map eI y) true]⟩) ?_ ?_))))))
 ·intro V7 h1
  obtain ⟨V5,h2,h1⟩:=ob h1
  refine sr (sa U (sn (SC.blk (SC.eH h2 (fun y=>⟨mk 20 [(0,.d ((eL 2 aK) p0)),(3,.slc 0 1 0 y.1.length none),(4,.d (eI y.2))],[.row 1 (List.map eI y.1) true]⟩) (Wk.trans (Wk.nI (σ':=[.row 1 (List.map eI ([]:List Int)) true]) (.row 1 [] true) (fun _ hh=>by cases hh) U) (Wk.trans (Wk.env (e':=[(0,.d ((eL 2 aK) p0)),(3,.slc 0 1 0 (([]:List Int).length) none),(4,.d (eI (0:Int)))]) (EW.cons (AW.refl _) (EW.cons (AW.mH _ _ _) (EW.cons (AW.refl _) EW.nil)))) (wq U))) ?_))))
  intro n85
  rintro ⟨xO,AX⟩ VL h3 hv3
  refine sq (sr (sm U (sm U (s1 (len U U U (bN xg)) (s1 (bi U U bB) (sn (cB h3 U (fun h3=>?_) (fun h3=>?_))))))))
  ·obtain ⟨v83,Gi,h3⟩:=ob h3;obtain ⟨UQ,h3⟩:=gd h3
   refine sk (sq (SC.blk (aO (sm U (sm U (sm U (s1 (kV U U xg Hf (aB Gi).1 (bI (aB Gi).2) U) (s1 (fap U Ce dH U) (s1 (bK U (bY dH gV U)) ?_)))))))))
   refine s1 (rX (k:=1) (ds:=List.map eI [v83.Col]) (off:=0) (l':=[v83.Col].length) U iJ TV U U (by rfl) U U U) (s1 (app U U U U YN (aF (f:=eI) (xs:=xO) (k:=2) U iJ TV U (dU (xs:=[v83.Col]) U) UQ U)) (sa U (SO.nil ?_)))
   change SC _ _ _ _ _
   have q:=si h3;subst q
   exact aO (sm U (s1 (bi U U bH) (sa U (SO.nil (lf (aC [2] [2] U))))))
  ·have q:=si h3;subst q;have q:_=_:=hv3;subst q;have q:=si h1;subst q
   exact bZ ((wq U))
 ·rintro IG h0
  have q:=si h0;subst q
  exact sr (sm U (sa U (sn (aM (bM (Wk.trans (Wk.og (i:=2) (x:=.slc 0 1 0 IG.length none) U U (fF U U U)) (aC (e':=[(2,.d ((eL 1 eI) IG))]) [] [] U)) (bq U aW) U)))))
noncomputable def uq (p0:aL) (p1:bT):Option Int:=
 ah (α:=Bool)
 (bif (decide ((p1.Parts.length:Int) < (1:Int))) then
 some true
 else
 bif (decide ((p1.Parts.length:Int) > (4:Int))) then
 some true
 else
 ah (sD p1.Parts) fun ahq=>
 ah (lV (p0.aV.length:Int) ahq) fun wH=>
 bif (!wH) then
 some true
 else
 ah (lV (p0.aV.length:Int) p1.Extra) fun Eb=>
 some (!Eb))
 fun ZA=>
 bif ZA then
 some (1:Int)
 else
 fP (Y:=Unit) (E:=Int)
 (ah (α:=Unit⊕Int)
 (loop (Y:=Int) (W:=Unit⊕Int) (fun Xx=>
 bif (decide (Xx < (p1.Extra.length:Int))) then
 ah (α:=Bool)
 (ah (sD p1.Parts) fun ahp=>
 ah (bP p1.Extra Xx) fun ag4=>
 ah (sw ahp ag4) fun r400=>
 bif r400 then
 some true
 else
 ah (bP p1.Extra Xx) fun DX=>
 ah (sw p0.aR DX) fun akO=>
 some akO)
 fun ajL=>
 bif ajL then
 some (Sum.inr (Sum.inr (1:Int)))
 else
 some (Sum.inl (bL (Xx+(1:Int))))
 else
 some (Sum.inr (Sum.inl ()))) (0:Int))
 (Sum.elim (fun e=>some (Sum.inl e)) (fun e=>some (Sum.inr e))))
 (fun _=>
 ah (oz p0.aV p1.Parts) fun HV=>
 bif (decide (HV > (128:Int))) then
 some (7:Int)
 else
 some (0:Int))
 (fun e=>some e)
theorem KQ (p0:aL) (p1:bT) (r:Int) (h0:uq p0 p1=some r):aT Tryz.prog 37 [.d (bE p0),.d (bF p1)] [] (.d (eI r)) []:=by
 unfold uq at h0
 refine fn0 [0,1] Tryz.func37 U U U U U ?_
 refine sr (s1 (nN (k:=0) U U U) (s1 (nN (k:=1) U U U) (sa U (sn (sr (s1 (far (k:=1) U l6 mE U) (s1 (bK U (ak mE AA U U)) (s1 (len U U U (bN ng)) (sa U ?_)))))))))
 refine sn (sq (SC.dw h0 (fun y=>⟨mk 67 [(2,.ref 0 0 0),(3,.ref 1 0 0),(34,.d (eB y))],[.box (.d (bE p0)),.box (.d (bF p1))]⟩) ?_ ?_))
 ·intro arX h1
  refine aO (s1 (far (k:=1) U Cg vo U) (s1 (bK U (ak vo KF U U)) (s1 (len U U U (bN xg)) (s1 (bi U U bB) (sm U (sp h1 (fun h1=>?_) (fun h1=>?_)))))))
  ·have q:=si h1;subst q
   refine kw U (kw U (kw U (kw U (s1 (pkt U U) (sm U (kw U (kw U (kw U (kw U ?_)))))))))
   refine kw U (kw U (s1 (pkt U U) (sm U (kw U (kw U (kw U (kw U (kw U (s1 (pkt U U) ?_)))))))))
   exact SO.nil ((wq U))
  ·refine gw U (far (k:=1) U Cg vo U) (gw U (bK U (ak vo KF U U)) (gw U (len U U U (bN xg)) (gw U (bi U U dx) (s1 (eT U U) (sm U (sp h1 (fun h1=>?_) (fun h1=>?_)))))))
   ·have q:=si h1;subst q
    refine kw U (kw U (kw U (kw U (kw U (kw U (s1 (pkt U U) (sm U (kw U (kw U ?_)))))))))
    exact kw U (kw U (kw U (s1 (pkt U U) (SO.nil ((wq U))))))
   ·obtain ⟨ahq,al5,h1⟩:=ob h1;obtain ⟨wH,abL,h1⟩:=ob h1
    refine gw U (mv U) (gw U (far (k:=1) U Cg vo U) (gw U (bK U (ak vo KF U U)) (c0 (Dw p1.Parts _ al5) (ww U) U U U anO U (fun _=>rfl) (fun _=>rfl) (c0 (uT (p0.aV.length:Int) ahq _ abL) (ww U) U U U ai9 U (fun _=>rfl) (fun _=>rfl) (gw U (nt U) (s1 (eT U U) (sm U (sp h1 (fun h1=>?_) (fun h1=>?_)))))))))
    ·have q:=si h1;subst q
     exact kw U (kw U (kw U (kw U (kw U (s1 (pkt U U) (SO.nil ((wq U))))))))
    ·obtain ⟨Eb,abK,h1⟩:=ob h1;have q:=si h1;subst q
     exact gw U (mv U) (gw U (far (k:=2) U zO jf U) (gw U (bK U (ak jf vB U U)) (c0 (uT (p0.aV.length:Int) p1.Extra _ abK) (ww U) U U U ai9 U (fun _=>rfl) (fun _=>rfl) (gw U (nt U) (s1 (eT U U) (SO.nil ((wq U))))))))
 ·rintro ZA h0
  refine cB h0 U (fun h0=>?_) (fun h0=>?_)
  ·have q:=si h0;subst q
   exact sr (sa U (sn (aM (bM (aC (e':=[(4,.d (eI (1:Int)))]) [] [] U) (bq U aW) U))))
  ·refine sk (SC.seqB h0 (fun y=>⟨mk 67 [(2,.ref 0 0 0),(3,.ref 1 0 0)],[.box (.d (bE p0)),.box (.d (bF p1))]⟩) ?_ ?_)
   ·intro arU h1 h0
    obtain ⟨arh,h2,h1⟩:=ob h1
    refine sr (sa U (sn (SC.blk (SC.eH h2 (fun y=>⟨mk 67 [(2,.ref 0 0 0),(3,.ref 1 0 0),(6,.d (eI y))],[.box (.d (bE p0)),.box (.d (bF p1))]⟩) (wq U) ?_))))
    intro avu
    rintro Xx aqb h3 hv3
    refine sq (sr (sm U (s1 (far (k:=2) U zO jf U) (s1 (bK U (ak jf vB U U)) (s1 (len U U U (bN iJ)) (s1 (bi U U bB) (sn (cB h3 U (fun h3=>?_) (fun h3=>?_)))))))))
    ·refine sk (sq (SC.blk (SC.dw h3 (fun y=>⟨mk 67 [(2,.ref 0 0 0),(3,.ref 1 0 0),(6,.d (eI Xx)),(60,.d (eB y))],[.box (.d (bE p0)),.box (.d (bF p1))]⟩) ?_ ?_)))
     ·intro aqU h4
      obtain ⟨ahp,al1,h4⟩:=ob h4;obtain ⟨ag4,af0,h4⟩:=ob h4;obtain ⟨r400,al0,h4⟩:=ob h4
      refine SC.draws (by kernel_rfl) (t1 aH (far (k:=1) U Cg vo U) U (t1 ([1],false) (bK U (ak vo KF U U)) U (Hg (Dw p1.Parts _ al1) wf U U U anO U (fun _=>rfl) (fun _=>rfl) (t1 aH (far (k:=2) U zO jf U) U (t1 ([1],false) (bK U (ak jf vB U U)) U (t1 aH (mv U) U (t1 aH (kV U U iJ dH (aB af0).1 (bI (aB af0).2) U) U (t1 aH (bK U (bY dH gV U)) U (Hg (zw ahp ag4 _ al0) wf U U U ai8 U (fun _=>rfl) (fun _=>rfl) ?_)))))))))
      refine t1 aH (mv U) U (tp h4 (fun h4=>?_) (fun h4=>?_))
      ·have q:=si h4;subst q
       refine jw U (jw U (jw U (jw U (jw U (jw U (jw U (jw U (t1 aH (pkt U U) U (ST.nil (And.intro (by decide +kernel) ?_))))))))))
       exact (wq U)
      ·obtain ⟨DX,SG,h4⟩:=ob h4;obtain ⟨akO,abJ,h4⟩:=ob h4;have q:=si h4;subst q
       refine u1 aH (ww U) (far (k:=2) U wR jf U) U (u1 ([0],false) (ww U) (bK U (ak jf vB U U)) U (u1 aH (ww U) (far (k:=2) U zO jf U) U (u1 ([1],false) (ww U) (bK U (ak jf vB U U)) U (u1 aH (ww U) (mv U) U (u1 aH (ww U) (kV U U iJ dH (aB SG).1 (bI (aB SG).2) U) U (u1 aH (ww U) (bK U (bY dH gV U)) U (Hg (zw p0.aR DX _ abJ) (ww U) U U U ai8 U (fun _=>rfl) (fun _=>rfl) (t1 aH (eT U U) U (ST.nil (And.intro (by decide +kernel) ?_))))))))))
       exact (wq U)
     ·rintro ajL h3
      refine cB h3 U (fun h3=>?_) (fun h3=>?_)
      ·have q:=si h3;subst q;have q:_=_:=hv3;subst q;have q:=si h1;subst q;have q:=si h0;subst q
       exact sr (sa U (sn (aM (bM (aC (e':=[(4,.d (eI (1:Int)))]) [] [] U) (bq U aW) U))))
      ·refine bR ?_
       change SC _ _ _ _ _
       have q:=si h3;subst q
       exact aO (sm U (s1 (bi U U bH) (sa U (SO.nil (lf (wq U))))))
    ·have q:=si h3;subst q;have q:_=_:=hv3;subst q;have q:=si h1;subst q
     exact bZ (lf (wq U))
   ·intro _ h0
    obtain ⟨HV,alY,h0⟩:=ob h0
    refine sq (sr (s1 (far (k:=1) U l6 mE U) (s1 (bK U (ak mE AA U U)) (s1 (far (k:=1) U Cg vo U) (s1 (bK U (ak vo KF U U)) (c0 (Ab p0.aV p1.Parts _ alY) wf U U U anQ U (fun _=>rfl) (fun _=>rfl) (s1 (bi U U dx) (sn (cB h0 U (fun h0=>?_) (fun h0=>?_))))))))))
    ·have q:=si h0;subst q
     exact sr (sa U (sn (aM (bM (aC (e':=[(4,.d (eI (7:Int)))]) [] [] U) (bq U aW) U))))
    ·have q:=si h0;subst q
     exact sk (sr (sa U (sn (aM (bM (aC (e':=[(4,.d (eI (0:Int)))]) [] [] U) (bq U aW) U)))))
noncomputable def uz (p0:aL):Option Int:=
 ah (qb p0.Name) fun akF=>
 bif (!akF) then
 some (1:Int)
 else
 ah (α:=Bool)
 (bif (decide ((p0.aV.length:Int) < (1:Int))) then
 some true
 else
 some (decide ((p0.aV.length:Int) > (24:Int))))
 fun ajF=>
 bif ajF then
 some (7:Int)
 else
 fP (Y:=Unit) (E:=Int)
 (ah (α:=Unit⊕Int)
 (loop (Y:=Int) (W:=Unit⊕Int) (fun QT=>
 bif (decide (QT < (p0.aV.length:Int))) then
 fP (Y:=Unit) (E:=Int)
 (ah (bP p0.aV QT) fun VW=>
 ah (oD VW) fun Wq=>
 bif (Wq != (0:Int)) then
 some (Sum.inr Wq)
 else
 ah (α:=Unit⊕Int)
 (loop (Y:=Int) (W:=Unit⊕Int) (fun VK=>
 bif (decide (VK < QT)) then
 ah (bP p0.aV VK) fun afm=>
 ah (bP p0.aV QT) fun afl=>
 bif (afm.Name==afl.Name) then
 some (Sum.inr (Sum.inr (6:Int)))
 else
 some (Sum.inl (bL (VK+(1:Int))))
 else
 some (Sum.inr (Sum.inl ()))) (0:Int))
 (Sum.elim (fun e=>some (Sum.inl e)) (fun e=>some (Sum.inr e))))
 (fun _=>
 some (Sum.inl (bL (QT+(1:Int)))))
 (fun e=>some (Sum.inr (Sum.inr e)))
 else
 some (Sum.inr (Sum.inl ()))) (0:Int))
 (Sum.elim (fun e=>some (Sum.inl e)) (fun e=>some (Sum.inr e))))
 (fun _=>
 ah (α:=Bool)
 (bif (decide ((p0.aR.length:Int) < (1:Int))) then
 some true
 else
 bif (decide ((p0.aR.length:Int) > (4:Int))) then
 some true
 else
 ah (lV (p0.aV.length:Int) p0.aR) fun afA=>
 some (!afA))
 fun afe=>
 bif afe then
 some (1:Int)
 else
 fP (Y:=Unit) (E:=Int)
 (ah (α:=Unit⊕Int)
 (loop (Y:=Int) (W:=Unit⊕Int) (fun VJ=>
 bif (decide (VJ < (p0.aR.length:Int))) then
 ah (bP p0.aR VJ) fun afk=>
 ah (bP p0.aV afk) fun afj=>
 bif afj.Au then
 some (Sum.inr (Sum.inr (1:Int)))
 else
 some (Sum.inl (bL (VJ+(1:Int))))
 else
 some (Sum.inr (Sum.inl ()))) (0:Int))
 (Sum.elim (fun e=>some (Sum.inl e)) (fun e=>some (Sum.inr e))))
 (fun _=>
 ah (α:=Bool)
 (ah (qQ p0.aV) fun afz=>
 bif (decide (afz > (512:Int))) then
 some true
 else
 ah (yG p0.aR) fun aaA=>
 ah (oz p0.aV aaA) fun afy=>
 bif (decide (afy > (128:Int))) then
 some true
 else
 some (decide ((p0.bn.length:Int) > (6:Int))))
 fun afd=>
 bif afd then
 some (7:Int)
 else
 fP (Y:=Unit) (E:=Int)
 (ah (α:=Unit⊕Int)
 (loop (Y:=Int) (W:=Unit⊕Int) (fun y1230=>
 bif (decide (y1230 < (p0.bn.length:Int))) then
 fP (Y:=Unit) (E:=Int)
 (ah (bP p0.bn y1230) fun Bg=>
 ah (qb Bg.Name) fun afx=>
 bif (!afx) then
 some (Sum.inr (1:Int))
 else
 fP (Y:=Unit) (E:=Int)
 (ah (α:=Unit⊕Int)
 (loop (Y:=Int) (W:=Unit⊕Int) (fun VH=>
 bif (decide (VH < y1230)) then
 ah (bP p0.bn VH) fun afi=>
 bif (afi.Name==Bg.Name) then
 some (Sum.inr (Sum.inr (6:Int)))
 else
 some (Sum.inl (bL (VH+(1:Int))))
 else
 some (Sum.inr (Sum.inl ()))) (0:Int))
 (Sum.elim (fun e=>some (Sum.inl e)) (fun e=>some (Sum.inr e))))
 (fun _=>
 ah (uq p0 Bg) fun Wp=>
 bif (Wp != (0:Int)) then
 some (Sum.inr Wp)
 else
 some (Sum.inl ()))
 (fun e=>some (Sum.inr e)))
 (fun _=>
 some (Sum.inl (bL (y1230+(1:Int)))))
 (fun e=>some (Sum.inr (Sum.inr e)))
 else
 some (Sum.inr (Sum.inl ()))) (0:Int))
 (Sum.elim (fun e=>some (Sum.inl e)) (fun e=>some (Sum.inr e))))
 (fun _=>
 some (0:Int))
 (fun e=>some e))
 (fun e=>some e))
 (fun e=>some e)
theorem KW (p0:aL) (r:Int) (h0:uz p0=some r):aT Tryz.prog 9 [.d (bE p0)] [] (.d (eI r)) []:=by
 unfold uz at h0
 refine fn0 [0] Tryz.func9 U U U U U ?_
 obtain ⟨akF,alu,h0⟩:=ob h0
 refine sr (s1 (nN (k:=0) U U U) (sa U (sn (sq (sr (s1 (far (k:=0) U aiU iA U) (s1 (bK U (ak iA qw U U)) (c0 (xV p0.Name _ alu) wf U U U aja U (fun _=>rfl) (fun _=>rfl) (s1 (nt U) ?_)))))))))
 refine sn (cB h0 U (fun h0=>?_) (fun h0=>?_))
 ·have q:=si h0;subst q
  exact sr (sa U (sn (aM (bM (aC (e':=[(2,.d (eI (1:Int)))]) [] [] U) (bq U aW) U))))
 ·refine sk (sq (SC.dw h0 (fun y=>⟨mk 150 [(1,.ref 0 0 0),(24,.d (eB y))],[.box (.d (bE p0))]⟩) ?_ ?_))
  ·intro arH h1
   refine aO (s1 (far (k:=1) U l6 mE U) (s1 (bK U (ak mE AA U U)) (s1 (len U U U (bN ng)) (s1 (bi U U bB) (sm U (sp h1 (fun h1=>?_) (fun h1=>?_)))))))
   ·have q:=si h1;subst q
    exact kw U (kw U (kw U (kw U (s1 (pkt U U) (SO.nil ((wq U)))))))
   ·have q:=si h1;subst q
    exact gw U (far (k:=1) U l6 mE U) (gw U (bK U (ak mE AA U U)) (gw U (len U U U (bN ng)) (gw U (bi U U dx) (s1 (eT U U) (SO.nil ((wq U)))))))
  ·rintro ajF h0
   refine cB h0 U (fun h0=>?_) (fun h0=>?_)
   ·have q:=si h0;subst q
    exact sr (sa U (sn (aM (bM (aC (e':=[(2,.d (eI (7:Int)))]) [] [] U) (bq U aW) U))))
   ·refine sk (SC.seqB h0 (fun y=>⟨mk 150 [(1,.ref 0 0 0)],[.box (.d (bE p0))]⟩) ?_ ?_)
    ·intro arG h1 h0
     obtain ⟨apI,h2,h1⟩:=ob h1
     refine sr (sa U (sn (SC.blk (SC.eH h2 (fun y=>⟨mk 150 [(1,.ref 0 0 0),(3,.d (eI y))],[.box (.d (bE p0))]⟩) (wq U) ?_))))
     intro avb
     rintro QT apc h3 hv3
     refine sq (sr (sm U (s1 (far (k:=1) U l6 mE U) (s1 (bK U (ak mE AA U U)) (s1 (len U U U (bN ng)) (s1 (bi U U bB) (sn (cB h3 U (fun h3=>?_) (fun h3=>?_)))))))))
     ·refine sk (SC.seqB h3 (fun y=>⟨mk 150 [(1,.ref 0 0 0),(3,.d (eI QT))],[.box (.d (bE p0))]⟩) ?_ ?_)
      ·intro apA h4 h3
       obtain ⟨VW,abD,h4⟩:=ob h4;obtain ⟨Wq,aiq,h4⟩:=ob h4
       refine SC.blk (sr (s1 (far (k:=1) U l6 mE U) (s1 (bK U (ak mE AA U U)) (sm U (s1 (kV U U ng qH (aB abD).1 (bI (aB abD).2) U) (s1 (bK (v:=.d (aJ VW)) U (bY qH Hl U)) (c0 (Ad VW _ aiq) wf U U U anR U (fun _=>rfl) (fun _=>rfl) (sa U (sn ?_)))))))))
       refine sq (sr (sm U (s1 (bi U U dA) (sn (cB h4 U (fun h4=>?_) (fun h4=>?_))))))
       ·have q:=si h4;subst q;have q:=si h3;subst q;have q:_=_:=hv3;subst q;have q:=si h1;subst q;have q:=si h0;subst q
        exact sr (sm U (sa U (sn (aM (bM (aC (e':=[(2,.d (eI Wq))]) [] [] U) (bq U aW) U)))))
       ·obtain ⟨apt,h5,h4⟩:=ob h4
        refine sk (sr (sa U (sn (SC.blk (SC.eH h5 (fun y=>⟨mk 150 [(1,.ref 0 0 0),(3,.d (eI QT)),(5,.d (eI y))],[.box (.d (bE p0))]⟩) (wq U) ?_)))))
        intro avc
        rintro VK ao4 h6 hv6
        refine sq (sr (sm U (sm U (s1 (bi U U bB) (sn (cB h6 U (fun h6=>?_) (fun h6=>?_)))))))
        ·obtain ⟨afm,abC,h6⟩:=ob h6;obtain ⟨afl,abB,h6⟩:=ob h6
         refine sk (sq (SC.blk (sd (by kernel_rfl) (t1 aH (far (k:=1) U l6 mE U) U (t1 ([0],false) (bK U (ak mE AA U U)) U (t1 aH (mv U) U (t1 aH (kV U U ng qH (aB abC).1 (bI (aB abC).2) U) U (t1 aH (fap U Qd iA U) U (t1 aH (bK U (bY iA qw U)) U ?_)))))))))
         refine t1 aH (far (k:=1) U l6 mE U) U (t1 ([0],false) (bK U (ak mE AA U U)) U (t1 aH (mv U) U (t1 aH (kV U U ng qH (aB abB).1 (bI (aB abB).2) U) U (t1 aH (fap U Qd iA U) U (t1 aH (bK U (bY iA qw U)) U (t1 aH (bi U U mV) U (tn (by decide +kernel) (cB h6 U (fun h6=>?_) (fun h6=>?_)))))))))
         ·have q:=si h6;subst q;have q:_=_:=hv6;subst q;have q:=si h4;subst q;have q:=si h3;subst q;have q:_=_:=hv3;subst q;have q:=si h1;subst q;have q:=si h0;subst q
          exact sr (sa U (sn (aM (bM (aC (e':=[(2,.d (eI (6:Int)))]) [] [] U) (bq U aW) U))))
         ·refine bR ?_
          change SC _ _ _ _ _
          have q:=si h6;subst q
          exact aO (sm U (s1 (bi U U bH) (sa U (SO.nil (lf (wq U))))))
        ·have q:=si h6;subst q;have q:_=_:=hv6;subst q;have q:=si h4;subst q
         exact bZ (lf (wq U))
      ·intro _ h3
       have q:=si h3;subst q
       exact aO (sm U (s1 (bi U U bH) (sa U (SO.nil (lf (wq U))))))
     ·have q:=si h3;subst q;have q:_=_:=hv3;subst q;have q:=si h1;subst q
      exact bZ (lf (wq U))
    ·intro _ h0
     refine sq (SC.dw h0 (fun y=>⟨mk 150 [(1,.ref 0 0 0),(77,.d (eB y))],[.box (.d (bE p0))]⟩) ?_ ?_)
     ·intro apR h1
      refine aO (s1 (far (k:=2) U wR jf U) (s1 (bK U (ak jf vB U U)) (s1 (len U U U (bN iJ)) (s1 (bi U U bB) (sm U (sp h1 (fun h1=>?_) (fun h1=>?_)))))))
      ·have q:=si h1;subst q
       refine kw U (kw U (kw U (kw U (s1 (pkt U U) (sm U (kw U (kw U (kw U (kw U ?_)))))))))
       exact kw U (kw U (kw U (s1 (pkt U U) (SO.nil ((wq U))))))
      ·refine gw U (far (k:=2) U wR jf U) (gw U (bK U (ak jf vB U U)) (gw U (len U U U (bN iJ)) (gw U (bi U U dx) (s1 (eT U U) (sm U (sp h1 (fun h1=>?_) (fun h1=>?_)))))))
       ·have q:=si h1;subst q
        exact kw U (kw U (kw U (kw U (kw U (kw U (kw U (s1 (pkt U U) (SO.nil ((wq U))))))))))
       ·obtain ⟨afA,aip,h1⟩:=ob h1;have q:=si h1;subst q
        exact gw U (far (k:=1) U l6 mE U) (gw U (bK U (ak mE AA U U)) (gw U (len U U U (bN ng)) (gw U (far (k:=2) U wR jf U) (gw U (bK U (ak jf vB U U)) (c0 (uT (p0.aV.length:Int) p0.aR _ aip) (ww U) U U U ai9 U (fun _=>rfl) (fun _=>rfl) (gw U (nt U) (s1 (eT U U) (SO.nil ((wq U))))))))))
     ·rintro afe h0
      refine cB h0 U (fun h0=>?_) (fun h0=>?_)
      ·have q:=si h0;subst q
       exact sr (sa U (sn (aM (bM (aC (e':=[(2,.d (eI (1:Int)))]) [] [] U) (bq U aW) U))))
      ·refine sk (SC.seqB h0 (fun y=>⟨mk 150 [(1,.ref 0 0 0)],[.box (.d (bE p0))]⟩) ?_ ?_)
       ·intro apQ h1 h0
        obtain ⟨apH,h2,h1⟩:=ob h1
        refine sr (sa U (sn (SC.blk (SC.eH h2 (fun y=>⟨mk 150 [(1,.ref 0 0 0),(6,.d (eI y))],[.box (.d (bE p0))]⟩) (wq U) ?_))))
        intro ava
        rintro VJ apb h3 hv3
        refine sq (sr (sm U (s1 (far (k:=2) U wR jf U) (s1 (bK U (ak jf vB U U)) (s1 (len U U U (bN iJ)) (s1 (bi U U bB) (sn (cB h3 U (fun h3=>?_) (fun h3=>?_)))))))))
        ·obtain ⟨afk,abA,h3⟩:=ob h3;obtain ⟨afj,abz,h3⟩:=ob h3
         refine sk (sq (SC.blk (sd (by kernel_rfl) (t1 aH (far (k:=1) U l6 mE U) U (t1 ([0],false) (bK U (ak mE AA U U)) U (t1 aH (far (k:=2) U wR jf U) U (t1 ([0],false) (bK U (ak jf vB U U)) U (t1 aH (mv U) U (t1 aH (kV U U iJ dH (aB abA).1 (bI (aB abA).2) U) U ?_)))))))))
         refine t1 aH (bK U (bY dH gV U)) U (t1 aH (kV U U ng qH (aB abz).1 (bI (aB abz).2) U) U (t1 aH (fap U UZ nu U) U (t1 aH (bK U (bY nu FB U)) U (tn (by decide +kernel) (cB h3 U (fun h3=>?_) (fun h3=>?_))))))
         ·have q:=si h3;subst q;have q:_=_:=hv3;subst q;have q:=si h1;subst q;have q:=si h0;subst q
          exact sr (sa U (sn (aM (bM (aC (e':=[(2,.d (eI (1:Int)))]) [] [] U) (bq U aW) U))))
         ·refine bR ?_
          change SC _ _ _ _ _
          have q:=si h3;subst q
          exact aO (sm U (s1 (bi U U bH) (sa U (SO.nil (lf (wq U))))))
        ·have q:=si h3;subst q;have q:_=_:=hv3;subst q;have q:=si h1;subst q
         exact bZ (lf (wq U))
       ·intro _ h0
        refine sq (SC.dw h0 (fun y=>⟨mk 150 [(1,.ref 0 0 0),(113,.d (eB y))],[.box (.d (bE p0))]⟩) ?_ ?_)
        ·intro apP h1
         obtain ⟨afz,aio,h1⟩:=ob h1
         refine SC.draws (by kernel_rfl) (t1 aH (far (k:=1) U l6 mE U) U (t1 ([0],false) (bK U (ak mE AA U U)) U (Hg (Jw p0.aV _ aio) wf U U U at1 U (fun _=>rfl) (fun _=>rfl) (t1 aH (bi U U dx) U (t1 aH (mv U) U (tp h1 (fun h1=>?_) (fun h1=>?_)))))))
         ·have q:=si h1;subst q
          refine jw U (jw U (jw U (jw U (jw U (jw U (jw U (t1 aH (pkt U U) U (t1 aH (mv U) U (jw U ?_)))))))))
          refine jw U (jw U (jw U (t1 aH (pkt U U) U (ST.nil (And.intro (by decide +kernel) ?_)))))
          exact (wq U)
         ·obtain ⟨aaA,ain,h1⟩:=ob h1;obtain ⟨afy,ail,h1⟩:=ob h1
          refine u1 aH (ww U) (far (k:=1) U l6 mE U) U (u1 ([0],false) (ww U) (bK U (ak mE AA U U)) U (u1 aH (ww U) (far (k:=2) U wR jf U) U (u1 ([0],false) (ww U) (bK U (ak jf vB U U)) U (Hg (IV p0.aR _ ain) (ww U) U U U anP U (fun _=>rfl) (fun _=>rfl) (Hg (Ab p0.aV aaA _ ail) (ww U) U U U anQ U (fun _=>rfl) (fun _=>rfl) (u1 aH (ww U) (bi U U dx) U (t1 aH (eT U U) U (t1 aH (mv U) U (tp h1 (fun h1=>?_) (fun h1=>?_))))))))))
          ·have q:=si h1;subst q
           refine jw U (jw U (jw U (jw U (t1 aH (pkt U U) U (ST.nil (And.intro (by decide +kernel) ?_))))))
           exact (wq U)
          ·have q:=si h1;subst q
           refine u1 aH (ww U) (far (k:=3) U sV uh U) U (u1 ([0],false) (ww U) (bK U (ak uh Js U U)) U (u1 aH (ww U) (len U U U (bN Fv)) U (u1 aH (ww U) (bi U U dx) U (t1 aH (eT U U) U (ST.nil (And.intro (by decide +kernel) ?_))))))
           exact (wq U)
        ·rintro afd h0
         refine cB h0 U (fun h0=>?_) (fun h0=>?_)
         ·have q:=si h0;subst q
          exact sr (sa U (sn (aM (bM (aC (e':=[(2,.d (eI (7:Int)))]) [] [] U) (bq U aW) U))))
         ·refine sk (SC.seqB h0 (fun y=>⟨mk 150 [],[]⟩) ?_ ?_)
          ·intro apO h1 h0
           obtain ⟨apG,h2,h1⟩:=ob h1
           refine sr (sa U (sn (SC.blk (SC.eH h2 (fun y=>⟨mk 150 [(1,.ref 0 0 0),(7,.d (eI y))],[.box (.d (bE p0))]⟩) (wq U) ?_))))
           intro au8
           rintro y1230 apa h3 hv3
           refine sq (sr (sm U (s1 (far (k:=3) U sV uh U) (s1 (bK U (ak uh Js U U)) (s1 (len U U U (bN Fv)) (s1 (bi U U bB) (sn (cB h3 U (fun h3=>?_) (fun h3=>?_)))))))))
           ·refine sk (SC.seqB h3 (fun y=>⟨mk 150 [(1,.ref 0 0 0),(7,.d (eI y1230))],[.box (.d (bE p0))]⟩) ?_ ?_)
            ·intro apz h4 h3
             obtain ⟨Bg,aby,h4⟩:=ob h4;obtain ⟨afx,aik,h4⟩:=ob h4
             refine SC.blk (sr (s1 (far (k:=3) U sV uh U) (s1 (bK U (ak uh Js U U)) (sm U (s1 (kV U U Fv DZ (aB aby).1 (bI (aB aby).2) U) (s1 (bK (v:=.d (bF Bg)) U (bY DZ XL U)) (s1 (yA (k:=1) aju U) (s0 (jF U U (sB (d':=.d (bF Bg)) DZ U U U U U U U)) (sn ?_)))))))))
             refine sq (sr (s1 (far (k:=0) U U3 iA U) (s1 (bK U (ak iA qw U U)) (c0 (xV Bg.Name _ aik) wf U U U aja U (fun _=>rfl) (fun _=>rfl) (s1 (nt U) (sn (cB h4 U (fun h4=>?_) (fun h4=>?_))))))))
             ·have q:=si h4;subst q;have q:=si h3;subst q;have q:_=_:=hv3;subst q;have q:=si h1;subst q;have q:=si h0;subst q
              exact sr (sa U (sn (aM (bM (aC (e':=[(2,.d (eI (1:Int)))]) [] [] U) (bq U aW) U))))
             ·refine sk (SC.seqB h4 (fun y=>⟨mk 150 [(1,.ref 0 0 0),(7,.d (eI y1230)),(8,.ref 1 0 0)],[.box (.d (bE p0)),.box (.d (bF Bg))]⟩) ?_ ?_)
              ·intro aps h5 h4
               obtain ⟨apk,h6,h5⟩:=ob h5
               refine sr (sa U (sn (SC.blk (SC.eH h6 (fun y=>⟨mk 150 [(1,.ref 0 0 0),(7,.d (eI y1230)),(8,.ref 1 0 0),(9,.d (eI y))],[.box (.d (bE p0)),.box (.d (bF Bg))]⟩) (wq U) ?_))))
               intro au9
               rintro VH ao3 h7 hv7
               refine sq (sr (sm U (sm U (s1 (bi U U bB) (sn (cB h7 U (fun h7=>?_) (fun h7=>?_)))))))
               ·obtain ⟨afi,abx,h7⟩:=ob h7
                refine sk (sq (SC.blk (sd (by kernel_rfl) (t1 aH (far (k:=3) U sV uh U) U (t1 ([0],false) (bK U (ak uh Js U U)) U (t1 aH (mv U) U (t1 aH (kV U U Fv DZ (aB abx).1 (bI (aB abx).2) U) U (t1 aH (fap U U3 iA U) U (t1 aH (bK U (bY iA qw U)) U ?_)))))))))
                refine t1 aH (far (k:=0) U U3 iA U) U (t1 ([1],false) (bK U (ak iA qw U U)) U (t1 aH (bi U U mV) U (tn (by decide +kernel) (cB h7 U (fun h7=>?_) (fun h7=>?_)))))
                ·have q:=si h7;subst q;have q:_=_:=hv7;subst q;have q:=si h5;subst q;have q:=si h4;subst q;have q:=si h3;subst q;have q:_=_:=hv3;subst q;have q:=si h1;subst q;have q:=si h0;subst q
                 exact sr (sa U (sn (aM (bM (aC (e':=[(2,.d (eI (6:Int)))]) [] [] U) (bq U aW) U))))
                ·refine bR ?_
                 change SC _ _ _ _ _
                 have q:=si h7;subst q
                 exact aO (sm U (s1 (bi U U bH) (sa U (SO.nil (lf (wq U))))))
               ·have q:=si h7;subst q;have q:_=_:=hv7;subst q;have q:=si h5;subst q
                exact bZ (lf (wq U))
              ·intro _ h4
               obtain ⟨Wp,aij,h4⟩:=ob h4
               refine sr (s1 (bK (v:=.d (bE p0)) U (ak oU uQ U U)) (s1 (bK (v:=.d (bF Bg)) U (ak DZ XL U U)) (c0 (KQ p0 Bg _ aij) wf U U U at0 U (fun _=>rfl) (fun _=>rfl) (sa U (sn (sr (sm U (s1 (bi U U dA) (sn ?_)))))))))
               refine cB h4 U (fun h4=>?_) (fun h4=>?_)
               ·have q:=si h4;subst q;have q:=si h3;subst q;have q:_=_:=hv3;subst q;have q:=si h1;subst q;have q:=si h0;subst q
                exact sr (sm U (sa U (sn (aM (bM (aC (e':=[(2,.d (eI Wp))]) [] [] U) (bq U aW) U)))))
               ·have q:=si h4;subst q
                exact bR (lf (aC [0] [0] U))
            ·intro _ h3
             have q:=si h3;subst q
             exact aO (sm U (s1 (bi U U bH) (sa U (SO.nil (lf (wq U))))))
           ·have q:=si h3;subst q;have q:_=_:=hv3;subst q;have q:=si h1;subst q
            exact bZ (lf (aC [] [] U))
          ·intro _ h0
           have q:=si h0;subst q
           exact sr (sa U (sn (aM (bM (Wk.refl _) (bq U aW) U))))
end Lv
namespace Lv
open Option renaming bind→ah
open SC renaming region→aO,ret→aM,exit→bZ,skip→bR
open Go Go.Proofs
set_option maxRecDepth 100000
variable [bJ] [wY]
noncomputable def nT (p0:aY) (p1:Int):Option Bool:=
 bif (p0.Kind==(2:Int)) then
 ah (α:=Bool)
 (bif (decide (p0.Col≥(0:Int))) then
 bif (decide (p0.Col < p1)) then
 bif (decide (p0.Op≥(1:Int))) then
 some (decide (p0.Op≤(6:Int)))
 else
 some false
 else
 some false
 else
 some false)
 fun y14=>
 some y14
 else
 bif (p0.Kind==(3:Int)) then
 ah (α:=Bool)
 (bif (decide (p0.Col≥(0:Int))) then
 bif (decide (p0.Col < p1)) then
 bif (p0.Op==(0:Int)) then
 some (gq p0.Val (aj.mk (0:Int) (0:UInt64) ([]:List UInt8)))
 else
 some false
 else
 some false
 else
 some false)
 fun OT=>
 some OT
 else
 ah (α:=Bool)
 (bif (p0.Kind==(1:Int)) then
 some (p0.Kind==(1:Int))
 else
 bif (p0.Kind==(4:Int)) then
 some (p0.Kind==(4:Int))
 else
 bif (p0.Kind==(5:Int)) then
 some (p0.Kind==(5:Int))
 else
 some (p0.Kind==(6:Int)))
 fun y18=>
 bif y18 then
 some (qh p0 (aY.mk p0.Kind (0:Int) (0:Int) (aj.mk (0:Int) (0:UInt64) ([]:List UInt8))))
 else
 some false
theorem FV (p0:aY) (p1:Int) (r:Bool) (h0:nT p0 p1=some r):aT Tryz.prog 108 [.d (bg p0),.d (eI p1)] [] (.d (eB r)) []:=by
 unfold nT at h0
 refine fn0 [0,1] Tryz.func108 U U U U U ?_
 refine sr (s1 (nN (k:=0) U U U) (sa U (sn (sq (sr (s1 (far (k:=0) U LU dH U) (s1 (bK U (ak dH gV U U)) (sn (SC.blk ?_)))))))))
 refine sr (s1 (bi U U bD) (sa U (sn (cB h0 U (fun h0=>?_) (fun h0=>?_)))))
 ·refine SC.dw h0 (fun y=>⟨mk 60 [(4,.d (eB y))],[]⟩) ?_ ?_
  ·intro au0 h1
   refine aO (s1 (far (k:=1) U EC dH U) (s1 (bK U (ak dH gV U U)) (s1 (bi U U fU) (sm U (sp h1 (fun h1=>?_) (fun h1=>?_))))))
   ·refine gw U (far (k:=1) U EC dH U) (gw U (bK U (ak dH gV U U)) (gw U (mv U) (gw U (bi U U bB) (s1 (pkt U U) (sm U (sp h1 (fun h1=>?_) (fun h1=>?_)))))))
    ·refine gw U (far (k:=2) U Qe dH U) (gw U (bK U (ak dH gV U U)) (gw U (bi U U fU) (s1 (pkt U U) (sm U (sp h1 (fun h1=>?_) (fun h1=>?_))))))
     ·have q:=si h1;subst q
      exact gw U (far (k:=2) U Qe dH U) (gw U (bK U (ak dH gV U U)) (gw U (bi U U qA) (s1 (pkt U U) (sa U (SO.nil ((aC [] [] U)))))))
     ·have q:=si h1;subst q
      exact kw U (kw U (kw U (s1 (eT U U) (sa U (SO.nil ((aC [] [] U)))))))
    ·have q:=si h1;subst q
     refine kw U (kw U (kw U (s1 (eT U U) (sm U (kw U (kw U (kw U (s1 (eT U U) (sa U ?_)))))))))
     exact SO.nil ((aC [] [] U))
   ·have q:=si h1;subst q
    refine kw U (kw U (kw U (kw U (s1 (eT U U) (sm U (kw U (kw U (kw U (s1 (eT U U) ?_)))))))))
    exact sm U (kw U (kw U (kw U (s1 (eT U U) (sa U (SO.nil ((aC [] [] U))))))))
  ·rintro y14 h0
   have q:=si h0;subst q
   exact aM (bM (Wk.refl _) (bq U aW) U)
 ·refine sr (s1 (bi U U bD) (sa U (sn (cB h0 U (fun h0=>?_) (fun h0=>?_)))))
  ·refine SC.dw h0 (fun y=>⟨mk 60 [(4,.d (eB y))],[]⟩) ?_ ?_
   ·intro NQ h1
    refine aO (s1 (far (k:=1) U EC dH U) (s1 (bK U (ak dH gV U U)) (s1 (bi U U fU) (sm U (sp h1 (fun h1=>?_) (fun h1=>?_))))))
    ·refine gw U (far (k:=1) U EC dH U) (gw U (bK U (ak dH gV U U)) (gw U (mv U) (gw U (bi U U bB) (s1 (pkt U U) (sm U (sp h1 (fun h1=>?_) (fun h1=>?_)))))))
     ·refine gw U (far (k:=2) U Qe dH U) (gw U (bK U (ak dH gV U U)) (gw U (bi U U bD) (s1 (pkt U U) (sm U (sp h1 (fun h1=>?_) (fun h1=>?_))))))
      ·have q:=si h1;subst q
       exact gw U (far (k:=3) U LQ gK U) (gw U (bK (v:=.d (au p0.Val)) U (ak gK ny U U)) (gw U (vg U (acs )) (gw U (bi (v:=.d (eB (gq p0.Val (aj.mk (0:Int) (0:UInt64) ([]:List UInt8))))) U U (fun X Y=>xK X Y p0.Val (aj.mk (0:Int) (0:UInt64) ([]:List UInt8)))) (s1 (pkt U U) (sa U (SO.nil ((aC [] [] U))))))))
      ·have q:=si h1;subst q
       exact kw U (kw U (kw U (kw U (s1 (eT U U) (sa U (SO.nil ((aC [] [] U))))))))
     ·have q:=si h1;subst q
      refine kw U (kw U (kw U (s1 (eT U U) (sm U (kw U (kw U (kw U (kw U (s1 (eT U U) ?_)))))))))
      exact sa U (SO.nil ((aC [] [] U)))
    ·have q:=si h1;subst q
     refine kw U (kw U (kw U (kw U (s1 (eT U U) (sm U (kw U (kw U (kw U (s1 (eT U U) ?_)))))))))
     exact sm U (kw U (kw U (kw U (kw U (s1 (eT U U) (sa U (SO.nil ((aC [] [] U)))))))))
   ·rintro OT h0
    have q:=si h0;subst q
    exact aM (bM (Wk.refl _) (bq U aW) U)
  ·refine SC.dw h0 (fun y=>⟨mk 60 [(2,.ref 0 0 0),(50,.d (eB y))],[.box (.d (bg p0))]⟩) ?_ ?_
   ·intro auX h1
    refine sr (s1 (bi U U bD) (sa U (sn (cB h1 U (fun h1=>?_) (fun h1=>?_)))))
    ·have q:=si h1;subst q
     exact bR ((wq U))
    ·refine sr (s1 (bi U U bD) (sa U (sn (cB h1 U (fun h1=>?_) (fun h1=>?_)))))
     ·have q:=si h1;subst q
      exact bR ((wq U))
     ·refine sr (s1 (bi U U bD) (sa U (sn (cB h1 U (fun h1=>?_) (fun h1=>?_)))))
      ·have q:=si h1;subst q
       exact bR ((wq U))
      ·have q:=si h1;subst q
       exact aO (s1 (bi U U bD) (sa U (SO.nil ((wq U)))))
   ·rintro y18 h0
    refine cB h0 U (fun h0=>?_) (fun h0=>?_)
    ·have q:=si h0;subst q
     exact sr (s1 (bK (v:=.d (bg p0)) U (ak Bj Ho U U)) (s1 (far (k:=0) U LU dH U) (s1 (bK U (ak dH gV U U)) (s1 (vg U (acr p0.Kind)) (s1 (bi (v:=.d (eB (qh p0 (aY.mk p0.Kind (0:Int) (0:Int) (aj.mk (0:Int) (0:UInt64) ([]:List UInt8)))))) U U (fun X Y=>Gw X Y p0 (aY.mk p0.Kind (0:Int) (0:Int) (aj.mk (0:Int) (0:UInt64) ([]:List UInt8))))) (sa U (sn (aM (bM (wc (e':=[(4,.d (eB (qh p0 (aY.mk p0.Kind (0:Int) (0:Int) (aj.mk (0:Int) (0:UInt64) ([]:List UInt8))))))]) [] [] (by kernel_rfl) U (by kernel_rfl)) (bq U aW) U)))))))))
    ·refine bR ?_
     change SC _ _ _ _ _
     have q:=si h0;subst q
     exact sr (sa U (sn (aM (bM (aC (e':=[(4,.d (eB false))]) [] [] U) (bq U aW) U))))
noncomputable def wL (p0:List aA) (p1:List aY):Option Int:=
 bif (decide ((p1.length:Int) > (200:Int))) then
 some (7:Int)
 else
 fP (Y:=(List Int)) (E:=Int)
 (ah (α:=((List Int))⊕Int)
 (loop (Y:=(List Int)×Int) (W:=((List Int))⊕Int) (fun (iL,E9)=>
 bif (decide (E9 < (p1.length:Int))) then
 fP (Y:=(List Int)) (E:=Int)
 (ah (bP p1 E9) fun ug=>
 ah (jq ug) fun qX=>
 ah (α:=Bool)
 (ah (nT ug (p0.length:Int)) fun afw=>
 bif (!afw) then
 some true
 else
 some (decide ((bL ((iL.length:Int) - qX)) < (0:Int))))
 fun afa=>
 bif afa then
 some (Sum.inr (1:Int))
 else
 ah (α:=Bool)
 (bif (ug.Kind==(2:Int)) then
 ah (lG ug.Val) fun Wo=>
 bif (!Wo) then
 some true
 else
 bif (ug.Val.Kind==(0:Int)) then
 some true
 else
 ah (bP p0 ug.Col) fun VU=>
 some (ug.Val.Kind != VU.Kind)
 else
 some false)
 fun ae9=>
 bif ae9 then
 some (Sum.inr (8:Int))
 else
 ah (α:=Int)
 (bif decide (0≤(bL ((iL.length:Int) - qX))∧(bL ((iL.length:Int) - qX))≤(iL.length:Int)) then
 ah (α:=Int)
 (loop (Y:=Int×Int) (W:=Int) (fun (Q8,VG)=>
 bif (decide (VG < ((iL.length - (bL ((iL.length:Int) - qX)).toNat:Nat):Int))) then
 ah (mP iL (0+(bL ((iL.length:Int) - qX)).toNat) (iL.length - (bL ((iL.length:Int) - qX)).toNat) VG) fun VT=>
 some (Sum.inl ((max Q8 VT),(bL (VG+(1:Int)))))
 else
 some (Sum.inr Q8)) ((0:Int),(0:Int)))
 (fun e=>some e)
 else none)
 fun NK=>
 bif decide (0≤(bL ((iL.length:Int) - qX))∧(bL ((iL.length:Int) - qX))≤(iL.length:Int)) then
 bif decide (0+((bL ((iL.length:Int) - qX)).toNat)≤iL.length) then
 bif decide ((((bL ((iL.length:Int) - qX)).toNat)+[(bL (NK+(1:Int)))].length)*8≤room) then
 some (Sum.inl (List.take ((bL ((iL.length:Int) - qX)).toNat) (List.drop 0 iL)++[(bL (NK+(1:Int)))]))
 else none
 else none
 else none)
 (fun afb=>
 some (Sum.inl (afb,(bL (E9+(1:Int))))))
 (fun e=>some (Sum.inr (Sum.inr e)))
 else
 some (Sum.inr (Sum.inl iL))) (([]:List Int),(0:Int)))
 (Sum.elim (fun e=>some (Sum.inl e)) (fun e=>some (Sum.inr e))))
 (fun y1228=>
 bif ((y1228.length:Int) != (1:Int)) then
 some (1:Int)
 else
 ah (bP y1228 (0:Int)) fun afh=>
 bif (decide (afh > (24:Int))) then
 some (7:Int)
 else
 some (0:Int))
 (fun e=>some e)
theorem Nn (p0:List aA) (p1:List aY) (r:Int) (h0:wL p0 p1=some r):aT Tryz.prog 62 [.d ((eL 7 aJ) p0),.d ((eL 6 bg) p1)] [] (.d (eI r)) []:=by
 unfold wL at h0
 refine fn0 [0,1] Tryz.func62 U U U U U ?_
 refine sr (sa U (sn (sq (sr (sm U (s1 (len U U U (bN M5)) (s1 (bi U U dx) (sn (cB h0 U (fun h0=>?_) (fun h0=>?_))))))))))
 ·have q:=si h0;subst q
  exact sr (sa U (sn (aM (bM (Wk.refl _) (bq U aW) U))))
 ·refine sk (sr (s1 (jA (v:=.d .dB) U) (sn (SC.seqB h0 (fun y=>⟨mk 91 [(5,.slc 0 1 0 y.length none)],[.row 1 (List.map eI y) true]⟩) ?_ ?_))))
  ·intro apN h1 h0
   obtain ⟨apF,h2,h1⟩:=ob h1
   refine sr (sm U (s1 (len U U U (bN M5)) (sm U (sn (SC.blk (SC.eH h2 (fun y=>⟨mk 91 [(0,.d ((eL 7 aJ) p0)),(5,.slc 0 1 0 y.1.length none),(15,.d ((eL 6 bg) p1)),(16,.d (eI (p1.length:Int))),(17,.d (eI y.2))],[.row 1 (List.map eI y.1) true]⟩) (Wk.trans (Wk.nI (σ':=[.row 1 (List.map eI ([]:List Int)) true]) (.row 1 [] true) (fun _ hh=>by cases hh) U) (Wk.trans (Wk.env (e':=[(0,.d ((eL 7 aJ) p0)),(5,.slc 0 1 0 (([]:List Int).length) none),(15,.d ((eL 6 bg) p1)),(16,.d (eI (p1.length:Int))),(17,.d (eI (0:Int)))]) (EW.cons (AW.refl _) (EW.cons (AW.mH _ _ _) (EW.cons (AW.refl _) (EW.cons (AW.refl _) (EW.cons (AW.refl _) EW.nil)))))) (wq U))) ?_))))))
   intro au6
   rintro ⟨iL,E9⟩ ao9 h3 hv3
   refine sr (s1 (bi U U bB) (sn (sq (cB h3 U (fun h3=>?_) (fun h3=>?_)))))
   ·refine sk (SC.seqB h3 (fun y=>⟨mk 91 [(0,.d ((eL 7 aJ) p0)),(5,.slc 0 1 0 y.length none),(15,.d ((eL 6 bg) p1)),(16,.d (eI (p1.length:Int))),(17,.d (eI E9))],[.row 1 (List.map eI y) true]⟩) ?_ ?_)
    ·intro apy h4 h3
     obtain ⟨ug,abw,h4⟩:=ob h4;obtain ⟨qX,aif,h4⟩:=ob h4
     refine SC.blk (sr (s1 (kV U U M5 Bj (aB abw).1 (bI (aB abw).2) U) (s1 (bK (v:=.d (bg ug)) U (bY Bj Ho U)) (s1 (yA (k:=1) ajt U) (s0 (jF U U (sB (d':=.d (bg ug)) Bj U U U U U U U)) (sn (sr (sm U (s1 (len U U U (gN iJ)) ?_)))))))))
     refine s1 (bK (v:=.d (bg ug)) U (ak Bj Ho U U)) (c0 (wK ug _ aif) wf U U U anH U (fun _=>rfl) (fun _=>rfl) (s1 (bi U U gX) (sa U (sn (sq (SC.dw h4 (fun y=>⟨mk 91 [(0,.d ((eL 7 aJ) p0)),(5,.slc 0 1 0 iL.length none),(7,.ref 1 0 0),(8,.d (eI (bL ((iL.length:Int) - qX)))),(15,.d ((eL 6 bg) p1)),(16,.d (eI (p1.length:Int))),(17,.d (eI E9)),(34,.d (eB y))],[.row 1 (List.map eI iL) true,.box (.d (bg ug))]⟩) ?_ ?_))))))
     ·intro apr h5
      obtain ⟨afw,aie,h5⟩:=ob h5
      refine aO (s1 (bK (v:=.d (bg ug)) U (ak Bj Ho U U)) (sm U (s1 (len U U U (bN ng)) (c0 (FV ug (p0.length:Int) _ aie) wf U U U aoK U (fun _=>rfl) (fun _=>rfl) (s1 (nt U) (sm U (sp h5 (fun h5=>?_) (fun h5=>?_))))))))
      ·have q:=si h5;subst q
       exact kw U (kw U (s1 (pkt U U) (SO.nil ((wq U)))))
      ·have q:=si h5;subst q
       exact gw U (mv U) (gw U (bi U U bB) (s1 (eT U U) (SO.nil ((wq U)))))
     ·rintro afa h4
      refine cB h4 U (fun h4=>?_) (fun h4=>?_)
      ·have q:=si h4;subst q;have q:=si h3;subst q;have q:_=_:=hv3;subst q;have q:=si h1;subst q;have q:=si h0;subst q
       exact sr (sa U (sn (aM (bM (aC (e':=[(4,.d (eI (1:Int)))]) [] [] U) (bq U aW) U))))
      ·refine sk (sq (SC.dw h4 (fun y=>⟨mk 91 [(0,.d ((eL 7 aJ) p0)),(5,.slc 0 1 0 iL.length none),(8,.d (eI (bL ((iL.length:Int) - qX)))),(15,.d ((eL 6 bg) p1)),(16,.d (eI (p1.length:Int))),(17,.d (eI E9)),(61,.d (eB y))],[.row 1 (List.map eI iL) true]⟩) ?_ ?_))
       ·intro apq h5
        refine SC.draws (by kernel_rfl) (t1 aH (far (k:=0) U LU dH U) U (t1 ([1],false) (bK U (ak dH gV U U)) U (t1 aH (bi U U bD) U (t1 aH (mv U) U (tp h5 (fun h5=>?_) (fun h5=>?_))))))
        ·obtain ⟨Wo,aic,h5⟩:=ob h5
         refine u1 aH (ww U) (far (k:=3) U LQ gK U) U (u1 ([1],false) (ww U) (bK (v:=.d (au ug.Val)) U (ak gK ny U U)) U (Hg (vS ug.Val _ aic) (ww U) U U U ach U (fun _=>rfl) (fun _=>rfl) (u1 aH (ww U) (nt U) U (u1 aH (ww U) (mv U) U (tp h5 (fun h5=>?_) (fun h5=>?_))))))
         ·have q:=si h5;subst q
          refine jw U (jw U (jw U (jw U (u1 aH (ww U) (pkt U U) U (u1 aH (ww U) (mv U) U (jw U (jw U (jw U (jw U ?_)))))))))
          refine jw U (jw U (jw U (jw U (jw U (jw U (u1 aH (ww U) (pkt U U) U (t1 aH (pkt U U) U (ST.nil (And.intro (by decide +kernel) ?_)))))))))
          exact (aC [0] [0] U)
         ·refine u1 aH (ww U) (far (k:=3) U LQ gK U) U (u1 aH (ww U) (far (k:=3) U iG dH U) U (u1 ([1],false) (ww U) (bK U (ak dH gV U U)) U (u1 aH (ww U) (bi U U bD) U (u1 aH (ww U) (eT U U) U (u1 aH (ww U) (mv U) U (tp h5 (fun h5=>?_) (fun h5=>?_)))))))
          ·have q:=si h5;subst q
           refine jw U (jw U (jw U (jw U (jw U (jw U (jw U (jw U (jw U (jw U ?_)))))))))
           refine u1 aH (ww U) (pkt U U) U (t1 aH (pkt U U) U (ST.nil (And.intro (by decide +kernel) ?_)))
           exact (aC [0] [0] U)
          ·obtain ⟨VU,abv,h5⟩:=ob h5;have q:=si h5;subst q
           refine u1 aH (ww U) (far (k:=3) U LQ gK U) U (u1 aH (ww U) (far (k:=3) U iG dH U) U (u1 ([1],false) (ww U) (bK U (ak dH gV U U)) U (u1 aH (ww U) (mv U) U (u1 aH (ww U) (far (k:=1) U EC dH U) U (u1 ([1],false) (ww U) (bK U (ak dH gV U U)) U (u1 aH (ww U) (kV U U ng qH (aB abv).1 (bI (aB abv).2) U) U (u1 aH (ww U) (fap U oZ dH U) U (u1 aH (ww U) (bK U (bY dH gV U)) U (u1 aH (ww U) (bi U U dA) U ?_)))))))))
           refine u1 aH (ww U) (eT U U) U (t1 aH (pkt U U) U (ST.nil (And.intro (by decide +kernel) ?_)))
           exact (aC [0] [0] U)
        ·have q:=si h5;subst q
         refine jw U (jw U (jw U (jw U (jw U (jw U (jw U (jw U (jw U (jw U ?_)))))))))
         refine jw U (jw U (jw U (jw U (jw U (jw U (jw U (jw U (jw U (jw U ?_)))))))))
         refine jw U (jw U (t1 aH (eT U U) U (ST.nil (And.intro (by decide +kernel) ?_))))
         exact (aC [0] [0] U)
       ·rintro ae9 h4
        refine cB h4 U (fun h4=>?_) (fun h4=>?_)
        ·have q:=si h4;subst q;have q:=si h3;subst q;have q:_=_:=hv3;subst q;have q:=si h1;subst q;have q:=si h0;subst q
         exact sr (sa U (sn (aM (bM (aC (e':=[(4,.d (eI (8:Int)))]) [] [] U) (bq U aW) U))))
        ·refine sk (sr (sa U (sn (SC.dw h4 (fun y=>⟨mk 91 [(0,.d ((eL 7 aJ) p0)),(5,.slc 0 1 0 iL.length none),(8,.d (eI (bL ((iL.length:Int) - qX)))),(9,.d (eI y)),(15,.d ((eL 6 bg) p1)),(16,.d (eI (p1.length:Int))),(17,.d (eI E9))],[.row 1 (List.map eI iL) true]⟩) ?_ ?_))))
         ·intro apo h5
          obtain ⟨aiH,h5⟩:=gd h5;obtain ⟨apj,h6,h5⟩:=ob h5
          refine sr (sm U (sm U (s1 (NT U U U U (mR iJ dH aiH)) (s1 (len U U U (gN iJ)) (sm U (sn (SC.blk (SC.eH h6 (fun y=>⟨mk 91 [(0,.d ((eL 7 aJ) p0)),(5,.slc 0 1 0 iL.length none),(8,.d (eI (bL ((iL.length:Int) - qX)))),(9,.d (eI y.1)),(15,.d ((eL 6 bg) p1)),(16,.d (eI (p1.length:Int))),(17,.d (eI E9)),(64,.slc 0 1 (0+(bL ((iL.length:Int) - qX)).toNat) (iL.length - (bL ((iL.length:Int) - qX)).toNat) none),(65,.d (eI ((iL.length - (bL ((iL.length:Int) - qX)).toNat:Nat):Int))),(66,.d (eI y.2))],[.row 1 (List.map eI iL) true]⟩) (wq U) ?_))))))))
          intro au7
          rintro ⟨Q8,VG⟩ ao2 h7 hv7
          refine sr (s1 (bi U U bB) (sn (sq (cB h7 U (fun h7=>?_) (fun h7=>?_)))))
          ·obtain ⟨VT,abu,h7⟩:=ob h7
           refine sk (sq (SC.blk (sr (s1 (SA U U iJ dH (dI abu).1) (s1 (bK U (jD dH gV U (bI (dI abu).2) U)) (sa U (sn (aO (sm U ?_)))))))))
           refine sm U (s1 (mxo (v:=.d (eI (max Q8 VT))) U U U (Vb Rc Q8 VT)) (sa U (SO.nil ?_)))
           change SC _ _ _ _ _
           have q:=si h7;subst q
           exact aO (s1 (bi U U bH) (sm U (SO.nil (lf (wq U)))))
          ·have q:=si h7;subst q;have q:_=_:=hv7;subst q;have q:=si h5;subst q
           exact bZ ((wq U))
         ·rintro NK h4
          obtain ⟨aiG,h4⟩:=gd h4;obtain ⟨aiE,h4⟩:=gd h4;obtain ⟨aiF,h4⟩:=gd h4;have q:=si h4;subst q
          refine aO (sm U (sm U (s1 (NT U U U U (yF iJ dH aiG)) (sm U (s1 (bi U U bH) (s1 (rX (k:=1) (ds:=List.map eI [(bL (NK+(1:Int)))]) (off:=0) (l':=[(bL (NK+(1:Int)))].length) U iJ TV U U (by rfl) U U U) (s1 (app U U U U YN (aS (f:=eI) (xs:=iL) (k:=2) iJ TV U aiE (dU (xs:=[(bL (NK+(1:Int)))]) U) aiF U)) (sa U (SO.nil ?_)))))))))
          exact lf (aC [2] [2] U)
    ·rintro afb h3
     have q:=si h3;subst q
     exact aO (s1 (bi U U bH) (sm U (SO.nil (lf (wq U)))))
   ·have q:=si h3;subst q;have q:_=_:=hv3;subst q;have q:=si h1;subst q
    exact bZ (lf (wq U))
  ·rintro y1228 h0
   refine sq (SC.blk (sr (sm U (s1 (len U U U (gN iJ)) (s1 (bi U U dA) (sa U (sn (cB h0 U (fun h0=>?_) (fun h0=>?_)))))))))
   ·have q:=si h0;subst q
    exact sr (sa U (sn (aM (bM (aC (e':=[(4,.d (eI (1:Int)))]) [] [] U) (bq U aW) U))))
   ·obtain ⟨afh,abt,h0⟩:=ob h0
    refine sr (sm U (s1 (Yz U U iJ dH (pO abt)) (s1 (bK U (jD dH gV U (bI (aB abt).2) U)) (s1 (bi U U dx) (sa U (sn (cB h0 U (fun h0=>?_) (fun h0=>?_))))))))
    ·have q:=si h0;subst q
     exact sr (sa U (sn (aM (bM (aC (e':=[(4,.d (eI (7:Int)))]) [] [] U) (bq U aW) U))))
    ·refine bR ?_
     change SC _ _ _ _ _
     have q:=si h0;subst q
     exact sr (sa U (sn (aM (bM (aC (e':=[(4,.d (eI (0:Int)))]) [] [] U) (bq U aW) U))))
noncomputable def kS (p0:bG):Option ((List Int)):=
 ah (α:=(List Int))
 (ah (α:=(List Int))
 (loop (Y:=(List Int)×Int) (W:=(List Int)) (fun (xO,AX)=>
 bif (decide (AX < (p0.Order.length:Int))) then
 ah (bP p0.Order AX) fun v83=>
 bif decide ((xO.length+[v83.Col].length)*8≤room) then
 some (Sum.inl ((xO++[v83.Col]),(bL (AX+(1:Int)))))
 else none
 else
 some (Sum.inr xO)) (([]:List Int),(0:Int)))
 (fun e=>some e))
 fun IG=>
 some IG
theorem C9 (p0:bG) (r:(List Int)) (h0:kS p0=some r):aT Tryz.prog 64 [.d (dQ p0)] [] (.slc 0 1 0 r.length none) [.row 1 (List.map eI r) true]:=by
 unfold kS at h0
 refine fn0 [0] Tryz.func64 U U U U U ?_
 refine sr (s1 (nN (k:=0) U U U) (s1 (jA (v:=.d .dB) U) (sn (sr (s1 (jA (v:=.d .dB) U) (sn (SC.dw h0 (fun y=>⟨mk 20 [(3,.slc 0 1 0 y.length none)],[.row 1 (List.map eI y) true]⟩) ?_ ?_)))))))
 ·intro V7 h1
  obtain ⟨V5,h2,h1⟩:=ob h1
  refine sr (s1 (far (k:=2) U U5 vo U) (s1 (bK U (ak vo KF U U)) (s1 (len U U U (bN xg)) (sm U (sn (SC.blk (SC.eH h2 (fun y=>⟨mk 20 [(3,.slc 0 1 0 y.1.length none),(7,.d ((eL 2 aK) p0.Order)),(8,.d (eI (p0.Order.length:Int))),(9,.d (eI y.2))],[.row 1 (List.map eI y.1) true]⟩) (Wk.trans (Wk.nI (σ':=[.box (.d (dQ p0)),.row 1 (List.map eI ([]:List Int)) true]) (.row 1 [] true) (fun _ hh=>by cases hh) U) (Wk.trans (Wk.env (e':=[(3,.slc 1 1 0 (([]:List Int).length) none),(7,.d ((eL 2 aK) p0.Order)),(8,.d (eI (p0.Order.length:Int))),(9,.d (eI (0:Int)))]) (EW.cons (AW.mH _ _ _) (EW.cons (AW.refl _) (EW.cons (AW.refl _) (EW.cons (AW.refl _) EW.nil))))) (aC [1] [1] U))) ?_)))))))
  intro n85
  rintro ⟨xO,AX⟩ VL h3 hv3
  refine sr (s1 (bi U U bB) (sn (sq (cB h3 U (fun h3=>?_) (fun h3=>?_)))))
  ·obtain ⟨v83,Gi,h3⟩:=ob h3;obtain ⟨UQ,h3⟩:=gd h3
   refine sk (sq (SC.blk (sr (s1 (kV U U xg Hf (aB Gi).1 (bI (aB Gi).2) U) (s1 (bK (v:=.d (aK v83)) U (bY Hf ahh U)) (s1 (yA (k:=1) agS U) (s0 (jF U U (sB (d':=.d (aK v83)) Hf U U U U U U U)) (sn (aO ?_)))))))))
   refine sm U (s1 (far (k:=0) U Ce dH U) (s1 (bK U (ak dH gV U U)) (s1 (rX (k:=2) (ds:=List.map eI [v83.Col]) (off:=0) (l':=[v83.Col].length) U iJ TV U U (by rfl) U U U) (s1 (app U U U U YN (aF (f:=eI) (xs:=xO) (k:=3) U iJ TV U (dU (xs:=[v83.Col]) U) UQ U)) (sa U (SO.nil ?_))))))
   change SC _ _ _ _ _
   have q:=si h3;subst q
   exact aO (s1 (bi U U bH) (sm U (SO.nil (lf (aC [3] [3] U)))))
  ·have q:=si h3;subst q;have q:_=_:=hv3;subst q;have q:=si h1;subst q
   exact bZ ((wq U))
 ·rintro IG h0
  have q:=si h0;subst q
  exact sr (sm U (sa U (sn (aM (bM (Wk.refl _) (bq U aW) U)))))
noncomputable def vE (p0:Int) (p1:aL):Option Bool:=
 ah (α:=Bool)
 (bif (decide (p0 < (0:Int))) then
 some true
 else
 some (decide (p0≥(p1.aV.length:Int))))
 fun y6=>
 some y6
theorem Af (p0:Int) (p1:aL) (r:Bool) (h0:vE p0 p1=some r):aT Tryz.prog 63 [.d (eI p0),.ref 0 0 0] [.box (.d (bE p1))] (.d (eB r)) [.box (.d (bE p1))]:=by
 unfold vE at h0
 refine fn0 [0,1] Tryz.func63 U U U U U ?_
 refine sr (sa U (sn (SC.dw h0 (fun y=>⟨mk 13 [(3,.d (eB y))],[.box (.d (bE p1))]⟩) ?_ ?_)))
 ·intro aaj h1
  refine aO (sm U (s1 (bi U U bB) (sm U (sp h1 (fun h1=>?_) (fun h1=>?_)))))
  ·have q:=si h1;subst q
   exact kw U (kw U (kw U (kw U (kw U (s1 (pkt U U) (sa U (SO.nil ((wq U)))))))))
  ·have q:=si h1;subst q
   exact gw U (mv U) (gw U (far (k:=1) U l6 mE U) (gw U (bK U (ak mE AA U U)) (gw U (len U U U (bN ng)) (gw U (bi U U fU) (s1 (eT U U) (sa U (SO.nil ((wq U)))))))))
 ·rintro y6 h0
  have q:=si h0;subst q
  exact aM (bM (Wk.refl _) (bq U aW) U)
noncomputable def fI (p0:List Int) (p1:aL):Option Int:=
 fP (Y:=Unit) (E:=Int)
 (ah (α:=Unit⊕Int)
 (loop (Y:=Int) (W:=Unit⊕Int) (fun GR=>
 bif (decide (GR < (p0.length:Int))) then
 ah (bP p0 GR) fun v85=>
 ah (vE v85 p1) fun XY=>
 bif XY then
 some (Sum.inr (Sum.inr GR))
 else
 some (Sum.inl (bL (GR+(1:Int))))
 else
 some (Sum.inr (Sum.inl ()))) (0:Int))
 (Sum.elim (fun e=>some (Sum.inl e)) (fun e=>some (Sum.inr e))))
 (fun _=>
 some (-1:Int))
 (fun e=>some e)
theorem uj (p0:List Int) (p1:aL) (r:Int) (h0:fI p0 p1=some r):aT Tryz.prog 110 [.d ((eL 1 eI) p0),.fn (.func 63) [] [.ref 0 0 0]] [.box (.d (bE p1))] (.d (eI r)) [.box (.d (bE p1))]:=by
 unfold fI at h0
 refine fn0 [0,1] Tryz.func110 U U U U U ?_
 refine sr (sa U (sn (SC.seqB h0 (fun y=>⟨mk 19 [],[.box (.d (bE p1))]⟩) ?_ ?_)))
 ·intro V6 h1 h0
  obtain ⟨aai,h2,h1⟩:=ob h1
  refine sr (sm U (s1 (len U U U (bN iJ)) (sm U (sn (SC.blk (SC.eH h2 (fun y=>⟨mk 19 [(0,.d ((eL 1 eI) p0)),(1,.fn (.func 63) [] [.ref 0 0 0]),(7,.d (eI (p0.length:Int))),(8,.d (eI y))],[.box (.d (bE p1))]⟩) (wq U) ?_))))))
  intro n88
  rintro GR ZN h3 hv3
  refine sr (s1 (bi U U bB) (sn (sq (cB h3 U (fun h3=>?_) (fun h3=>?_)))))
  ·obtain ⟨v85,LK,h3⟩:=ob h3;obtain ⟨XY,UM,h3⟩:=ob h3
   refine sk (sq (SC.blk (sr (sm U (sa U (sn (sr (sm U (sm U ?_)))))))))
   refine sm U (s1 (kV U U iJ dH (aB LK).1 (bI (aB LK).2) U) (s1 (bK U (bY dH gV U)) (cq [0] [] (Af v85 p1 _ UM) wf U U U anJ U U U U U U U U (sn (cB h3 U (fun h3=>?_) (fun h3=>?_))))))
   ·have q:=si h3;subst q;have q:_=_:=hv3;subst q;have q:=si h1;subst q;have q:=si h0;subst q
    exact sr (sm U (sa U (sn (aM (bM (Wk.refl _) (bq U aW) U)))))
   ·refine bR ?_
    change SC _ _ _ _ _
    have q:=si h3;subst q
    exact aO (s1 (bi U U bH) (sm U (SO.nil (lf (wq U)))))
  ·have q:=si h3;subst q;have q:_=_:=hv3;subst q;have q:=si h1;subst q
   exact bZ (lf (wq U))
 ·intro _ h0
  have q:=si h0;subst q
  exact sr (sa U (sn (aM (bM (Wk.refl _) (bq U aW) U))))
noncomputable def dM (p0:List Int) (p1:aL):Option Bool:=
 ah (fI p0 p1) fun r7=>
 some (decide (r7≥(0:Int)))
theorem qO (p0:List Int) (p1:aL) (r:Bool) (h0:dM p0 p1=some r):aT Tryz.prog 65 [.d ((eL 1 eI) p0),.fn (.func 63) [] [.ref 0 0 0]] [.box (.d (bE p1))] (.d (eB r)) [.box (.d (bE p1))]:=by
 unfold dM at h0
 refine fn0 [0,1] Tryz.func65 U U U U U ?_
 obtain ⟨r7,JQ,h0⟩:=ob h0;have q:=si h0;subst q
 refine sr (sa U (sn (sr (sm U (sm U (cq [0] [] (uj p0 p1 _ JQ) wf U U U agO U U U U U U U U (s1 (bi U U fU) (sa U (sn ?_)))))))))
 exact aM (bM (Wk.refl _) (bq U aW) U)
theorem rZ (p0:List Int) (p1:aL) (r:Int) (h0:fI p0 p1=some r):aT Tryz.prog 110 [.slc 0 1 0 p0.length none,.fn (.func 63) [] [.ref 1 0 0]] [.row 1 (List.map eI p0) true,.box (.d (bE p1))] (.d (eI r)) [.row 1 (List.map eI p0) true,.box (.d (bE p1))]:=by
 unfold fI at h0
 refine fn0 [0,1] Tryz.func110 U U U U U ?_
 refine sr (sa U (sn (SC.seqB h0 (fun y=>⟨mk 19 [],[.row 1 (List.map eI p0) true,.box (.d (bE p1))]⟩) ?_ ?_)))
 ·intro V6 h1 h0
  obtain ⟨aai,h2,h1⟩:=ob h1
  refine sr (sm U (s1 (len U U U (gN iJ)) (sm U (sn (SC.blk (SC.eH h2 (fun y=>⟨mk 19 [(0,.slc 0 1 0 p0.length none),(1,.fn (.func 63) [] [.ref 1 0 0]),(7,.d (eI (p0.length:Int))),(8,.d (eI y))],[.row 1 (List.map eI p0) true,.box (.d (bE p1))]⟩) (wq U) ?_))))))
  intro n88
  rintro GR ZN h3 hv3
  refine sr (s1 (bi U U bB) (sn (sq (cB h3 U (fun h3=>?_) (fun h3=>?_)))))
  ·obtain ⟨v85,LK,h3⟩:=ob h3;obtain ⟨XY,UM,h3⟩:=ob h3
   refine sk (sq (SC.blk (sr (sm U (sa U (sn (sr (sm U (sm U ?_)))))))))
   refine sm U (s1 (Yz U U iJ dH (pO LK)) (s1 (bK U (jD dH gV U (bI (aB LK).2) U)) (cq [1] [] (Af v85 p1 _ UM) wf U U U anJ U U U U U U U U (sn (cB h3 U (fun h3=>?_) (fun h3=>?_))))))
   ·have q:=si h3;subst q;have q:_=_:=hv3;subst q;have q:=si h1;subst q;have q:=si h0;subst q
    exact sr (sm U (sa U (sn (aM (bM (Wk.refl _) (bq U aW) U)))))
   ·refine bR ?_
    change SC _ _ _ _ _
    have q:=si h3;subst q
    exact aO (s1 (bi U U bH) (sm U (SO.nil (lf (wq U)))))
  ·have q:=si h3;subst q;have q:_=_:=hv3;subst q;have q:=si h1;subst q
   exact bZ (lf (wq U))
 ·intro _ h0
  have q:=si h0;subst q
  exact sr (sa U (sn (aM (bM (Wk.refl _) (bq U aW) U))))
theorem qI (p0:List Int) (p1:aL) (r:Bool) (h0:dM p0 p1=some r):aT Tryz.prog 65 [.slc 0 1 0 p0.length none,.fn (.func 63) [] [.ref 1 0 0]] [.row 1 (List.map eI p0) true,.box (.d (bE p1))] (.d (eB r)) [.row 1 (List.map eI p0) true,.box (.d (bE p1))]:=by
 unfold dM at h0
 refine fn0 [0,1] Tryz.func65 U U U U U ?_
 obtain ⟨r7,JQ,h0⟩:=ob h0;have q:=si h0;subst q
 refine sr (sa U (sn (sr (sm U (sm U (cq [0,1] [] (rZ p0 p1 _ JQ) wf U U U agO U U U U U U U U (s1 (bi U U fU) (sa U (sn ?_)))))))))
 exact aM (bM (Wk.refl _) (bq U aW) U)
noncomputable def sK (p0:aL) (p1:bG):Option Int:=
 ah (wL p0.aV p1.Pred) fun RH=>
 bif (RH != (0:Int)) then
 some RH
 else
 ah (kS p1) fun GU=>
 ah (α:=Bool)
 (bif (decide ((p1.aV.length:Int) > (24:Int))) then
 some true
 else
 bif (decide ((GU.length:Int) > (4:Int))) then
 some true
 else
 some (decide (p1.Limit < (-1:Int))))
 fun MP=>
 bif MP then
 some (1:Int)
 else
 ah (α:=Bool)
 (ah (dM p1.aV p0) fun X5=>
 bif X5 then
 some true
 else
 ah (dM GU p0) fun DF=>
 some DF)
 fun II=>
 bif II then
 some (1:Int)
 else
 ah (P6 GU) fun X4=>
 ah (CO X4 0 GU.length) fun X3=>
 bif (decide ((X3.length:Int) < (p1.Order.length:Int))) then
 some (1:Int)
 else
 some (0:Int)
theorem DI (p0:aL) (p1:bG) (r:Int) (h0:sK p0 p1=some r):aT Tryz.prog 27 [.d (bE p0),.d (dQ p1)] [] (.d (eI r)) []:=by
 unfold sK at h0
 refine fn0 [0,1] Tryz.func27 U U U U U ?_
 obtain ⟨RH,abI,h0⟩:=ob h0
 refine sr (s1 (nN (k:=0) U U U) (s1 (nN (k:=1) U U U) (sa U (sn (sq (sr (s1 (far (k:=1) U l6 mE U) (s1 (bK U (ak mE AA U U)) (s1 (far (k:=0) U Qi Rh U) ?_)))))))))
 refine s1 (bK U (ak Rh ahj U U)) (c0 (Nn p0.aV p1.Pred _ abI) wf U U U atT U (fun _=>rfl) (fun _=>rfl) (sa U (sn (sr (sm U (s1 (bi U U dA) (sn (cB h0 U (fun h0=>?_) (fun h0=>?_)))))))))
 ·have q:=si h0;subst q
  exact sr (sm U (sa U (sn (aM (bM (aC (e':=[(4,.d (eI RH))]) [] [] U) (bq U aW) U)))))
 ·obtain ⟨GU,ahU,h0⟩:=ob h0
  refine sk (sr (s1 (mkf U U) (sa U (sn (sr (s1 (bK (v:=.d (dQ p1)) U (ak yD KE U U)) (cq [] [2] (C9 p1 _ ahU) wf U U U atS U U U U U U U U (sa U (sn ?_)))))))))
  refine sq (SC.blk (SC.dw h0 (fun y=>⟨mk 53 [(3,.ref 0 0 0),(6,.fn (.func 63) [] [.ref 1 0 0]),(7,.slc 2 1 0 GU.length none),(19,.d (eB y))],[.box (.d (dQ p1)),.box (.d (bE p0)),.row 1 (List.map eI GU) true]⟩) ?_ ?_))
  ·intro auS h1
   refine aO (s1 (far (k:=1) U Qh jf U) (s1 (bK U (ak jf vB U U)) (s1 (len U U U (bN iJ)) (s1 (bi U U dx) (sm U (sp h1 (fun h1=>?_) (fun h1=>?_)))))))
   ·have q:=si h1;subst q
    refine kw U (kw U (kw U (s1 (pkt U U) (sm U (kw U (kw U (kw U (s1 (pkt U U) (sa U ?_)))))))))
    exact SO.nil ((aC [1,0,2] [1,0,2] U))
   ·refine gw U (mv U) (gw U (len U U U (gN iJ)) (gw U (bi U U dx) (s1 (eT U U) (sm U (sp h1 (fun h1=>?_) (fun h1=>?_))))))
    ·have q:=si h1;subst q
     exact kw U (kw U (kw U (s1 (pkt U U) (sa U (SO.nil ((aC [1,0,2] [1,0,2] U)))))))
    ·have q:=si h1;subst q
     exact gw U (far (k:=3) U LV dH U) (gw U (bK U (ak dH gV U U)) (gw U (bi U U bB) (s1 (eT U U) (sa U (SO.nil ((aC [1,0,2] [1,0,2] U)))))))
  ·rintro MP h0
   refine cB h0 U (fun h0=>?_) (fun h0=>?_)
   ·have q:=si h0;subst q
    exact sr (sa U (sn (aM (bM (aC (e':=[(4,.d (eI (1:Int)))]) [] [] U) (bq U aW) U))))
   ·refine SC.dw h0 (fun y=>⟨mk 53 [(3,.ref 0 0 0),(7,.slc 1 1 0 GU.length none),(34,.d (eB y))],[.box (.d (dQ p1)),.row 1 (List.map eI GU) true]⟩) ?_ ?_
    ·intro afo h1
     obtain ⟨X5,abH,h1⟩:=ob h1
     refine aO (s1 (far (k:=1) U Qh jf U) (s1 (bK U (ak jf vB U U)) (sm U (cq [1] [] (qO p1.aV p0 _ abH) wf U U U anI U U U U U U U U (sm U (sp h1 (fun h1=>?_) (fun h1=>?_)))))))
     ·have q:=si h1;subst q
      exact kw U (kw U (kw U (s1 (pkt U U) (sa U (SO.nil ((aC [0,2] [0,2] U)))))))
     ·obtain ⟨DF,abG,h1⟩:=ob h1;have q:=si h1;subst q
      exact gw U (mv U) (gw U (mv U) (cq [2,1] [] (qI GU p0 _ abG) (ww U) U U U anI U U U U U U U U (s1 (eT U U) (sa U (SO.nil ((aC [0,2] [0,2] U)))))))
    ·rintro II h0
     refine cB h0 U (fun h0=>?_) (fun h0=>?_)
     ·have q:=si h0;subst q
      exact sr (sa U (sn (aM (bM (aC (e':=[(4,.d (eI (1:Int)))]) [] [] U) (bq U aW) U))))
     ·refine bR ?_
      change SC _ _ _ _ _
      obtain ⟨X4,abF,h0⟩:=ob h0;obtain ⟨X3,ahR,h0⟩:=ob h0
      refine sr (sm U (cq [1] [] (aa4 GU _ abF) wf U U U atQ U U U U U U U U (sn (sq (sd (by kernel_rfl) (t1 aH (mv U) U (tq [1] [] ([1],true) (Sz X4 0 GU.length _ ahR) wf U U U atP U U U U U U U U U (t1 aH (len U U U (bN iJ)) U (t1 aH (far (k:=2) U U5 vo U) U ?_)))))))))
      refine t1 ([0],false) (bK U (ak vo KF U U)) U (t1 aH (len U U U (bN xg)) U (t1 aH (bi U U bB) U (tn (by decide +kernel) (cB h0 U (fun h0=>?_) (fun h0=>?_)))))
      ·have q:=si h0;subst q
       exact sr (sa U (sn (aM (bM (aC (e':=[(4,.d (eI (1:Int)))]) [] [] U) (bq U aW) U))))
      ·have q:=si h0;subst q
       exact sk (sr (sa U (sn (aM (bM (aC (e':=[(4,.d (eI (0:Int)))]) [] [] U) (bq U aW) U)))))
noncomputable def wC (p0:aL):Option ((List bT)):=
 bif decide ((([]:List aA).length+p0.aV.length)*72≤room) then
 bif decide ((([]:List Int).length+p0.aR.length)*8≤room) then
 ah (α:=(List bT))
 (ah (α:=(List bT))
 (loop (Y:=(List bT)×Int) (W:=(List bT)) (fun (y113,y114)=>
 bif (decide (y114 < (p0.bn.length:Int))) then
 ah (bP p0.bn y114) fun gD=>
 bif decide ((([]:List aX).length+gD.Parts.length)*16≤room) then
 bif decide ((([]:List Int).length+gD.Extra.length)*8≤room) then
 bif decide ((y113.length+[(bT.mk gD.Name (([]:List aX)++gD.Parts) (([]:List Int)++gD.Extra) gD.Unique gD.Ready gD.Tree)].length)*80≤room) then
 some (Sum.inl ((y113++[(bT.mk gD.Name (([]:List aX)++gD.Parts) (([]:List Int)++gD.Extra) gD.Unique gD.Ready gD.Tree)]),(bL (y114+(1:Int)))))
 else none
 else none
 else none
 else
 some (Sum.inr y113)) (([]:List bT),(0:Int)))
 (fun e=>some e))
 fun Az=>
 some Az
 else none
 else none
theorem Nb (p0:aL) (r:(List bT)) (h0:wC p0=some r):aT Tryz.prog 17 [.d (bE p0)] [] (.agg [.d (eS p0.Name),.slc 1 7 0 ((([]:List aA)++p0.aV).length) none,.slc 2 1 0 ((([]:List Int)++p0.aR).length) none,.slc 3 6 0 r.length none,.d (eI p0.Tree)]) [.box (.agg [.d (eS p0.Name),.slc 1 7 0 ((([]:List aA)++p0.aV).length) none,.slc 2 1 0 ((([]:List Int)++p0.aR).length) none,.slc 3 6 0 r.length none,.d (eI p0.Tree)]),.row 7 (List.map aJ (([]:List aA)++p0.aV)) true,.row 1 (List.map eI (([]:List Int)++p0.aR)) true,.row 6 (List.map bF r) true]:=by
 unfold wC at h0
 refine fn0 [0] Tryz.func17 U U U U U ?_
 obtain ⟨atj,h0⟩:=gd h0;obtain ⟨ati,h0⟩:=gd h0
 refine sr (s1 (nN (k:=0) U U U) (s1 (yA (k:=1) agT U) (sn (sr (s1 (rX (k:=2) (ds:=List.map aJ ([]:List aA)) (off:=0) (l':=([]:List aA).length) U ng ai0 U U U U U U) (s1 (far (k:=1) U l6 mE U) (s1 (bK U (ak mE AA U U)) (s1 (app U U U U auq (aF (f:=aJ) (xs:=([]:List aA)) (k:=3) U ng ai0 U yg atj U)) (s1 (far (k:=1) U l6 mE U) ?_)))))))))
 refine s0 (jF U U (sB (d':=.agg [.d (eS p0.Name),.slc 3 7 0 ((([]:List aA)++p0.aV).length) none,.d ((eL 1 eI) p0.aR),.d ((eL 6 bF) p0.bn),.d (eI p0.Tree)]) mE U U U U U U U)) (sn (sr (s1 (rX (k:=4) (ds:=List.map eI ([]:List Int)) (off:=0) (l':=([]:List Int).length) U iJ TV U U U U U U) (s1 (far (k:=2) U wR jf U) (s1 (bK U (ak jf vB U U)) (s1 (app U U U U YN (aF (f:=eI) (xs:=([]:List Int)) (k:=5) U iJ TV U yg ati U)) (s1 (far (k:=2) U wR jf U) (s0 (jF U U (sB (d':=.agg [.d (eS p0.Name),.slc 3 7 0 ((([]:List aA)++p0.aV).length) none,.slc 5 1 0 ((([]:List Int)++p0.aR).length) none,.d ((eL 6 bF) p0.bn),.d (eI p0.Tree)]) jf U U U U U U U)) (sn ?_)))))))))
 refine sr (s1 (jA (v:=.d .dB) U) (sn (SC.dw h0 (fun y=>⟨mk 45 [(1,.ref 0 0 0),(2,.ref 1 0 0),(3,.slc 2 6 0 y.length none)],[.box (.agg [.d (eS p0.Name),.slc 3 7 0 ((([]:List aA)++p0.aV).length) none,.slc 4 1 0 ((([]:List Int)++p0.aR).length) none,.d ((eL 6 bF) p0.bn),.d (eI p0.Tree)]),.box (.d (.agg [(eS ([]:List UInt8)),.dB,.dB,.dB,(eI (0:Int))])),.row 6 (List.map bF y) true,.row 7 (List.map aJ (([]:List aA)++p0.aV)) true,.row 1 (List.map eI (([]:List Int)++p0.aR)) true]⟩) ?_ ?_)))
 ·intro ar8 h1
  obtain ⟨ahb,h2,h1⟩:=ob h1
  refine sr (sa U (sn (SC.blk (SC.eH h2 (fun y=>⟨mk 45 [(1,.ref 0 0 0),(2,.ref 1 0 0),(3,.slc 2 6 0 y.1.length none),(4,.d (eI y.2))],[.box (.agg [.d (eS p0.Name),.slc 3 7 0 ((([]:List aA)++p0.aV).length) none,.slc 4 1 0 ((([]:List Int)++p0.aR).length) none,.d ((eL 6 bF) p0.bn),.d (eI p0.Tree)]),.box (.d (.agg [(eS ([]:List UInt8)),.dB,.dB,.dB,(eI (0:Int))])),.row 6 (List.map bF y.1) true,.row 7 (List.map aJ (([]:List aA)++p0.aV)) true,.row 1 (List.map eI (([]:List Int)++p0.aR)) true]⟩) (Wk.trans (Wk.nI (σ':=[.box (.agg [.d (eS p0.Name),.slc 3 7 0 ((([]:List aA)++p0.aV).length) none,.slc 5 1 0 ((([]:List Int)++p0.aR).length) none,.d ((eL 6 bF) p0.bn),.d (eI p0.Tree)]),.box (.d (.agg [(eS ([]:List UInt8)),.dB,.dB,.dB,(eI (0:Int))])),.dead,.row 7 (List.map aJ (([]:List aA)++p0.aV)) true,.dead,.row 1 (List.map eI (([]:List Int)++p0.aR)) true,.row 6 (List.map bF ([]:List bT)) true]) (.row 6 [] true) (fun _ hh=>by cases hh) U) (Wk.trans (Wk.env (e':=[(1,.ref 0 0 0),(2,.ref 1 0 0),(3,.slc 6 6 0 (([]:List bT).length) none),(4,.d (eI (0:Int)))]) (EW.cons (AW.refl _) (EW.cons (AW.refl _) (EW.cons (AW.mH _ _ _) (EW.cons (AW.refl _) EW.nil))))) (aC [0,1,6,3,5] [0,1,6] U))) ?_))))
  intro n127
  rintro ⟨y113,y114⟩ ag2 h3 hv3
  refine sq (sr (sm U (s1 (far (k:=3) U sV uh U) (s1 (bK U (ak uh Js U U)) (s1 (len U U U (bN Fv)) (s1 (bi U U bB) (sn (cB h3 U (fun h3=>?_) (fun h3=>?_)))))))))
  ·obtain ⟨gD,SL,h3⟩:=ob h3;obtain ⟨SY,h3⟩:=gd h3;obtain ⟨anj,h3⟩:=gd h3;obtain ⟨ani,h3⟩:=gd h3
   refine sk (sq (SC.blk (sr (s1 (far (k:=3) U sV uh U) (s1 (bK U (ak uh Js U U)) (sm U (s1 (kV U U Fv DZ (aB SL).1 (bI (aB SL).2) U) (s1 (bK (v:=.d (bF gD)) U (bY DZ XL U)) (s1 (yA (k:=5) aju U) ?_)))))))))
   refine s0 (jF U U (sB (d':=.d (bF gD)) DZ U U U U U U U)) (sn (sr (s1 (rX (k:=6) (ds:=List.map aK ([]:List aX)) (off:=0) (l':=([]:List aX).length) U xg YF U U U U U U) (s1 (far (k:=1) U Cg vo U) (s1 (bK U (ak vo KF U U)) (s1 (app U U U U bc28 (aF (f:=aK) (xs:=([]:List aX)) (k:=7) U xg YF U yg SY U)) (s1 (far (k:=1) U Cg vo U) (s0 (jF U U (sB (d':=.agg [.d (eS gD.Name),.slc 7 2 0 ((([]:List aX)++gD.Parts).length) none,.d ((eL 1 eI) gD.Extra),.d (eB gD.Unique),.d (eB gD.Ready),.d (eI gD.Tree)]) vo U U U U U U U)) (sn ?_)))))))))
   refine sr (s1 (rX (k:=8) (ds:=List.map eI ([]:List Int)) (off:=0) (l':=([]:List Int).length) U iJ TV U U U U U U) (s1 (far (k:=2) U zO jf U) (s1 (bK U (ak jf vB U U)) (s1 (app U U U U YN (aF (f:=eI) (xs:=([]:List Int)) (k:=9) U iJ TV U yg anj U)) (s1 (far (k:=2) U zO jf U) (s0 (jF U U (sB (d':=.agg [.d (eS gD.Name),.slc 7 2 0 ((([]:List aX)++gD.Parts).length) none,.slc 9 1 0 ((([]:List Int)++gD.Extra).length) none,.d (eB gD.Unique),.d (eB gD.Ready),.d (eI gD.Tree)]) jf U U U U U U U)) (sn (aO (sm U ?_)))))))))
   refine s1 (bK (v:=.agg [.d (eS gD.Name),.slc 7 2 0 ((([]:List aX)++gD.Parts).length) none,.slc 9 1 0 ((([]:List Int)++gD.Extra).length) none,.d (eB gD.Unique),.d (eB gD.Ready),.d (eI gD.Tree)]) U (ak DZ XL U U)) (SO.wk (Wk.lD (i:=39) (x:=.agg [.d (eS gD.Name),.slc 7 2 0 ((([]:List aX)++gD.Parts).length) none,.slc 9 1 0 ((([]:List Int)++gD.Extra).length) none,.d (eB gD.Unique),.d (eB gD.Ready),.d (eI gD.Tree)]) U U U (kX U (kW (fF U U U) (kW (fF U U U) (kX U (kX U (kX U wP))))))) (s1 (rX (k:=10) (ds:=List.map bF [(bT.mk gD.Name (([]:List aX)++gD.Parts) (([]:List Int)++gD.Extra) gD.Unique gD.Ready gD.Tree)]) (off:=0) (l':=[(bT.mk gD.Name (([]:List aX)++gD.Parts) (([]:List Int)++gD.Extra) gD.Unique gD.Ready gD.Tree)].length) U Fv anv U U (by rfl) U U U) (s1 (app U U U U bc24 (aF (f:=bF) (xs:=y113) (k:=11) U Fv anv U (dU (xs:=[(bT.mk gD.Name (([]:List aX)++gD.Parts) (([]:List Int)++gD.Extra) gD.Unique gD.Ready gD.Tree)]) U) ani U)) (sa U (SO.nil ?_)))))
   change SC _ _ _ _ _
   have q:=si h3;subst q
   exact aO (sm U (s1 (bi U U bH) (sa U (SO.nil (lf (aC [0,1,11,3,4] [0,1,11] U))))))
  ·have q:=si h3;subst q;have q:_=_:=hv3;subst q;have q:=si h1;subst q
   exact bZ ((wq U))
 ·rintro Az h0
  have q:=si h0;subst q
  refine sr (sm U (s1 (far (k:=3) U sV uh U) (s0 (jF U U (sB (d':=.agg [.d (eS p0.Name),.slc 3 7 0 ((([]:List aA)++p0.aV).length) none,.slc 4 1 0 ((([]:List Int)++p0.aR).length) none,.slc 2 6 0 Az.length none,.d (eI p0.Tree)]) uh U U U U U U U)) (sn (sr (s1 (bK (v:=.agg [.d (eS p0.Name),.slc 3 7 0 ((([]:List aA)++p0.aV).length) none,.slc 4 1 0 ((([]:List Int)++p0.aR).length) none,.slc 2 6 0 Az.length none,.d (eI p0.Tree)]) U (ak oU uQ U U)) (s0 (jF U U (sB (d':=.agg [.d (eS p0.Name),.slc 3 7 0 ((([]:List aA)++p0.aV).length) none,.slc 4 1 0 ((([]:List Int)++p0.aR).length) none,.slc 2 6 0 Az.length none,.d (eI p0.Tree)]) oU U U U U U U U)) (sn (aM ?_)))))))))
  exact bM (aC (e':=[(2,.ref 0 0 0)]) [1,3,4,2] [1] U) (xE U (ak oU uQ U U) aW) U
noncomputable def jU (p0:aL):Option ((List bT)):=
 ah (wC p0) fun RF=>
 ah (α:=(List bT))
 (ah (α:=(List bT))
 (loop (Y:=Int×(List bT)) (W:=(List bT)) (fun (TR,y66)=>
 bif (decide (TR < (y66.length:Int))) then
 ah (bP y66 TR) fun v72=>
 some (Sum.inl ((bL (TR+(1:Int))),(List.set y66 TR.toNat (bT.mk v72.Name v72.Parts v72.Extra v72.Unique v72.Ready (bL ((3:Int)+TR))))))
 else
 some (Sum.inr y66)) ((0:Int),RF))
 (fun e=>some e))
 fun y62=>
 some y62
theorem Gd (p0:aL) (r:(List bT)) (h0:jU p0=some r):aT Tryz.prog 12 [.d (bE p0)] [] (.agg [.d (eS p0.Name),.slc 1 7 0 ((([]:List aA)++p0.aV).length) none,.slc 2 1 0 ((([]:List Int)++p0.aR).length) none,.slc 3 6 0 r.length none,.d (eI (2:Int))]) [.box (.agg [.d (eS p0.Name),.slc 1 7 0 ((([]:List aA)++p0.aV).length) none,.slc 2 1 0 ((([]:List Int)++p0.aR).length) none,.slc 3 6 0 r.length none,.d (eI (2:Int))]),.row 7 (List.map aJ (([]:List aA)++p0.aV)) true,.row 1 (List.map eI (([]:List Int)++p0.aR)) true,.row 6 (List.map bF r) true]:=by
 unfold jU at h0
 refine fn0 [0] Tryz.func12 U U U U U ?_
 obtain ⟨RF,ahS,h0⟩:=ob h0
 refine sr (s1 (nN (k:=0) U U U) (s1 (yA (k:=1) agT U) (sn (sr (s1 (bK (v:=.d (bE p0)) U (ak oU uQ U U)) (cq [] [2,3,4,5] (Nb p0 _ ahS) wf U U U aua U U U U U U U U (s0 (jF U U (sB (d':=.agg [.d (eS p0.Name),.slc 3 7 0 ((([]:List aA)++p0.aV).length) none,.slc 4 1 0 ((([]:List Int)++p0.aR).length) none,.slc 5 6 0 RF.length none,.d (eI p0.Tree)]) oU U U U U U U U)) (sn (sr ?_)))))))))
 refine s1 (far (k:=4) U U6 dH U) (s0 (jF (b:=.d (eI (2:Int))) U U (sB (d':=.agg [.d (eS p0.Name),.slc 3 7 0 ((([]:List aA)++p0.aV).length) none,.slc 4 1 0 ((([]:List Int)++p0.aR).length) none,.slc 5 6 0 RF.length none,.d (eI (2:Int))]) dH U U U U U U U)) (sn (SC.dw h0 (fun y=>⟨mk 22 [(1,.ref 0 0 0),(2,.ref 1 0 0)],[.box (.agg [.d (eS p0.Name),.slc 2 7 0 ((([]:List aA)++p0.aV).length) none,.slc 3 1 0 ((([]:List Int)++p0.aR).length) none,.slc 4 6 0 y.length none,.d (eI (2:Int))]),.box (.d (.agg [(eS ([]:List UInt8)),.dB,.dB,.dB,(eI (0:Int))])),.row 7 (List.map aJ (([]:List aA)++p0.aV)) true,.row 1 (List.map eI (([]:List Int)++p0.aR)) true,.row 6 (List.map bF y) true]⟩) ?_ ?_)))
 ·intro auN h1
  obtain ⟨auD,h2,h1⟩:=ob h1
  refine sr (sa U (sn (SC.blk (SC.eH h2 (fun y=>⟨mk 22 [(1,.ref 0 0 0),(2,.ref 1 0 0),(3,.d (eI y.1))],[.box (.agg [.d (eS p0.Name),.slc 2 7 0 ((([]:List aA)++p0.aV).length) none,.slc 3 1 0 ((([]:List Int)++p0.aR).length) none,.slc 4 6 0 y.2.length none,.d (eI (2:Int))]),.box (.d (.agg [(eS ([]:List UInt8)),.dB,.dB,.dB,(eI (0:Int))])),.row 7 (List.map aJ (([]:List aA)++p0.aV)) true,.row 1 (List.map eI (([]:List Int)++p0.aR)) true,.row 6 (List.map bF y.2) true]⟩) (aC [0,1,3,4,5] [0,1] U) ?_))))
  intro n73
  rintro ⟨TR,y66⟩ auv h3 hv3
  refine sq (sr (sm U (s1 (far (k:=3) U sV uh U) (s1 (bK U (ak uh Js U U)) (s1 (len U U U (gN Fv)) (s1 (bi U U bB) (sn (cB h3 U (fun h3=>?_) (fun h3=>?_)))))))))
  ·obtain ⟨v72,alb,h3⟩:=ob h3
   refine sk (sq (SC.blk (aO (s1 (far (k:=3) U sV uh U) (s1 (bK U (ak uh Js U U)) (sm U (sm U (s1 (bi U U bH) (s1 (Yz U U Fv DZ (pO alb)) ?_)))))))))
   refine s1 (far (k:=5) U abV dH U) (s0 (jF (b:=.d (eI (bL ((3:Int)+TR)))) U U (sF (f:=bF) (v:=(bT.mk v72.Name v72.Parts v72.Extra v72.Unique v72.Ready (bL ((3:Int)+TR)))) (ds:=[(eI (bL ((3:Int)+TR)))]) dH U U U U (aB alb).2 U U U U)) (SO.nil ?_))
   change SC _ _ _ _ _
   have q:=si h3;subst q
   exact aO (sm U (s1 (bi U U bH) (sa U (SO.nil (lf (Wk.trans (wq (e':=[(1,.ref 0 0 0),(2,.ref 1 0 0),(3,.d (eI (bL (TR+(1:Int)))))]) U) (Wk.Vd (id:=0) (y:=.agg [.d (eS p0.Name),.slc 2 7 0 ((([]:List aA)++p0.aV).length) none,.slc 3 1 0 ((([]:List Int)++p0.aR).length) none,.slc 4 6 0 ((List.set y66 TR.toNat (bT.mk v72.Name v72.Parts v72.Extra v72.Unique v72.Ready (bL ((3:Int)+TR)))).length) none,.d (eI (2:Int))]) (σ':=[.box (.agg [.d (eS p0.Name),.slc 2 7 0 ((([]:List aA)++p0.aV).length) none,.slc 3 1 0 ((([]:List Int)++p0.aR).length) none,.slc 4 6 0 ((List.set y66 TR.toNat (bT.mk v72.Name v72.Parts v72.Extra v72.Unique v72.Ready (bL ((3:Int)+TR)))).length) none,.d (eI (2:Int))]),.box (.d (.agg [(eS ([]:List UInt8)),.dB,.dB,.dB,(eI (0:Int))])),.row 7 (List.map aJ (([]:List aA)++p0.aV)) true,.row 1 (List.map eI (([]:List Int)++p0.aR)) true,.row 6 (List.map bF (List.set y66 TR.toNat (bT.mk v72.Name v72.Parts v72.Extra v72.Unique v72.Ready (bL ((3:Int)+TR))))) true]) U (jX.cons (AW.refl _) (jX.cons (AW.refl _) (jX.cons (AW.refl _) (jX.cons (AW.slc U (by simp)) (jX.cons (AW.refl _) jX.nil))))) U)))))))
  ·have q:=si h3;subst q;have q:_=_:=hv3;subst q;have q:=si h1;subst q
   exact bZ ((wq U))
 ·rintro y62 h0
  have q:=si h0;subst q
  exact sr (s1 (bK (v:=.agg [.d (eS p0.Name),.slc 2 7 0 ((([]:List aA)++p0.aV).length) none,.slc 3 1 0 ((([]:List Int)++p0.aR).length) none,.slc 4 6 0 y62.length none,.d (eI (2:Int))]) U (ak oU uQ U U)) (s0 (jF U U (sB (d':=.agg [.d (eS p0.Name),.slc 2 7 0 ((([]:List aA)++p0.aV).length) none,.slc 3 1 0 ((([]:List Int)++p0.aR).length) none,.slc 4 6 0 y62.length none,.d (eI (2:Int))]) oU U U U U U U U)) (sn (aM (bM (aC (e':=[(2,.ref 0 0 0)]) [1,2,3,4] [1] U) (xE U (ak oU uQ U U) aW) U)))))
theorem Db (p0:aL) (r:(List bT)) (h0:jU p0=some r):aT Tryz.prog 12 [.d (bE p0)] [] (.d (bE (aL.mk p0.Name (([]:List aA)++p0.aV) (([]:List Int)++p0.aR) r (2:Int)))) [.box (.agg [.d (eS p0.Name),.slc 1 7 0 ((([]:List aA)++p0.aV).length) none,.slc 2 1 0 ((([]:List Int)++p0.aR).length) none,.slc 3 6 0 r.length none,.d (eI (2:Int))]),.row 7 (List.map aJ (([]:List aA)++p0.aV)) false,.row 1 (List.map eI (([]:List Int)++p0.aR)) false,.row 6 (List.map bF r) false]:=
 aT.atu (Gd p0 r h0) (kX U (kW (yO U U) (kW (yO U U) (kW (yO U U) (kX U wP)))))
noncomputable def pF (p0:List aA):Option Bool:=
 ah (α:=Bool)
 (bif (decide ((p0.length:Int) < (1:Int))) then
 some true
 else
 some (decide ((p0.length:Int) > (24:Int))))
 fun y64=>
 bif y64 then
 some false
 else
 fP (Y:=Unit) (E:=Bool)
 (ah (α:=Unit⊕Bool)
 (loop (Y:=Int) (W:=Unit⊕Bool) (fun y84=>
 bif (decide (y84 < (p0.length:Int))) then
 ah (bP p0 y84) fun v91=>
 ah (oD v91) fun r93=>
 bif (r93 != (0:Int)) then
 some (Sum.inr (Sum.inr false))
 else
 some (Sum.inl (bL (y84+(1:Int))))
 else
 some (Sum.inr (Sum.inl ()))) (0:Int))
 (Sum.elim (fun e=>some (Sum.inl e)) (fun e=>some (Sum.inr e))))
 (fun _=>
 some true)
 (fun e=>some e)
theorem Hw (p0:List aA) (r:Bool) (h0:pF p0=some r):aT Tryz.prog 58 [.d ((eL 7 aJ) p0)] [] (.d (eB r)) []:=by
 unfold pF at h0
 refine fn0 [0] Tryz.func58 U U U U U ?_
 refine sr (sa U (sn (sq (SC.dw h0 (fun y=>⟨mk 24 [(0,.d ((eL 7 aJ) p0)),(11,.d (eB y))],[]⟩) ?_ ?_))))
 ·intro auM h1
  refine aO (sm U (s1 (len U U U (bN ng)) (s1 (bi U U bB) (sm U (sp h1 (fun h1=>?_) (fun h1=>?_))))))
  ·have q:=si h1;subst q
   exact kw U (kw U (kw U (s1 (pkt U U) (SO.nil ((wq U))))))
  ·have q:=si h1;subst q
   exact gw U (mv U) (gw U (len U U U (bN ng)) (gw U (bi U U dx) (s1 (eT U U) (SO.nil ((wq U))))))
 ·rintro y64 h0
  refine cB h0 U (fun h0=>?_) (fun h0=>?_)
  ·have q:=si h0;subst q
   exact sr (sa U (sn (aM (bM (Wk.refl _) (bq U aW) U))))
  ·refine sk (SC.seqB h0 (fun y=>⟨mk 24 [],[]⟩) ?_ ?_)
   ·intro auL h1 h0
    obtain ⟨auB,h2,h1⟩:=ob h1
    refine sr (sa U (sn (SC.blk (SC.eH h2 (fun y=>⟨mk 24 [(0,.d ((eL 7 aJ) p0)),(3,.d (eI y))],[]⟩) (wq U) ?_))))
    intro n94
    rintro y84 auu h3 hv3
    refine sq (sr (sm U (sm U (s1 (len U U U (bN ng)) (s1 (bi U U bB) (sn (cB h3 U (fun h3=>?_) (fun h3=>?_))))))))
    ·obtain ⟨v91,hv91,h3⟩:=ob h3;obtain ⟨r93,abE,h3⟩:=ob h3
     refine sk (sq (SC.blk (sr (sm U (sm U (s1 (kV U U ng qH (aB hv91).1 (bI (aB hv91).2) U) (s1 (bK (v:=.d (aJ v91)) U (bY qH Hl U)) (c0 (Ad v91 _ abE) wf U U U anR U (fun _=>rfl) (fun _=>rfl) (s1 (bi U U dA) ?_)))))))))
     refine sn (cB h3 U (fun h3=>?_) (fun h3=>?_))
     ·have q:=si h3;subst q;have q:_=_:=hv3;subst q;have q:=si h1;subst q;have q:=si h0;subst q
      exact sr (sa U (sn (aM (bM (Wk.refl _) (bq U aW) U))))
     ·refine bR ?_
      change SC _ _ _ _ _
      have q:=si h3;subst q
      exact aO (sm U (s1 (bi U U bH) (sa U (SO.nil (lf (wq U))))))
    ·have q:=si h3;subst q;have q:_=_:=hv3;subst q;have q:=si h1;subst q
     exact bZ (lf (wq U))
   ·intro _ h0
    have q:=si h0;subst q
    exact sr (sa U (sn (aM (bM (Wk.refl _) (bq U aW) U))))
noncomputable def sG (p0:List aA) (p1:List aj):Option Int:=
 ah (α:=Bool)
 (ah (pF p0) fun r89=>
 bif (!r89) then
 some true
 else
 some ((p1.length:Int) != (p0.length:Int)))
 fun y86=>
 bif y86 then
 some (1:Int)
 else
 fP (Y:=Unit) (E:=Int)
 (ah (α:=Unit⊕Int)
 (loop (Y:=Int) (W:=Unit⊕Int) (fun y112=>
 bif (decide (y112 < (p1.length:Int))) then
 ah (bP p0 y112) fun He=>
 ah (bP p1 y112) fun KC=>
 ah (sH He KC) fun BA=>
 bif (BA != (0:Int)) then
 some (Sum.inr (Sum.inr BA))
 else
 some (Sum.inl (bL (y112+(1:Int))))
 else
 some (Sum.inr (Sum.inl ()))) (0:Int))
 (Sum.elim (fun e=>some (Sum.inl e)) (fun e=>some (Sum.inr e))))
 (fun _=>
 some (0:Int))
 (fun e=>some e)
theorem Nc (p0:List aA) (p1:List aj) (r:Int) (h0:sG p0 p1=some r):aT Tryz.prog 41 [.d ((eL 7 aJ) p0),.d ((eL 3 au) p1)] [] (.d (eI r)) []:=by
 unfold sG at h0
 refine fn0 [0,1] Tryz.func41 U U U U U ?_
 refine sr (sa U (sn (sq (SC.dw h0 (fun y=>⟨mk 35 [(0,.d ((eL 7 aJ) p0)),(1,.d ((eL 3 au) p1)),(16,.d (eB y))],[]⟩) ?_ ?_))))
 ·intro afn h1
  obtain ⟨r89,ahP,h1⟩:=ob h1
  refine aO (sm U (c0 (Hw p0 _ ahP) wf U U U atU U (fun _=>rfl) (fun _=>rfl) (s1 (nt U) (sm U (sp h1 (fun h1=>?_) (fun h1=>?_))))))
  ·have q:=si h1;subst q
   exact kw U (kw U (kw U (kw U (kw U (s1 (pkt U U) (SO.nil ((wq U))))))))
  ·have q:=si h1;subst q
   exact gw U (mv U) (gw U (len U U U (bN jJ)) (gw U (mv U) (gw U (len U U U (bN ng)) (gw U (bi U U dA) (s1 (eT U U) (SO.nil ((wq U))))))))
 ·rintro y86 h0
  refine cB h0 U (fun h0=>?_) (fun h0=>?_)
  ·have q:=si h0;subst q
   exact sr (sa U (sn (aM (bM (Wk.refl _) (bq U aW) U))))
  ·refine sk (SC.seqB h0 (fun y=>⟨mk 35 [],[]⟩) ?_ ?_)
   ·intro ahg h1 h0
    obtain ⟨ahc,h2,h1⟩:=ob h1
    refine sr (sa U (sn (SC.blk (SC.eH h2 (fun y=>⟨mk 35 [(0,.d ((eL 7 aJ) p0)),(1,.d ((eL 3 au) p1)),(5,.d (eI y))],[]⟩) (wq U) ?_))))
    intro n124
    rintro y112 ag3 h3 hv3
    refine sq (sr (sm U (sm U (s1 (len U U U (bN jJ)) (s1 (bi U U bB) (sn (cB h3 U (fun h3=>?_) (fun h3=>?_))))))))
    ·obtain ⟨He,SQ,h3⟩:=ob h3;obtain ⟨KC,SN,h3⟩:=ob h3;obtain ⟨BA,SV,h3⟩:=ob h3
     refine sk (sq (SC.blk (sd (by kernel_rfl) (t1 aH (mv U) U (t1 aH (mv U) U (t1 aH (kV U U ng qH (aB SQ).1 (bI (aB SQ).2) U) U (t1 aH (bK (v:=.d (aJ He)) U (bY qH Hl U)) U (t1 aH (mv U) U (t1 aH (mv U) U ?_)))))))))
     refine t1 aH (kV U U jJ gK (aB SN).1 (bI (aB SN).2) U) U (t1 aH (bK (v:=.d (au KC)) U (bY gK ny U)) U (Hg (Dz He KC _ SV) wf U U U anK U (fun _=>rfl) (fun _=>rfl) (t1 aH (jA U) U (tn (by decide +kernel) (sr (sm U (s1 (bi U U dA) (sn (cB h3 U (fun h3=>?_) (fun h3=>?_))))))))))
     ·have q:=si h3;subst q;have q:_=_:=hv3;subst q;have q:=si h1;subst q;have q:=si h0;subst q
      exact sr (sm U (sa U (sn (aM (bM (Wk.refl _) (bq U aW) U)))))
     ·refine bR ?_
      change SC _ _ _ _ _
      have q:=si h3;subst q
      exact aO (sm U (s1 (bi U U bH) (sa U (SO.nil (lf (wq U))))))
    ·have q:=si h3;subst q;have q:_=_:=hv3;subst q;have q:=si h1;subst q
     exact bZ (lf (wq U))
   ·intro _ h0
    have q:=si h0;subst q
    exact sr (sa U (sn (aM (bM (Wk.refl _) (bq U aW) U))))
noncomputable def uH (p0:aL) (p1:List (List aj)):Option ((List (List aj))):=
 ah (α:=(List (List aj)))
 (ah (α:=(List (List aj)))
 (loop (Y:=(List (List aj))×Int) (W:=(List (List aj))) (fun (tY,Bb)=>
 ah (α:=Bool)
 (bif (decide (Bb < (p1.length:Int))) then
 some (decide ((tY.length:Int) < (40:Int)))
 else
 some false)
 fun ae4=>
 bif ae4 then
 ah (α:=(List (List aj)))
 (ah (bP p1 Bb) fun Rb=>
 ah (sG p0.aV Rb) fun Wj=>
 ah (α:=Bool)
 (ah (α:=Bool)
 (loop (Y:=Bool×Int) (W:=Bool) (fun (Dj,yB)=>
 ah (α:=Bool)
 (bif (decide (yB < (tY.length:Int))) then
 some Dj
 else
 some false)
 fun IJ=>
 bif IJ then
 ah (bP tY yB) fun Fj=>
 ah (fu p0 Fj) fun I5=>
 ah (bP p1 Bb) fun Fh=>
 ah (fu p0 Fh) fun I4=>
 some (Sum.inl ((I5 != I4),(bL (yB+(1:Int)))))
 else
 some (Sum.inr Dj)) ((Wj==(0:Int)),(0:Int)))
 (fun e=>some e))
 fun VD=>
 bif VD then
 ah (bP p1 Bb) fun Fg=>
 bif decide ((tY.length+[Fg].length)*24≤room) then
 some (tY++[Fg])
 else none
 else
 some tY)
 fun VE=>
 some (Sum.inl (VE,(bL (Bb+(1:Int)))))
 else
 some (Sum.inr tY)) (([]:List (List aj)),(0:Int)))
 (fun e=>some e))
 fun Ko=>
 some Ko
theorem LG (p0:aL) (p1:List (List aj)) (r:(List (List aj))) (h0:uH p0 p1=some r):aT Tryz.prog 13 [.d (bE p0),.d ((eL 1 (eL 3 au)) p1)] [] (.d ((eL 1 (eL 3 au)) r)) []:=by
 unfold uH at h0
 refine fn0 [0,1] Tryz.func13 U U U U U ?_
 refine sr (s1 (nN (k:=0) U U U) (s1 (jA (v:=.d .dB) U) (sn (sr (s1 (jA (v:=.d .dB) U) (sn (SC.dw h0 (fun y=>⟨mk 59 [(5,.slc 0 1 0 y.length none)],[.row 1 (List.map (eL 3 au) y) true]⟩) ?_ ?_)))))))
 ·intro apL h1
  obtain ⟨apD,h2,h1⟩:=ob h1
  refine sr (sa U (sn (SC.blk (SC.eH h2 (fun y=>⟨mk 59 [(1,.d ((eL 1 (eL 3 au)) p1)),(2,.ref 0 0 0),(5,.slc 1 1 0 y.1.length none),(6,.d (eI y.2))],[.box (.d (bE p0)),.row 1 (List.map (eL 3 au) y.1) true]⟩) (Wk.trans (Wk.nI (σ':=[.box (.d (bE p0)),.row 1 (List.map (eL 3 au) ([]:List (List aj))) true]) (.row 1 [] true) (fun _ hh=>by cases hh) U) (Wk.trans (Wk.env (e':=[(1,.d ((eL 1 (eL 3 au)) p1)),(2,.ref 0 0 0),(5,.slc 1 1 0 (([]:List (List aj)).length) none),(6,.d (eI (0:Int)))]) (EW.cons (AW.refl _) (EW.cons (AW.refl _) (EW.cons (AW.mH _ _ _) (EW.cons (AW.refl _) EW.nil))))) (wq U))) ?_))))
  intro au3
  rintro ⟨tY,Bb⟩ ao7 h3 hv3
  refine sq (SC.dw h3 (fun y=>⟨mk 59 [(1,.d ((eL 1 (eL 3 au)) p1)),(2,.ref 0 0 0),(5,.slc 1 1 0 tY.length none),(6,.d (eI Bb)),(17,.d (eB y))],[.box (.d (bE p0)),.row 1 (List.map (eL 3 au) tY) true]⟩) ?_ ?_)
  ·intro apw h4
   refine aO (sm U (sm U (s1 (len U U U (bN mZ)) (s1 (bi U U bB) (sm U (sp h4 (fun h4=>?_) (fun h4=>?_)))))))
   ·have q:=si h4;subst q
    exact gw U (mv U) (gw U (len U U U (gN mZ)) (gw U (bi U U bB) (s1 (pkt U U) (SO.nil ((wq U))))))
   ·have q:=si h4;subst q
    exact kw U (kw U (kw U (s1 (eT U U) (SO.nil ((wq U))))))
  ·rintro ae4 h3
   refine cB h3 U (fun h3=>?_) (fun h3=>?_)
   ·refine sk (SC.dw h3 (fun y=>⟨mk 59 [(1,.d ((eL 1 (eL 3 au)) p1)),(2,.ref 0 0 0),(5,.slc 1 1 0 y.length none),(6,.d (eI Bb))],[.box (.d (bE p0)),.row 1 (List.map (eL 3 au) y) true]⟩) ?_ ?_)
    ·intro apv h4
     obtain ⟨Rb,abm,h4⟩:=ob h4;obtain ⟨Wj,ah6,h4⟩:=ob h4
     refine SC.blk (sd (by kernel_rfl) (t1 aH (far (k:=1) U l6 mE U) U (t1 ([0],false) (bK U (ak mE AA U U)) U (t1 aH (mv U) U (t1 aH (mv U) U (t1 aH (kV U U mZ ni (aB abm).1 (bI (aB abm).2) U) U (t1 aH (bK U (bY ni zk U)) U (Hg (Nc p0.aV Rb _ ah6) wf U U U atZ U (fun _=>rfl) (fun _=>rfl) (t1 aH (bi U U bD) U ?_)))))))))
     refine t1 aH (jA U) U (tn (by decide +kernel) (SC.dw h4 (fun y=>⟨mk 59 [(1,.d ((eL 1 (eL 3 au)) p1)),(2,.ref 0 0 0),(5,.slc 1 1 0 tY.length none),(6,.d (eI Bb)),(7,.d (eB y))],[.box (.d (bE p0)),.row 1 (List.map (eL 3 au) tY) true]⟩) ?_ ?_))
     ·intro apl h5
      obtain ⟨ape,h6,h5⟩:=ob h5
      refine sr (sa U (sn (SC.blk (SC.eH h6 (fun y=>⟨mk 59 [(1,.d ((eL 1 (eL 3 au)) p1)),(2,.ref 0 0 0),(5,.slc 1 1 0 tY.length none),(6,.d (eI Bb)),(7,.d (eB y.1)),(8,.d (eI y.2))],[.box (.d (bE p0)),.row 1 (List.map (eL 3 au) tY) true]⟩) (wq U) ?_))))
      intro au4
      rintro ⟨Dj,yB⟩ ao1 h7 hv7
      refine sq (SC.dw h7 (fun y=>⟨mk 59 [(1,.d ((eL 1 (eL 3 au)) p1)),(2,.ref 0 0 0),(5,.slc 1 1 0 tY.length none),(6,.d (eI Bb)),(7,.d (eB Dj)),(8,.d (eI yB)),(34,.d (eB y))],[.box (.d (bE p0)),.row 1 (List.map (eL 3 au) tY) true]⟩) ?_ ?_)
      ·intro apd h8
       refine aO (sm U (sm U (s1 (len U U U (gN mZ)) (s1 (bi U U bB) (sm U (sp h8 (fun h8=>?_) (fun h8=>?_)))))))
       ·have q:=si h8;subst q
        exact gw U (mv U) (s1 (pkt U U) (SO.nil ((wq U))))
       ·have q:=si h8;subst q
        exact kw U (s1 (eT U U) (SO.nil ((wq U))))
      ·rintro IJ h7
       refine cB h7 U (fun h7=>?_) (fun h7=>?_)
       ·obtain ⟨Fj,abl,h7⟩:=ob h7;obtain ⟨I5,ah5,h7⟩:=ob h7;obtain ⟨Fh,abk,h7⟩:=ob h7;obtain ⟨I4,ah4,h7⟩:=ob h7
        refine sk (sq (SC.blk (SC.draws (by kernel_rfl) (t1 ([0],false) (bK (v:=.d (bE p0)) U (ak oU uQ U U)) U (t1 aH (mv U) U (t1 aH (mv U) U (t1 aH (Yz U U mZ ni (pO abl)) U (t1 ([1],false) (bK U (jD ni zk U (bI (aB abl).2) U)) U (Hg (ou p0 Fj _ ah5) wf U U U aez U (fun _=>rfl) (fun _=>rfl) ?_)))))))))
        refine t1 ([0],false) (bK (v:=.d (bE p0)) U (ak oU uQ U U)) U (t1 aH (mv U) U (t1 aH (mv U) U (t1 aH (kV U U mZ ni (aB abk).1 (bI (aB abk).2) U) U (t1 aH (bK U (bY ni zk U)) U (Hg (ou p0 Fh _ ah4) wf U U U aez U (fun _=>rfl) (fun _=>rfl) (t1 aH (bi U U Yf) U (t1 aH (jA U) U (ST.nil (And.intro (by decide +kernel) ?_)))))))))
        change SC _ _ _ _ _
        have q:=si h7;subst q
        exact aO (sm U (s1 (bi U U bH) (sa U (SO.nil (lf (wq U))))))
       ·have q:=si h7;subst q;have q:_=_:=hv7;subst q;have q:=si h5;subst q
        exact bZ ((wq U))
     ·rintro VD h4
      refine sr (sm U (sn (cB h4 U (fun h4=>?_) (fun h4=>?_))))
      ·obtain ⟨Fg,abj,h4⟩:=ob h4;obtain ⟨aiA,h4⟩:=gd h4;have q:=si h4;subst q
       refine aO (sm U (sm U (sm U (s1 (kV U U mZ ni (aB abj).1 (bI (aB abj).2) U) (s1 (bK U (bY ni zk U)) (s1 (rX (k:=2) (ds:=List.map (eL 3 au) [Fg]) (off:=0) (l':=[Fg].length) U mZ ab3 U U (by rfl) U U U) (s1 (app U U U U bc31 (aF (f:=(eL 3 au)) (xs:=tY) (k:=3) U mZ ab3 U (dU (xs:=[Fg]) U) aiA U)) (sa U (SO.nil ?_)))))))))
       exact (aC [0,3] [0,3] U)
      ·have q:=si h4;subst q
       exact bR ((wq U))
    ·rintro VE h3
     have q:=si h3;subst q
     exact aO (sm U (s1 (bi U U bH) (sa U (SO.nil (lf (wq U))))))
   ·have q:=si h3;subst q;have q:_=_:=hv3;subst q;have q:=si h1;subst q
    exact bZ ((aC [1] [1] U))
 ·rintro Ko h0
  have q:=si h0;subst q
  exact sr (sm U (sa U (sn (aM (bM (Wk.trans (Wk.og (i:=4) (x:=.slc 0 1 0 Ko.length none) U U (fF U U U)) (wc (e':=[(4,.d ((eL 1 (eL 3 au)) Ko))]) [] [] (by kernel_rfl) U (by kernel_rfl))) (bq U aW) U)))))
noncomputable def wG (p0:List aj) (p1:List aj):Option Bool:=
 bif ((p0.length:Int) != (p1.length:Int)) then
 some false
 else
 fP (Y:=Unit) (E:=Bool)
 (ah (α:=Unit⊕Bool)
 (loop (Y:=Int) (W:=Unit⊕Bool) (fun y62=>
 bif (decide (y62 < (p0.length:Int))) then
 ah (bP p0 y62) fun v68=>
 ah (bP p1 y62) fun v69=>
 bif (!(gq v68 v69)) then
 some (Sum.inr (Sum.inr false))
 else
 some (Sum.inl (bL (y62+(1:Int))))
 else
 some (Sum.inr (Sum.inl ()))) (0:Int))
 (Sum.elim (fun e=>some (Sum.inl e)) (fun e=>some (Sum.inr e))))
 (fun _=>
 some true)
 (fun e=>some e)
theorem Nj (p0:List aj) (p1:List aj) (r:Bool) (h0:wG p0 p1=some r):aT Tryz.prog 53 [.d ((eL 3 au) p0),.d ((eL 3 au) p1)] [] (.d (eB r)) []:=by
 unfold wG at h0
 refine fn0 [0,1] Tryz.func53 U U U U U ?_
 refine sr (sa U (sn (sq (sr (sm U (s1 (len U U U (bN jJ)) (sm U (s1 (len U U U (bN jJ)) (s1 (bi U U dA) ?_)))))))))
 refine sn (cB h0 U (fun h0=>?_) (fun h0=>?_))
 ·have q:=si h0;subst q
  exact sr (sa U (sn (aM (bM (Wk.refl _) (bq U aW) U))))
 ·refine sk (SC.seqB h0 (fun y=>⟨mk 26 [],[]⟩) ?_ ?_)
  ·intro auP h1 h0
   obtain ⟨auE,h2,h1⟩:=ob h1
   refine sr (sa U (sn (SC.blk (SC.eH h2 (fun y=>⟨mk 26 [(0,.d ((eL 3 au) p0)),(1,.d ((eL 3 au) p1)),(5,.d (eI y))],[]⟩) (wq U) ?_))))
   intro n70
   rintro y62 auw h3 hv3
   refine sq (sr (sm U (sm U (s1 (len U U U (bN jJ)) (s1 (bi U U bB) (sn (cB h3 U (fun h3=>?_) (fun h3=>?_))))))))
   ·obtain ⟨v68,ald,h3⟩:=ob h3;obtain ⟨v69,alc,h3⟩:=ob h3
    refine sk (sq (SC.blk (sd (by kernel_rfl) (t1 aH (mv U) U (t1 aH (mv U) U (t1 aH (kV U U jJ gK (aB ald).1 (bI (aB ald).2) U) U (t1 aH (bK (v:=.d (au v68)) U (bY gK ny U)) U (t1 aH (mv U) U (t1 aH (mv U) U ?_)))))))))
    refine t1 aH (kV U U jJ gK (aB alc).1 (bI (aB alc).2) U) U (t1 aH (bK (v:=.d (au v69)) U (bY gK ny U)) U (t1 aH (bi (v:=.d (eB (!(gq v68 v69)))) U U (fun X Y=>Gx X Y v68 v69)) U (tn (by decide +kernel) (cB h3 U (fun h3=>?_) (fun h3=>?_)))))
    ·have q:=si h3;subst q;have q:_=_:=hv3;subst q;have q:=si h1;subst q;have q:=si h0;subst q
     exact sr (sa U (sn (aM (bM (Wk.refl _) (bq U aW) U))))
    ·refine bR ?_
     change SC _ _ _ _ _
     have q:=si h3;subst q
     exact aO (sm U (s1 (bi U U bH) (sa U (SO.nil (lf (wq U))))))
   ·have q:=si h3;subst q;have q:_=_:=hv3;subst q;have q:=si h1;subst q
    exact bZ (lf (wq U))
  ·intro _ h0
   have q:=si h0;subst q
   exact sr (sa U (sn (aM (bM (Wk.refl _) (bq U aW) U))))
noncomputable def Bz (p0:List (List aj)) (p1:List (List aj)):Option Bool:=
 bif ((p0.length:Int) != (p1.length:Int)) then
 some false
 else
 fP (Y:=Unit) (E:=Bool)
 (ah (α:=Unit⊕Bool)
 (loop (Y:=Int) (W:=Unit⊕Bool) (fun y94=>
 bif (decide (y94 < (p0.length:Int))) then
 ah (bP p0 y94) fun ag7=>
 ah (bP p1 y94) fun ag6=>
 ah (wG ag7 ag6) fun pG=>
 bif (!pG) then
 some (Sum.inr (Sum.inr false))
 else
 some (Sum.inl (bL (y94+(1:Int))))
 else
 some (Sum.inr (Sum.inl ()))) (0:Int))
 (Sum.elim (fun e=>some (Sum.inl e)) (fun e=>some (Sum.inr e))))
 (fun _=>
 some true)
 (fun e=>some e)
theorem RD (p0:List (List aj)) (p1:List (List aj)) (r:Bool) (h0:Bz p0 p1=some r):aT Tryz.prog 19 [.d ((eL 1 (eL 3 au)) p0),.d ((eL 1 (eL 3 au)) p1)] [] (.d (eB r)) []:=by
 unfold Bz at h0
 refine fn0 [0,1] Tryz.func19 U U U U U ?_
 refine sr (sa U (sn (sq (sr (sm U (s1 (len U U U (bN mZ)) (sm U (s1 (len U U U (bN mZ)) (s1 (bi U U dA) ?_)))))))))
 refine sn (cB h0 U (fun h0=>?_) (fun h0=>?_))
 ·have q:=si h0;subst q
  exact sr (sa U (sn (aM (bM (Wk.refl _) (bq U aW) U))))
 ·refine sk (SC.seqB h0 (fun y=>⟨mk 27 [],[]⟩) ?_ ?_)
  ·intro akg h1 h0
   obtain ⟨arF,h2,h1⟩:=ob h1
   refine sr (sa U (sn (SC.blk (SC.eH h2 (fun y=>⟨mk 27 [(0,.d ((eL 1 (eL 3 au)) p0)),(1,.d ((eL 1 (eL 3 au)) p1)),(5,.d (eI y))],[]⟩) (wq U) ?_))))
   intro n106
   rintro y94 aql h3 hv3
   refine sq (sr (sm U (sm U (s1 (len U U U (bN mZ)) (s1 (bi U U bB) (sn (cB h3 U (fun h3=>?_) (fun h3=>?_))))))))
   ·obtain ⟨ag7,hv102,h3⟩:=ob h3;obtain ⟨ag6,agt,h3⟩:=ob h3;obtain ⟨pG,abM,h3⟩:=ob h3
    refine sk (sq (SC.blk (sd (by kernel_rfl) (t1 aH (mv U) U (t1 aH (mv U) U (t1 aH (kV U U mZ ni (aB hv102).1 (bI (aB hv102).2) U) U (t1 aH (bK U (bY ni zk U)) U (t1 aH (mv U) U (t1 aH (mv U) U ?_)))))))))
    refine t1 aH (kV U U mZ ni (aB agt).1 (bI (aB agt).2) U) U (t1 aH (bK U (bY ni zk U)) U (Hg (Nj ag7 ag6 _ abM) wf U U U atV U (fun _=>rfl) (fun _=>rfl) (t1 aH (nt U) U (tn (by decide +kernel) (cB h3 U (fun h3=>?_) (fun h3=>?_))))))
    ·have q:=si h3;subst q;have q:_=_:=hv3;subst q;have q:=si h1;subst q;have q:=si h0;subst q
     exact sr (sa U (sn (aM (bM (Wk.refl _) (bq U aW) U))))
    ·refine bR ?_
     change SC _ _ _ _ _
     have q:=si h3;subst q
     exact aO (sm U (s1 (bi U U bH) (sa U (SO.nil (lf (wq U))))))
   ·have q:=si h3;subst q;have q:_=_:=hv3;subst q;have q:=si h1;subst q
    exact bZ (lf (wq U))
  ·intro _ h0
   have q:=si h0;subst q
   exact sr (sa U (sn (aM (bM (Wk.refl _) (bq U aW) U))))
noncomputable def mO (p0:aL) (p1:bG) (p2:List (List aj)) (p3:Int):Option Bool:=
 ah nX fun r93=>
 bif (!r93) then
 some false
 else
 ah (α:=Bool)
 (ah (uz p0) fun RO=>
 bif (RO != (0:Int)) then
 some true
 else
 ah (sK p0 p1) fun RN=>
 some (RN != (0:Int)))
 fun y98=>
 bif y98 then
 some true
 else
 ah (jU p0) fun pG=>
 ah (uH (aL.mk p0.Name (([]:List aA)++p0.aV) (([]:List Int)++p0.aR) pG (2:Int)) p2) fun aaB=>
 ah (nQ (aL.mk p0.Name (([]:List aA)++p0.aV) (([]:List Int)++p0.aR) pG (2:Int)) aaB) fun (JD,JC)=>
 ah (pI (aL.mk p0.Name (([]:List aA)++p0.aV) (([]:List Int)++p0.aR) pG (2:Int)) (bG.mk p1.Pred p1.aV p1.Order (-1:Int)) (ay.mk JD JC (0:Int) (0:Int))) fun (K7,asG,akS)=>
 ah (pI (aL.mk p0.Name (([]:List aA)++p0.aV) (([]:List Int)++p0.aR) pG (2:Int)) (bG.mk p1.Pred p1.aV p1.Order (Int.tmod (bL ((Int.tmod p3 (10:Int))+(10:Int))) (10:Int))) (ay.mk JD JC (0:Int) (0:Int))) fun (K6,asF,akR)=>
 ah (α:=Bool)
 (bif (akS != (0:Int)) then
 some true
 else
 bif (akR != (0:Int)) then
 some true
 else
 bif (decide ((K6.length:Int) > (Int.tmod (bL ((Int.tmod p3 (10:Int))+(10:Int))) (10:Int)))) then
 some true
 else
 bif (decide ((K6.length:Int) > (K7.length:Int))) then
 some true
 else
 bif decide (0≤(K6.length:Int)∧(K6.length:Int)≤(K7.length:Int)) then
 ah (Bz K6 (List.take (K6.length:Int).toNat K7)) fun Uv=>
 bif (!Uv) then
 some true
 else
 bif (decide ((K6.length:Int) < (Int.tmod (bL ((Int.tmod p3 (10:Int))+(10:Int))) (10:Int)))) then
 some ((K6.length:Int) != (K7.length:Int))
 else
 some false
 else none)
 fun ajT=>
 bif ajT then
 some false
 else
 bif decide ((([]:List aY).length+p1.Pred.length)*56≤room) then
 bif decide (((([]:List aY)++p1.Pred).length+[(aY.mk (6:Int) (0:Int) (0:Int) (aj.mk (0:Int) (0:UInt64) ([]:List UInt8)))].length)*56≤room) then
 ah (sK (aL.mk p0.Name (([]:List aA)++p0.aV) (([]:List Int)++p0.aR) pG (2:Int)) (bG.mk ((([]:List aY)++p1.Pred)++[(aY.mk (6:Int) (0:Int) (0:Int) (aj.mk (0:Int) (0:UInt64) ([]:List UInt8)))]) p1.aV p1.Order (-1:Int))) fun Ut=>
 bif (Ut != (0:Int)) then
 some true
 else
 ah (pI (aL.mk p0.Name (([]:List aA)++p0.aV) (([]:List Int)++p0.aR) pG (2:Int)) (bG.mk ((([]:List aY)++p1.Pred)++[(aY.mk (6:Int) (0:Int) (0:Int) (aj.mk (0:Int) (0:UInt64) ([]:List UInt8)))]) p1.aV p1.Order (-1:Int)) (ay.mk JD JC (0:Int) (0:Int))) fun (akP,Us,Ur)=>
 ah (α:=Bool)
 (bif (Ur==(0:Int)) then
 some ((bL ((K7.length:Int)+(akP.length:Int)))==(aaB.length:Int))
 else
 some false)
 fun ZJ=>
 some ZJ
 else none
 else none
theorem Ey (p0:aL) (p1:bG) (p2:List (List aj)) (p3:Int) (r:Bool) (h0:mO p0 p1 p2 p3=some r):aT Tryz.prog 5 [.d (bE p0),.d (dQ p1),.d ((eL 1 (eL 3 au)) p2),.d (eI p3)] [] (.d (eB r)) []:=by
 unfold mO at h0
 refine fn0 [0,1,2,3] Tryz.func5 U U U U U ?_
 obtain ⟨r93,abE,h0⟩:=ob h0
 refine sr (s1 (nN (k:=0) U U U) (s1 (nN (k:=1) U U U) (sa U (sn (sq (sr (c0 (LD _ abE) wf U U U cb8 U (fun _=>rfl) (fun _=>rfl) (s1 (nt U) (sn ?_)))))))))
 refine cB h0 U (fun h0=>?_) (fun h0=>?_)
 ·have q:=si h0;subst q
  exact sr (sa U (sn (aM (bM (aC (e':=[(8,.d (eB false))]) [] [] U) (bq U aW) U))))
 ·refine sk (sq (SC.dw h0 (fun y=>⟨mk 162 [(2,.d ((eL 1 (eL 3 au)) p2)),(3,.d (eI p3)),(4,.ref 0 0 0),(5,.ref 1 0 0),(34,.d (eB y))],[.box (.d (bE p0)),.box (.d (dQ p1))]⟩) ?_ ?_))
  ·intro akf h1
   obtain ⟨RO,abN,h1⟩:=ob h1
   refine aO (s1 (bK (v:=.d (bE p0)) U (ak oU uQ U U)) (c0 (KW p0 _ abN) wf U U U cb9 U (fun _=>rfl) (fun _=>rfl) (s1 (bi U U dA) (sm U (sp h1 (fun h1=>?_) (fun h1=>?_))))))
   ·have q:=si h1;subst q
    exact kw U (kw U (kw U (kw U (s1 (pkt U U) (SO.nil ((wq U)))))))
   ·obtain ⟨RN,amv,h1⟩:=ob h1;have q:=si h1;subst q
    exact gw U (bK (v:=.d (bE p0)) U (ak oU uQ U U)) (gw U (bK (v:=.d (dQ p1)) U (ak yD KE U U)) (c0 (DI p0 p1 _ amv) (ww U) U U U anU U (fun _=>rfl) (fun _=>rfl) (gw U (bi U U dA) (s1 (eT U U) (SO.nil ((wq U)))))))
  ·rintro y98 h0
   refine cB h0 U (fun h0=>?_) (fun h0=>?_)
   ·have q:=si h0;subst q
    exact sr (sa U (sn (aM (bM (aC (e':=[(8,.d (eB true))]) [] [] U) (bq U aW) U))))
   ·obtain ⟨pG,abM,h0⟩:=ob h0;obtain ⟨aaB,amu,h0⟩:=ob h0;obtain ⟨⟨JD,JC⟩,ams,h0⟩:=ob h0;obtain ⟨⟨K7,asG,akS⟩,amr,h0⟩:=ob h0;obtain ⟨⟨K6,asF,akR⟩,amq,h0⟩:=ob h0
    refine sk (sr (s1 (bK (v:=.d (bE p0)) U (ak oU uQ U U)) (cq [] [2,3,4,5] (Db p0 _ abM) wf U U U auc U U U U U U U U (s0 (jF U U (sB (d':=.d (bE (aL.mk p0.Name (([]:List aA)++p0.aV) (([]:List Int)++p0.aR) pG (2:Int)))) oU U U U U U U U)) (sn (sr (s1 (bK (v:=.d (bE (aL.mk p0.Name (([]:List aA)++p0.aV) (([]:List Int)++p0.aR) pG (2:Int)))) U (ak oU uQ U U)) (sm U (c0 (LG (aL.mk p0.Name (([]:List aA)++p0.aV) (([]:List Int)++p0.aR) pG (2:Int)) p2 _ amu) wf U U U aub U (fun _=>rfl) (fun _=>rfl) ?_)))))))))
    refine sa U (sn (sr (s1 (bK (v:=.d (bE (aL.mk p0.Name (([]:List aA)++p0.aV) (([]:List Int)++p0.aR) pG (2:Int)))) U (ak oU uQ U U)) (sm U (c0 (Bq (aL.mk p0.Name (([]:List aA)++p0.aV) (([]:List Int)++p0.aR) pG (2:Int)) aaB _ ams) wf U U U aoz U (fun _=>rfl) (fun _=>rfl) (sm U (s1 (ext U U) (s1 (ext U U) (sa U ?_)))))))))
    refine sa U (sn (sr (s1 (vg U (acv true)) (s1 (vg U (Tt (-1:Int) (dG.mk ([]:List UInt8) ([]:List UInt8) true))) (s1 (yA (k:=6) apT U) (s0 (jF U U (sB (d':=.d (mX (bQ.mk (-1:Int) (dG.mk ([]:List UInt8) ([]:List UInt8) true) (0:Int) false false (0:Int)))) Ug U U U U U U U)) (sn (sr (sm U ?_)))))))))
    refine s1 (bi (v:=.d (eI (Int.tmod p3 (10:Int)))) U U (fun X Y=>OC _ X Y p3 (10:Int) (by decide))) (s1 (bi U U bH) (s1 (bi (v:=.d (eI (Int.tmod (bL ((Int.tmod p3 (10:Int))+(10:Int))) (10:Int)))) U U (fun X Y=>OC _ X Y (bL ((Int.tmod p3 (10:Int))+(10:Int))) (10:Int) (by decide))) (sa U (sn (sr (s1 (bK (v:=.d (dQ p1)) U (ak yD KE U U)) (s1 (yA (k:=7) ac2 U) (s0 (jF U U (sB (d':=.d (dQ p1)) yD U U U U U U U)) (sn ?_)))))))))
    refine sr (s1 (far (k:=3) U LV dH U) (s0 (jF (b:=.d (eI (-1:Int))) U U (sB (d':=.d (dQ (bG.mk p1.Pred p1.aV p1.Order (-1:Int)))) dH U U U U U U U)) (sn (sr (s1 (bK (v:=.d (dQ p1)) U (ak yD KE U U)) (s1 (yA (k:=8) ac2 U) (s0 (jF U U (sB (d':=.d (dQ p1)) yD U U U U U U U)) (sn (sr ?_)))))))))
    refine sm U (s1 (far (k:=3) U LV dH U) (s0 (jF U U (sB (d':=.d (dQ (bG.mk p1.Pred p1.aV p1.Order (Int.tmod (bL ((Int.tmod p3 (10:Int))+(10:Int))) (10:Int))))) dH U U U U U U U)) (sn (sr (sm U (sm U (s1 (vg U (GI JD JC)) (s1 (nN (k:=9) U U U) (s1 (mki U aef) ?_)))))))))
    refine s1 (bK (v:=.d (bE (aL.mk p0.Name (([]:List aA)++p0.aV) (([]:List Int)++p0.aR) pG (2:Int)))) U (ak oU uQ U U)) (s1 (bK (v:=.d (dQ (bG.mk p1.Pred p1.aV p1.Order (-1:Int)))) U (ak yD KE U U)) (s1 (bK (v:=.d (mX (bQ.mk (-1:Int) (dG.mk ([]:List UInt8) ([]:List UInt8) true) (0:Int) false false (0:Int)))) U (ak Ug adO U U)) (cq [9] [] (xJ (aL.mk p0.Name (([]:List aA)++p0.aV) (([]:List Int)++p0.aR) pG (2:Int)) (bG.mk p1.Pred p1.aV p1.Order (-1:Int)) (ay.mk JD JC (0:Int) (0:Int)) _ amr) wf U U U aeA U U U U U U U U (sm U (s1 (ext U U) (s1 (ext U U) (s1 (ext U U) (sa U (sa U ?_)))))))))
    refine sa U (sn (sr (sm U (sm U (s1 (vg U (GI JD JC)) (s1 (nN (k:=10) U U U) (s1 (mki U aef) (s1 (bK (v:=.d (bE (aL.mk p0.Name (([]:List aA)++p0.aV) (([]:List Int)++p0.aR) pG (2:Int)))) U (ak oU uQ U U)) (s1 (bK (v:=.d (dQ (bG.mk p1.Pred p1.aV p1.Order (Int.tmod (bL ((Int.tmod p3 (10:Int))+(10:Int))) (10:Int))))) U (ak yD KE U U)) ?_)))))))))
    refine s1 (bK (v:=.d (mX (bQ.mk (-1:Int) (dG.mk ([]:List UInt8) ([]:List UInt8) true) (0:Int) false false (0:Int)))) U (ak Ug adO U U)) (cq [10] [] (xJ (aL.mk p0.Name (([]:List aA)++p0.aV) (([]:List Int)++p0.aR) pG (2:Int)) (bG.mk p1.Pred p1.aV p1.Order (Int.tmod (bL ((Int.tmod p3 (10:Int))+(10:Int))) (10:Int))) (ay.mk JD JC (0:Int) (0:Int)) _ amq) wf U U U aeA U U U U U U U U (sm U (s1 (ext U U) (s1 (ext U U) (s1 (ext U U) (sa U (sa U (sa U (sn ?_)))))))))
    refine sq (SC.dw h0 (fun y=>⟨mk 162 [(2,.d ((eL 1 (eL 3 au)) aaB)),(4,.ref 0 0 0),(5,.ref 1 0 0),(9,.d ((eL 1 eI) JD)),(10,.d ((eL 1 (eP kG)) JC)),(11,.ref 2 0 0),(12,.ref 3 0 0),(14,.d ((eL 1 (eL 3 au)) K7)),(123,.d (eB y))],[.box (.d (bE (aL.mk p0.Name (([]:List aA)++p0.aV) (([]:List Int)++p0.aR) pG (2:Int)))),.box (.d (dQ p1)),.box (.d (mX (bQ.mk (-1:Int) (dG.mk ([]:List UInt8) ([]:List UInt8) true) (0:Int) false false (0:Int)))),.box (.d (dQ (bG.mk p1.Pred p1.aV p1.Order (-1:Int))))]⟩) ?_ ?_)
    ·intro ar4 h1
     refine aO (sm U (s1 (bi U U dA) (sm U (sp h1 (fun h1=>?_) (fun h1=>?_)))))
     ·have q:=si h1;subst q
      refine kw U (kw U (s1 (pkt U U) (sm U (kw U (kw U (kw U (kw U (s1 (pkt U U) (sm U ?_)))))))))
      refine kw U (kw U (kw U (kw U (kw U (s1 (pkt U U) (sm U (kw U (kw U (kw U ?_)))))))))
      refine kw U (kw U (kw U (kw U (s1 (pkt U U) (sm U (kw U (kw U (kw U (kw U ?_)))))))))
      exact kw U (kw U (kw U (kw U (kw U (kw U (kw U (s1 (pkt U U) (SO.nil ((aC [0,1,6,7] [0,1,6,7] U))))))))))
     ·refine gw U (mv U) (gw U (bi U U dA) (s1 (eT U U) (sm U (sp h1 (fun h1=>?_) (fun h1=>?_)))))
      ·have q:=si h1;subst q
       refine kw U (kw U (kw U (kw U (s1 (pkt U U) (sm U (kw U (kw U (kw U (kw U ?_)))))))))
       refine kw U (s1 (pkt U U) (sm U (kw U (kw U (kw U (kw U (kw U (kw U (kw U ?_)))))))))
       refine s1 (pkt U U) (sm U (kw U (kw U (kw U (kw U (kw U (kw U (kw U (kw U ?_)))))))))
       exact kw U (kw U (kw U (s1 (pkt U U) (SO.nil ((aC [0,1,6,7] [0,1,6,7] U))))))
      ·refine gw U (mv U) (gw U (len U U U (bN mZ)) (gw U (mv U) (gw U (bi U U dx) (s1 (eT U U) (sm U (sp h1 (fun h1=>?_) (fun h1=>?_)))))))
       ·have q:=si h1;subst q
        refine kw U (kw U (kw U (kw U (kw U (s1 (pkt U U) (sm U (kw U (kw U (kw U ?_)))))))))
        refine kw U (kw U (kw U (kw U (s1 (pkt U U) (sm U (kw U (kw U (kw U (kw U ?_)))))))))
        exact kw U (kw U (kw U (kw U (kw U (kw U (kw U (s1 (pkt U U) (SO.nil ((aC [0,1,6,7] [0,1,6,7] U))))))))))
       ·refine gw U (mv U) (gw U (len U U U (bN mZ)) (gw U (mv U) (gw U (len U U U (bN mZ)) (gw U (bi U U dx) (s1 (eT U U) (sm U (sp h1 (fun h1=>?_) (fun h1=>?_))))))))
        ·have q:=si h1;subst q
         refine kw U (kw U (kw U (kw U (kw U (kw U (kw U (s1 (pkt U U) (sm U (kw U ?_)))))))))
         refine kw U (kw U (kw U (kw U (kw U (kw U (kw U (kw U (kw U (kw U ?_)))))))))
         exact s1 (pkt U U) (SO.nil ((aC [0,1,6,7] [0,1,6,7] U)))
        ·obtain ⟨SY,h1⟩:=gd h1;obtain ⟨Uv,amn,h1⟩:=ob h1
         refine gw U (mv U) (gw U (mv U) (gw U (mv U) (gw U (len U U U (bN mZ)) (gw U (NT U U U U (Hr mZ ni SY)) (c0 (RD K6 (List.take (K6.length:Int).toNat K7) _ amn) (ww U) U U U at7 U (fun _=>rfl) (fun _=>rfl) (gw U (nt U) (s1 (eT U U) (sm U (sp h1 (fun h1=>?_) (fun h1=>?_))))))))))
         ·have q:=si h1;subst q
          refine kw U (kw U (kw U (kw U (kw U (kw U (kw U (kw U (kw U (kw U ?_)))))))))
          exact kw U (s1 (pkt U U) (SO.nil ((aC [0,1,6,7] [0,1,6,7] U))))
         ·refine gw U (mv U) (gw U (len U U U (bN mZ)) (gw U (mv U) (gw U (bi U U bB) (gw U (mv U) (sp h1 (fun h1=>?_) (fun h1=>?_))))))
          ·have q:=si h1;subst q
           exact gw U (mv U) (gw U (len U U U (bN mZ)) (gw U (mv U) (gw U (len U U U (bN mZ)) (gw U (bi U U dA) (gw U (pkt U U) (s1 (eT U U) (SO.nil ((aC [0,1,6,7] [0,1,6,7] U)))))))))
          ·have q:=si h1;subst q
           exact kw U (kw U (kw U (kw U (kw U (gw U (eT U U) (s1 (eT U U) (SO.nil ((aC [0,1,6,7] [0,1,6,7] U)))))))))
    ·rintro ajT h0
     refine cB h0 U (fun h0=>?_) (fun h0=>?_)
     ·have q:=si h0;subst q
      exact sr (sa U (sn (aM (bM (aC (e':=[(8,.d (eB false))]) [] [] U) (bq U aW) U))))
     ·obtain ⟨anh,h0⟩:=gd h0;obtain ⟨ang,h0⟩:=gd h0;obtain ⟨Ut,amj,h0⟩:=ob h0
      refine sk (sr (s1 (bK (v:=.d (dQ (bG.mk p1.Pred p1.aV p1.Order (-1:Int)))) U (ak yD KE U U)) (s1 (yA (k:=4) ac2 U) (s0 (jF U U (sB (d':=.d (dQ (bG.mk p1.Pred p1.aV p1.Order (-1:Int)))) yD U U U U U U U)) (sn (sr (s1 (rX (k:=5) (ds:=List.map bg ([]:List aY)) (off:=0) (l':=([]:List aY).length) U M5 ab2 U U U U U U) (s1 (far (k:=0) U Qi Rh U) (s1 (bK U (ak Rh ahj U U)) ?_)))))))))
      refine s1 (app U U U U bc27 (aF (f:=bg) (xs:=([]:List aY)) (k:=6) U M5 ab2 U yg anh U)) (s1 (vg U (acr (6:Int))) (s1 (rX (k:=7) (ds:=List.map bg [(aY.mk (6:Int) (0:Int) (0:Int) (aj.mk (0:Int) (0:UInt64) ([]:List UInt8)))]) (off:=0) (l':=[(aY.mk (6:Int) (0:Int) (0:Int) (aj.mk (0:Int) (0:UInt64) ([]:List UInt8)))].length) U M5 ab2 U U (by rfl) U U U) (s1 (app U U U U bc27 (aF (f:=bg) (xs:=(([]:List aY)++p1.Pred)) (k:=8) U M5 ab2 U (dU (xs:=[(aY.mk (6:Int) (0:Int) (0:Int) (aj.mk (0:Int) (0:UInt64) ([]:List UInt8)))]) U) ang U)) (s1 (far (k:=0) U Qi Rh U) (s0 (jF U U (sB (d':=.agg [.slc 8 6 0 (((([]:List aY)++p1.Pred)++[(aY.mk (6:Int) (0:Int) (0:Int) (aj.mk (0:Int) (0:UInt64) ([]:List UInt8)))]).length) none,.d ((eL 1 eI) p1.aV),.d ((eL 2 aK) p1.Order),.d (eI (-1:Int))]) Rh U U U U U U U)) (sn (sq (sr (s1 (bK (v:=.d (bE (aL.mk p0.Name (([]:List aA)++p0.aV) (([]:List Int)++p0.aR) pG (2:Int)))) U (ak oU uQ U U)) ?_)))))))))
      refine s1 (bK (v:=.agg [.slc 8 6 0 (((([]:List aY)++p1.Pred)++[(aY.mk (6:Int) (0:Int) (0:Int) (aj.mk (0:Int) (0:UInt64) ([]:List UInt8)))]).length) none,.d ((eL 1 eI) p1.aV),.d ((eL 2 aK) p1.Order),.d (eI (-1:Int))]) U (ak yD KE U U)) (cq (args':=[.d (bE (aL.mk p0.Name (([]:List aA)++p0.aV) (([]:List Int)++p0.aR) pG (2:Int))),.agg [.slc 0 6 0 (((([]:List aY)++p1.Pred)++[(aY.mk (6:Int) (0:Int) (0:Int) (aj.mk (0:Int) (0:UInt64) ([]:List UInt8)))]).length) none,.d ((eL 1 eI) p1.aV),.d ((eL 2 aK) p1.Order),.d (eI (-1:Int))]]) (lF:=[.row 6 (List.map bg ((([]:List aY)++p1.Pred)++[(aY.mk (6:Int) (0:Int) (0:Int) (aj.mk (0:Int) (0:UInt64) ([]:List UInt8)))])) true]) [8] [] (aT.og (iX.keep (iX.YD (y:=.d (dQ (bG.mk ((([]:List aY)++p1.Pred)++[(aY.mk (6:Int) (0:Int) (0:Int) (aj.mk (0:Int) (0:UInt64) ([]:List UInt8)))]) p1.aV p1.Order (-1:Int)))) U (kW (fF U U U) (kX U (kX U (kX U wP)))) (AW.acL U (jX.cons (AW.refl _) (jX.cons (AW.refl _) (jX.cons (AW.refl _) (jX.cons (AW.refl _) jX.nil))))) (iX.nil _))) (fq [] [] (DI (aL.mk p0.Name (([]:List aA)++p0.aV) (([]:List Int)++p0.aR) pG (2:Int)) (bG.mk ((([]:List aY)++p1.Pred)++[(aY.mk (6:Int) (0:Int) (0:Int) (aj.mk (0:Int) (0:UInt64) ([]:List UInt8)))]) p1.aV p1.Order (-1:Int)) _ amj) U U U U U U U U)) wf U U U anU U U U U U U U U ?_)
      refine s1 (bi U U dA) (sn (cB h0 U (fun h0=>?_) (fun h0=>?_)))
      ·have q:=si h0;subst q
       exact sr (sa U (sn (aM (bM (aC (e':=[(8,.d (eB true))]) [] [] U) (bq U aW) U))))
      ·obtain ⟨⟨akP,Us,Ur⟩,ami,h0⟩:=ob h0
       refine sk (sr (sm U (sm U (s1 (vg U (GI JD JC)) (s1 (nN (k:=9) U U U) (s1 (mki U aef) (s1 (bK (v:=.d (bE (aL.mk p0.Name (([]:List aA)++p0.aV) (([]:List Int)++p0.aR) pG (2:Int)))) U (ak oU uQ U U)) (s1 (bK (v:=.agg [.slc 8 6 0 (((([]:List aY)++p1.Pred)++[(aY.mk (6:Int) (0:Int) (0:Int) (aj.mk (0:Int) (0:UInt64) ([]:List UInt8)))]).length) none,.d ((eL 1 eI) p1.aV),.d ((eL 2 aK) p1.Order),.d (eI (-1:Int))]) U (ak yD KE U U)) (s1 (bK (v:=.d (mX (bQ.mk (-1:Int) (dG.mk ([]:List UInt8) ([]:List UInt8) true) (0:Int) false false (0:Int)))) U (ak Ug adO U U)) ?_)))))))))
       refine cq (args':=[.iface 56 (.ref 0 0 0),.d (bE (aL.mk p0.Name (([]:List aA)++p0.aV) (([]:List Int)++p0.aR) pG (2:Int))),.agg [.slc 1 6 0 (((([]:List aY)++p1.Pred)++[(aY.mk (6:Int) (0:Int) (0:Int) (aj.mk (0:Int) (0:UInt64) ([]:List UInt8)))]).length) none,.d ((eL 1 eI) p1.aV),.d ((eL 2 aK) p1.Order),.d (eI (-1:Int))],.d (mX (bQ.mk (-1:Int) (dG.mk ([]:List UInt8) ([]:List UInt8) true) (0:Int) false false (0:Int)))]) (lF:=[.box (.d (aI (ay.mk JD JC (0:Int) (0:Int)))),.row 6 (List.map bg ((([]:List aY)++p1.Pred)++[(aY.mk (6:Int) (0:Int) (0:Int) (aj.mk (0:Int) (0:UInt64) ([]:List UInt8)))])) false]) [9,8] [] (aT.og (iX.keep (iX.keep (iX.YD (y:=.d (dQ (bG.mk ((([]:List aY)++p1.Pred)++[(aY.mk (6:Int) (0:Int) (0:Int) (aj.mk (0:Int) (0:UInt64) ([]:List UInt8)))]) p1.aV p1.Order (-1:Int)))) U (kW (fF U U U) (kX U (kX U (kX U wP)))) (AW.acL U (jX.cons (AW.refl _) (jX.cons (AW.refl _) (jX.cons (AW.refl _) (jX.cons (AW.refl _) jX.nil))))) (iX.keep (iX.nil _))))) (fq [0] [] (xJ (aL.mk p0.Name (([]:List aA)++p0.aV) (([]:List Int)++p0.aR) pG (2:Int)) (bG.mk ((([]:List aY)++p1.Pred)++[(aY.mk (6:Int) (0:Int) (0:Int) (aj.mk (0:Int) (0:UInt64) ([]:List UInt8)))]) p1.aV p1.Order (-1:Int)) (ay.mk JD JC (0:Int) (0:Int)) _ ami) U U U U U U U U)) wf U U U aeA U U U U U U U U ?_
       refine sm U (s1 (ext U U) (s1 (ext U U) (s1 (ext U U) (sa U (sa U (sa U (sn (SC.dw h0 (fun y=>⟨mk 162 [(8,.d (eB y))],[]⟩) ?_ ?_))))))))
       ·intro ar1 h1
        refine aO (sm U (s1 (bi U U bD) (sm U (sp h1 (fun h1=>?_) (fun h1=>?_)))))
        ·have q:=si h1;subst q
         refine gw U (mv U) (gw U (len U U U (bN mZ)) (gw U (mv U) (gw U (len U U U (bN mZ)) (gw U (bi U U bH) (gw U (mv U) (gw U (len U U U (bN mZ)) (gw U (bi U U bD) (s1 (pkt U U) (sa U ?_)))))))))
         exact SO.nil ((aC [] [] U))
        ·have q:=si h1;subst q
         refine kw U (kw U (kw U (kw U (kw U (kw U (kw U (kw U (s1 (eT U U) (sa U ?_)))))))))
         exact SO.nil ((aC [] [] U))
       ·rintro ZJ h0
        have q:=si h0;subst q
        exact aM (bM (Wk.refl _) (bq U aW) U)
end Lv
/- Laws of printed loops, taken off the goal. -/
namespace Lv
open Go
theorem bo {α β:Type} {o:Option α} {a:α} {f:α→Option β} {r:Option β} (h:o=some a) (k:f a=r):o.bind f=r:=by rw [h];exact k
theorem beY {Y E R:Type} {p:Option (Y⊕E)} {k:Y→Option R} {e:E→Option R} {y:Y} {r:Option R} (h:p=some (.inl y)) (q:k y=r):fP p k e=r:=by rw [h];exact q
theorem beE {Y E R:Type} {p:Option (Y⊕E)} {k:Y→Option R} {e:E→Option R} {x:E} {r:Option R} (h:p=some (.inr x)) (q:e x=r):fP p k e=r:=by rw [h];exact q
theorem bt {α:Type} {b:Bool} {x y r:α} (h:b=true) (k:x=r):(bif b then x else y)=r:=by rw [h];exact k
theorem bf {α:Type} {b:Bool} {x y r:α} (h:b=false) (k:y=r):(bif b then x else y)=r:=by rw [h];exact k
theorem gt {α:Type} {p:Prop} [Decidable p] {x y r:α} (h:p) (k:x=r):(bif decide p then x else y)=r:=by rw [decide_eq_true h];exact k
theorem QS {Y W R:Type} {B:Y→Option (Y⊕W)} {y0:Y} {w:W} {K:W→Option R} {r:Option R} (h:loop B y0=some w) (k:K w=r):Option.bind (Option.bind (loop B y0) (fun e=>some e)) K=r:=by rw [h];exact k
theorem TS {Y W E R:Type} {B:Y→Option (Y⊕(W⊕E))} {y0:Y} {w:W⊕E} {K:W→Option R} {F:E→Option R} {r:Option R} (h:loop B y0=some w) (k:Sum.elim K F w=r):
  fP (Option.bind (loop B y0) (Sum.elim (fun e=>some (Sum.inl e)) (fun e=>some (Sum.inr e)))) K F=r:=by
 rw [h]
 cases w with
 | inl x=>exact k
 | inr x=>exact k
theorem asK {Y W E:Type} {B:Y→Option (Y⊕(W⊕E))} {y0:Y} {w:W⊕E} {q:Option (W⊕E)} (h:loop B y0=some w) (k:some w=q):
  Option.bind (loop B y0) (Sum.elim (fun e=>some (Sum.inl e)) (fun e=>some (Sum.inr e)))=q:=by
 rw [h]
 cases w with
 | inl x=>exact k
 | inr x=>exact k
theorem J7 {Y W:Type} {B:Y→Option (Y⊕W)} (st:Nat→Y) (n:Nat) {w:W} {y0:Y} (h:∀i,i < n→B (st i)=some (.inl (st (i+1)))) (he:B (st n)=some (.inr w)) (h0:st 0=y0):loop B y0=some w:=h0▸BU st n h he
theorem lq2 {Y W α:Type} {B:Y→Option (Y⊕W)} (l:List α) (f:α→Option W) (fin:W) (st:Nat→Y) {y0:Y} (h:∀i (hi:i < l.length),B (st i)=some (match f (l[i]'hi) with | some w=>.inr w | none=>.inl (st (i+1)))) (he:B (st l.length)=some (.inr fin)) (h0:st 0=y0):
  loop B y0=some ((l.findSome? f).getD fin):=by
 subst h0
 have key:∀k i,i+k=l.length→loop B (st i)=some (((l.drop i).findSome? f).getD fin):=by
  intro k
  induction k with
  | zero=>
   intro i hi
   have:i=l.length:=by omega
   subst this
   rw [List.drop_length,fM he];rfl
  | succ k ih=>
   intro i hi
   have hi':i < l.length:=by omega
   have hb:=h i hi'
   rw [List.drop_eq_getElem_cons hi',List.findSome?_cons]
   cases hf:f (l[i]'hi') with
   | some w=>rw [hf] at hb;rw [fM hb];rfl
   | none=>rw [hf] at hb;rw [gB hb];exact ih (i+1) (by omega)
 exact key l.length 0 (by omega)
theorem lq3 {Y W α:Type} {B:Y→Option (Y⊕W)} (l:List α) (p:α→Bool) (e fin:W) (st:Nat→Y) {y0:Y} (h:∀i (hi:i < l.length),B (st i)=some (if p (l[i]'hi)=true then .inr e else .inl (st (i+1)))) (he:B (st l.length)=some (.inr fin)) (h0:st 0=y0):
  loop B y0=some (if l.any p=true then e else fin):=by
 rw [lq2 l (fun x=>if p x=true then some e else none) fin st (fun i hi=>by rw [h i hi];cases p l[i] <;> rfl) he h0]
 congr 1
 clear h he h0
 induction l with
 | nil=>rfl
 | cons x l ih=>rw [List.findSome?_cons,List.any_cons];cases hp:p x <;> simp_all
theorem lq4 {Y W α σ:Type} {B:Y→Option (Y⊕W)} (l:List α) (st:Nat→σ→Y) (step:σ→α→σ⊕W) (fin:σ→W) (I:Nat→σ→Prop) (s0:σ) {y0:Y}
  (h:∀i s (hi:i < l.length),I i s→B (st i s)=some (Sum.elim (fun s'=>.inl (st (i+1) s')) .inr (step s (l[i]'hi)))∧(∀s',step s (l[i]'hi)=.inl s'→I (i+1) s'))
  (he:∀s,I l.length s→B (st l.length s)=some (.inr (fin s))) (h1:I 0 s0) (h0:st 0 s0=y0):loop B y0=some (Cc step fin s0 l):=h0▸Yv l st step fin I h he s0 h1
theorem nat_ne {a b:Nat}:((a:Int) != (b:Int))=(a != b):=by rw [Bool.eq_iff_iff];simp only [bne_iff_ne,ne_eq];omega
theorem nmB {Y W:Type} {B:Y→Option (Y⊕W)} {y0:Y} {w:Option W} (h:∀B',B'=B→loop B' y0=w):loop B y0=w:=h B rfl
theorem u8F {p:UInt8→Prop} (h:∀n:_root_.Fin 256,p (UInt8.ofNat n.val)):∀c,p c:=fun c=>by
 have:=h ⟨c.toNat,c.toNat_lt⟩
 simpa using this
def gH {α W:Type} (f:Nat→α→Option W):Nat→List α→Option W
 | _,[]=>none
 | i,x::r=>match f i x with
  | some w=>some w
  | none=>gH f (i+1) r
theorem lq5 {Y W α:Type} {B:Y→Option (Y⊕W)} (l:List α) (f:Nat→α→Option W) (fin:W) (st:Nat→Y) {y0:Y} (h:∀i (hi:i < l.length),B (st i)=some (match f i (l[i]'hi) with | some w=>.inr w | none=>.inl (st (i+1)))) (he:B (st l.length)=some (.inr fin)) (h0:st 0=y0):
  loop B y0=some ((gH f 0 l).getD fin):=by
 subst h0
 have key:∀k i,i+k=l.length→loop B (st i)=some ((gH f i (l.drop i)).getD fin):=by
  intro k
  induction k with
  | zero=>
   intro i hi
   have:i=l.length:=by omega
   subst this
   rw [List.drop_length,fM he];rfl
  | succ k ih=>
   intro i hi
   have hi':i < l.length:=by omega
   have hb:=h i hi'
   rw [List.drop_eq_getElem_cons hi',gH]
   cases hf:f i (l[i]'hi') with
   | some w=>rw [hf] at hb;rw [fM hb];rfl
   | none=>rw [hf] at hb;rw [gB hb];exact ih (i+1) (by omega)
 exact key l.length 0 (by omega)
def ak5 {α:Type} (p:α→Bool) (l:List α):Int:=(gH (fun i x=>if p x=true then some (i:Int) else none) 0 l).getD (-1)
theorem Sy {α:Type} (p:α→Bool) (l:List α):decide (ak5 p l≥0)=l.any p:=by
 have key:∀(l:List α) (i:Nat),decide ((gH (fun i x=>if p x=true then some (i:Int) else none) i l).getD (-1)≥0)=l.any p:=by
  intro l
  induction l with
  | nil=>intro i;rfl
  | cons x r ih=>
   intro i
   rw [gH,List.any_cons]
   cases hp:p x with
   | true=>simp
   | false=>simpa using ih (i+1)
 exact key l 0
theorem lqX {α:Type} {B:Int→Option (Int⊕(Unit⊕Int))} (l:List α) (p:α→Bool) (h:∀i (hi:i < l.length),B (i:Int)=some (if p (l[i]'hi)=true then .inr (.inr (i:Int)) else .inl ((i+1:Nat):Int))) (he:B (l.length:Int)=some (.inr (.inl ()))):
  fP (Option.bind (loop B 0) (Sum.elim (fun e=>some (Sum.inl e)) (fun e=>some (Sum.inr e)))) (fun _=>some (-1:Int)) (fun e=>some e)=some (ak5 p l):=by
 refine TS (lq5 l (fun i x=>if p x=true then some (.inr (i:Int)) else none) (.inl ()) (fun i=>(i:Int)) (fun i hi=>by rw [h i hi];cases p l[i] <;> rfl) he rfl) ?_
 have key:∀(l:List α) (i:Nat),Sum.elim (fun _=>some (-1:Int)) (fun e=>some e) ((gH (fun i x=>if p x=true then some (.inr (i:Int)) else none) i l).getD (.inl ()))=some ((gH (fun i x=>if p x=true then some (i:Int) else none) i l).getD (-1)):=by
  intro l
  induction l with
  | nil=>intro i;rfl
  | cons x r ih=>
   intro i
   rw [gH,gH]
   cases hp:p x with
   | true=>simp
   | false=>simpa using ih (i+1)
 exact key l 0
end Lv
namespace Lv
open Go
variable [bJ]
omit [bJ] in
def nV (R:Nat) (x:aj):Prop:=(-9223372036854775808≤x.Kind∧x.Kind < 9223372036854775808)∧True∧(x.S.length≤R)∧True
omit [bJ] in
def BO (R:Nat) (x:aA):Prop:=(x.Name.length≤R)∧(-9223372036854775808≤x.Kind∧x.Kind < 9223372036854775808)∧(-9223372036854775808≤x.Max∧x.Max < 9223372036854775808)∧True∧(nV R x.Default)∧True
omit [bJ] in
def Cz (R:Nat) (x:aX):Prop:=(-9223372036854775808≤x.Col∧x.Col < 9223372036854775808)∧True∧True
omit [bJ] in
def El (R:Nat) (x:bT):Prop:=(x.Name.length≤R)∧(x.Parts.length*16≤R∧∀y∈x.Parts,(Cz R y))∧(x.Extra.length*8≤R∧∀y∈x.Extra,(-9223372036854775808≤y∧y < 9223372036854775808))∧True∧True∧(-9223372036854775808≤x.Tree∧x.Tree < 9223372036854775808)∧True
omit [bJ] in
def Ej (R:Nat) (x:aL):Prop:=(x.Name.length≤R)∧(x.aV.length*72≤R∧∀y∈x.aV,(BO R y))∧(x.aR.length*8≤R∧∀y∈x.aR,(-9223372036854775808≤y∧y < 9223372036854775808))∧(x.bn.length*80≤R∧∀y∈x.bn,(El R y))∧(-9223372036854775808≤x.Tree∧x.Tree < 9223372036854775808)∧True
omit [bJ] in
def Ei (R:Nat) (x:aY):Prop:=(-9223372036854775808≤x.Kind∧x.Kind < 9223372036854775808)∧(-9223372036854775808≤x.Col∧x.Col < 9223372036854775808)∧(-9223372036854775808≤x.Op∧x.Op < 9223372036854775808)∧(nV R x.Val)∧True
omit [bJ] in
def BN (R:Nat) (x:bG):Prop:=(x.Pred.length*56≤R∧∀y∈x.Pred,(Ei R y))∧(x.aV.length*8≤R∧∀y∈x.aV,(-9223372036854775808≤y∧y < 9223372036854775808))∧(x.Order.length*16≤R∧∀y∈x.Order,(Cz R y))∧(-9223372036854775808≤x.Limit∧x.Limit < 9223372036854775808)∧True
end Lv
