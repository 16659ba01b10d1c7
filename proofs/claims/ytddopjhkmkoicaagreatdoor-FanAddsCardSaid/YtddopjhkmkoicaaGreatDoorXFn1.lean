/- Part of the proof of a law: functions and their walks. -/
import Derived.Test.YtddopjhkmkoicaaGreatDoorXFn0
namespace Lv
open Go Go.Proofs
set_option linter.unusedVariables false
set_option linter.unusedSimpArgs false
set_option linter.unusedSectionVars false
set_option maxRecDepth 100000
variable [BaseTab] [TabOk]
noncomputable def gI (p0 : bL) (p1 : ApiIndex) (p2 : List au) (p3 : List ay) (p4 : List aX) : Option ((List ay)) :=
 Option.bind (pR p1.Tree p0 p2 p3 p4) fun _ =>
 bif p1.Ready then
 Option.bind (om p1.Tree p0.Key (p2 ++ [(au.mk (1 : Int) p1.Tree p0)]) p3 p4) fun _ =>
 some (p3 ++ [(ay.mk p1.Tree (aU.mk p0.Key (p0.Key ++ ([0] : List UInt8)) false) true)])
 else
 some p3
theorem oI (p0 : bL) (p1 : ApiIndex) (p2 : List au) (p3 : List ay) (p4 : List aX) (r : (List ay)) (h0 : gI p0 p1 p2 p3 p4 = some r) : aL Tryz.prog 70 [.d (bX p0), .ref 0 0 0, .ref 1 0 0] [.box (.ref 2 0 0), .box (.d (eApiIndex p1)), .box (.agg [.slc 3 9 0 p2.length none, .slc 4 5 0 p3.length none, .slc 5 4 0 p4.length none]), .row 9 (List.map aJ p2) true, .row 5 (List.map aK p3) true, .row 4 (List.map bg p4) true] (.tuple []) [.box (.ref 2 0 0), .box (.d (eApiIndex p1)), .box (.agg [.slc 6 9 0 ((p2 ++ [(au.mk (1 : Int) p1.Tree p0)]).length) none, .slc 7 5 0 r.length none, .slc 5 4 0 p4.length none]), .dead, .dead, .row 4 (List.map bg p4) true, .row 9 (List.map aJ (p2 ++ [(au.mk (1 : Int) p1.Tree p0)])) true, .row 5 (List.map aK r) true] := by
 unfold gI at h0
 refine fn0 [0, 1, 2] Tryz.func70 rfl rfl rfl rfl rfl ?_
 obtain ⟨_, G7, h0⟩ := ob h0
 refine sr (s1 (nH (k := 6) rfl rfl rfl) (sn (sr (s1 (aS rfl (aj Jg Jh rfl rfl)) (s1 (far (k := 5) rfl KN bO rfl) (s1 (aS rfl (aj bO dW rfl rfl)) (s1 (aS (v := .d (bX p0)) rfl (aj xQ CS rfl rfl)) (cq [2, 3, 4, 5] [7] (DC p1.Tree p0 p2 p3 p4 _ G7) wf rfl rfl rfl Yc rfl rfl rfl rfl rfl rfl rfl rfl (sn ?_)))))))))
 refine sr (s1 (far (k := 4) rfl O6 jV rfl) (s1 (aS rfl (aj jV zD rfl rfl)) (sn (cB h0 rfl (fun h0 => ?_) (fun h0 => ?_)))))
 ·obtain ⟨_, hq7, h0⟩ := ob h0; have q := si h0; subst q
  exact SC.region (s1 (aS rfl (aj Jg Jh rfl rfl)) (s1 (far (k := 5) rfl KN bO rfl) (s1 (aS rfl (aj bO dW rfl rfl)) (s1 (far (k := 2) rfl yQ eT rfl) (s1 (aS rfl (aj eT jy rfl rfl)) (cq [2, 7, 4, 5] [8] (Cg p1.Tree p0.Key (p2 ++ [(au.mk (1 : Int) p1.Tree p0)]) p3 p4 _ hq7) wf rfl rfl rfl acV rfl rfl rfl rfl rfl rfl rfl rfl (SO.nil (kG (Wk.trans (wq (e' := []) rfl) (wc (e' := []) [0, 1, 2, 3, 4, 5, 7, 8] [0, 1, 2, 3, 4, 5] (by kernel_rfl) rfl (by kernel_rfl))) aG rfl))))))))
 ·have q := si h0; subst q
  exact SC.skip (kG (Wk.trans (wq (e' := []) rfl) (Wk.trans (Wk.move (e' := []) (os := [.box (.ref 2 0 0), .box (.d (eApiIndex p1)), .box (.agg [.slc 7 9 0 ((p2 ++ [(au.mk (1 : Int) p1.Tree p0)]).length) none, .slc 8 5 0 p3.length none, .slc 5 4 0 p4.length none]), .dead, .row 5 (List.map aK p3) true, .row 4 (List.map bg p4) true, .box (.d (bX p0)), .row 9 (List.map aJ (p2 ++ [(au.mk (1 : Int) p1.Tree p0)])) true]) (o := .row 5 (List.map aK p3) true) (σ' := [.box (.ref 2 0 0), .box (.d (eApiIndex p1)), .box (.agg [.slc 7 9 0 ((p2 ++ [(au.mk (1 : Int) p1.Tree p0)]).length) none, .slc 8 5 0 p3.length none, .slc 5 4 0 p4.length none]), .dead, .dead, .row 4 (List.map bg p4) true, .box (.d (bX p0)), .row 9 (List.map aJ (p2 ++ [(au.mk (1 : Int) p1.Tree p0)])) true, .row 5 (List.map aK p3) true]) 4 (Nat.le_of_ble_eq_true rfl) rfl rfl rfl rfl) (wc (e' := []) [0, 1, 2, 3, 4, 5, 7, 8] [0, 1, 2, 3, 4, 5] (by kernel_rfl) rfl (by kernel_rfl)))) aG rfl)
noncomputable def iD (p0 : ApiTable) (p1 : ApiIndex) (p2 : iY) (p3 : iY) (p4 : List au) (p5 : List ay) (p6 : List aX) : Option ((List au) × (List ay) × (List aX)) :=
 Option.bind (α := (List UInt8) × dN)
 (Option.bind (fI p2) fun _ =>
 bif (decide ((p2.row.length : Int) > (0 : Int))) then
 Option.bind (kX p0 p1 p2.row) fun (UD, abk) =>
 Option.bind (iq p0 p1 p2.row) fun (ae7, alY, alX) =>
 some (ae7, abk)
 else
 some (([] : List UInt8), (dN.mk ([] : List UInt8) ([] : List UInt8))))
 fun (Ad, sV) =>
 Option.bind (α := (List UInt8) × Bool × dN)
 (Option.bind (fI p3) fun _ =>
 bif (decide ((p3.row.length : Int) > (0 : Int))) then
 Option.bind (kX p0 p1 p3.row) fun (alW, abh) =>
 Option.bind (iq p0 p1 p3.row) fun (ae6, ae5, alV) =>
 some (ae6, ae5, abh)
 else
 some (([] : List UInt8), false, (dN.mk ([] : List UInt8) ([] : List UInt8))))
 fun (FP, FN, gK) =>
 bif (o8 sV gK) then
 some (p4, p5, p6)
 else
 Option.bind (α := (List au) × (List ay))
 (Option.bind (α := Bool)
 (Option.bind (fI p2) fun _ =>
 bif (decide ((p2.row.length : Int) > (0 : Int))) then
 some (sV.Key != gK.Key)
 else
 some false)
 fun adV =>
 bif adV then
 Option.bind (gI (bL.mk (0 : UInt64) (2 : Int) sV.Key (0 : UInt64) ([] : List UInt8) (0 : Int) (0 : UInt64)) p1 p4 p5 p6) fun Xy =>
 some ((p4 ++ [(au.mk (1 : Int) p1.Tree (bL.mk (0 : UInt64) (2 : Int) sV.Key (0 : UInt64) ([] : List UInt8) (0 : Int) (0 : UInt64)))]), Xy)
 else
 some (p4, p5))
 fun (xO, FM) =>
 Option.bind (fI p3) fun _ =>
 bif (!(decide ((p3.row.length : Int) > (0 : Int)))) then
 some (xO, FM, p6)
 else
 Option.bind (gI (bL.mk (0 : UInt64) (1 : Int) gK.Key (0 : UInt64) gK.Val (0 : Int) (0 : UInt64)) p1 xO FM p6) fun Dk =>
 Option.bind (α := Bool)
 (bif p1.Ready then
 bif p1.Unique then
 bif (!FN) then
 Option.bind (fI p2) fun _ =>
 bif (decide ((p2.row.length : Int) > (0 : Int))) then
 some (!(Ad == FP))
 else
 some true
 else
 some false
 else
 some false
 else
 some false)
 fun adU =>
 bif adU then
 Option.bind (vP FP) fun wD =>
 bif decide ((Dk.length + [(ay.mk p1.Tree wD false)].length) * 56 ≤ room) then
 bif decide ((p6.length + [(aX.mk p1.Tree wD)].length) * 48 ≤ room) then
 some ((xO ++ [(au.mk (1 : Int) p1.Tree (bL.mk (0 : UInt64) (1 : Int) gK.Key (0 : UInt64) gK.Val (0 : Int) (0 : UInt64)))]), (Dk ++ [(ay.mk p1.Tree wD false)]), (p6 ++ [(aX.mk p1.Tree wD)]))
 else none
 else none
 else
 some ((xO ++ [(au.mk (1 : Int) p1.Tree (bL.mk (0 : UInt64) (1 : Int) gK.Key (0 : UInt64) gK.Val (0 : Int) (0 : UInt64)))]), Dk, p6)
theorem zJ (p0 : ApiTable) (p1 : ApiIndex) (p2 : iY) (p3 : iY) (p4 : List au) (p5 : List ay) (p6 : List aX) (r : (List au) × (List ay) × (List aX)) (h0 : iD p0 p1 p2 p3 p4 p5 p6 = some r) : aL Tryz.prog 35 [.ref 0 0 0, .d (eApiTable p0), .d (eApiIndex p1), .d (aC p2), .d (aC p3)] [.box (.agg [.slc 1 9 0 p4.length none, .slc 2 5 0 p5.length none, .slc 3 4 0 p6.length none]), .row 9 (List.map aJ p4) true, .row 5 (List.map aK p5) true, .row 4 (List.map bg p6) true] (.tuple []) [.box (.agg [.slc 4 9 0 r.1.length none, .slc 5 5 0 r.2.1.length none, .slc 6 4 0 r.2.2.length none]), .dead, .dead, .dead, .row 9 (List.map aJ r.1) true, .row 5 (List.map aK r.2.1) true, .row 4 (List.map bg r.2.2) true] := by
 unfold iD at h0
 refine fn0 [0, 1, 2, 3, 4] Tryz.func35 rfl rfl rfl rfl rfl ?_
 refine sr (s1 (nH (k := 4) rfl rfl rfl) (s1 (nH (k := 5) rfl rfl rfl) (s1 (nH (k := 6) rfl rfl rfl) (s1 (nH (k := 7) rfl rfl rfl) (s1 (nH (k := 8) rfl rfl rfl) (sn (sr (s1 (qV (k := 9) P6 rfl) (s1 (qV (k := 10) P6 rfl) ?_)))))))))
 refine sn (sr (s1 (ig (v := .d (eS ([] : List UInt8))) rfl) (s1 (ig (v := .d (eS ([] : List UInt8))) rfl) (sn (sr (sa rfl (sn (SC.bJ h0 (fun y => ⟨mk 131 [(5, .ref 4 0 0), (6, .ref 5 0 0), (7, .ref 6 0 0), (8, .ref 7 0 0), (9, .ref 8 0 0), (10, .ref 9 0 0), (11, .ref 10 0 0), (12, .d (eS y.1)), (13, .d (eS ([] : List UInt8))), (14, .d (eB false))], [.box (.agg [.slc 1 9 0 p4.length none, .slc 2 5 0 p5.length none, .slc 3 4 0 p6.length none]), .row 9 (List.map aJ p4) true, .row 5 (List.map aK p5) true, .row 4 (List.map bg p6) true, .box (.ref 0 0 0), .box (.d (eApiTable p0)), .box (.d (eApiIndex p1)), .box (.d (aC p2)), .box (.d (aC p3)), .box (.d (bG y.2)), .box (.d (bG (dN.mk ([] : List UInt8) ([] : List UInt8))))]⟩) ?_ ?_))))))))
 ·intro als h1
  obtain ⟨_, agJ, h1⟩ := ob h1
  refine sr (s1 (aS (v := .d (aC p2)) rfl (aj zA EU rfl rfl)) (c0 (fB p2 _ agJ) wf rfl rfl rfl Nl rfl (fun _ => rfl) (fun _ => rfl) (sn (cB h1 rfl (fun h1 => ?_) (fun h1 => ?_)))))
  ·obtain ⟨⟨UD, abk⟩, Vq, h1⟩ := ob h1; obtain ⟨⟨ae7, alY, alX⟩, agH, h1⟩ := ob h1; have q := si h1; subst q
   refine sr (s1 (aS (v := .d (eApiTable p0)) rfl (aj uE vk rfl rfl)) (s1 (aS (v := .d (eApiIndex p1)) rfl (aj wu F8 rfl rfl)) (s1 (far (k := 0) rfl Hf zC rfl) (s1 (aS rfl (aj zC J3 rfl rfl)) (cq [] [11] (xg p0 p1 p2.row _ Vq) wf rfl rfl rfl ahM rfl rfl rfl rfl rfl rfl rfl rfl (sm rfl (s1 (ext rfl rfl) (s1 (ext rfl rfl) (s0 (fJ rfl rfl (sB (d' := .d (bG abk)) zO rfl rfl rfl rfl rfl rfl rfl)) ?_)))))))))
   refine sn (SC.region (s1 (aS (v := .d (eApiTable p0)) rfl (aj uE vk rfl rfl)) (s1 (aS (v := .d (eApiIndex p1)) rfl (aj wu F8 rfl rfl)) (s1 (far (k := 0) rfl Hf zC rfl) (s1 (aS rfl (aj zC J3 rfl rfl)) (c0 (qD p0 p1 p2.row _ agH) wf rfl rfl rfl acN rfl (fun _ => rfl) (fun _ => rfl) (sm rfl (s1 (ext rfl rfl) (s1 (ext rfl rfl) ?_)))))))))
   exact s1 (ext rfl rfl) (sa rfl (SO.nil ((wc [0, 1, 2, 3, 4, 5, 6, 7, 8, 9, 10] [0, 1, 2, 3, 4, 5, 6, 7, 8, 9, 10] (by kernel_rfl) rfl (by kernel_rfl)))))
  ·have q := si h1; subst q
   exact SC.skip ((wq rfl))
 ·rintro ⟨Ad, sV⟩ h0
  refine SC.bJ h0 (fun y => ⟨mk 131 [(5, .ref 4 0 0), (7, .ref 5 0 0), (8, .ref 6 0 0), (9, .ref 7 0 0), (10, .ref 8 0 0), (11, .ref 9 0 0), (12, .d (eS Ad)), (13, .d (eS y.1)), (14, .d (eB y.2.1))], [.box (.agg [.slc 1 9 0 p4.length none, .slc 2 5 0 p5.length none, .slc 3 4 0 p6.length none]), .row 9 (List.map aJ p4) true, .row 5 (List.map aK p5) true, .row 4 (List.map bg p6) true, .box (.ref 0 0 0), .box (.d (eApiIndex p1)), .box (.d (aC p2)), .box (.d (aC p3)), .box (.d (bG sV)), .box (.d (bG y.2.2))]⟩) ?_ ?_
  ·intro alp h1
   obtain ⟨_, agG, h1⟩ := ob h1
   refine sr (s1 (aS (v := .d (aC p3)) rfl (aj zA EU rfl rfl)) (c0 (fB p3 _ agG) wf rfl rfl rfl Nl rfl (fun _ => rfl) (fun _ => rfl) (sn (cB h1 rfl (fun h1 => ?_) (fun h1 => ?_)))))
   ·obtain ⟨⟨alW, abh⟩, agF, h1⟩ := ob h1; obtain ⟨⟨ae6, ae5, alV⟩, agE, h1⟩ := ob h1; have q := si h1; subst q
    refine sr (s1 (aS (v := .d (eApiTable p0)) rfl (aj uE vk rfl rfl)) (s1 (aS (v := .d (eApiIndex p1)) rfl (aj wu F8 rfl rfl)) (s1 (far (k := 0) rfl Hf zC rfl) (s1 (aS rfl (aj zC J3 rfl rfl)) (cq [] [11] (xg p0 p1 p3.row _ agF) wf rfl rfl rfl ahM rfl rfl rfl rfl rfl rfl rfl rfl (sm rfl (s1 (ext rfl rfl) (s1 (ext rfl rfl) (s0 (fJ rfl rfl (sB (d' := .d (bG abh)) zO rfl rfl rfl rfl rfl rfl rfl)) ?_)))))))))
    refine sn (SC.region (s1 (aS (v := .d (eApiTable p0)) rfl (aj uE vk rfl rfl)) (s1 (aS (v := .d (eApiIndex p1)) rfl (aj wu F8 rfl rfl)) (s1 (far (k := 0) rfl Hf zC rfl) (s1 (aS rfl (aj zC J3 rfl rfl)) (c0 (qD p0 p1 p3.row _ agE) wf rfl rfl rfl acN rfl (fun _ => rfl) (fun _ => rfl) (sm rfl (s1 (ext rfl rfl) (s1 (ext rfl rfl) ?_)))))))))
    exact s1 (ext rfl rfl) (sa rfl (sa rfl (SO.nil ((wc [0, 1, 2, 3, 4, 6, 7, 8, 9, 10] [0, 1, 2, 3, 4, 6, 7, 8, 9, 10] (by kernel_rfl) rfl (by kernel_rfl))))))
   ·have q := si h1; subst q
    exact SC.skip ((wc [0, 1, 2, 3, 4, 6, 7, 8, 9, 10] [0, 1, 2, 3, 4, 6, 7, 8, 9, 10] (by kernel_rfl) rfl (by kernel_rfl)))
  ·rintro ⟨FP, FN, gK⟩ h0
   refine sr (s1 (mkf rfl rfl) (sa rfl (sn (sq (sr (s1 (aS (v := .d (bG sV)) rfl (aj zO L9 rfl rfl)) (s1 (aS (v := .d (bG gK)) rfl (aj zO L9 rfl rfl)) (s1 (bi (v := .d (eB (o8 sV gK))) rfl rfl (fun X Y => Ck X Y sV gK)) (sn ?_)))))))))
   refine cB h0 rfl (fun h0 => ?_) (fun h0 => ?_)
   ·have q := si h0; subst q
    exact SC.ret (aV (Wk.trans (wq (e' := []) rfl) (Wk.trans (Wk.move (e' := []) (os := [.box (.agg [.slc 10 9 0 p4.length none, .slc 2 5 0 p5.length none, .slc 3 4 0 p6.length none]), .row 9 (List.map aJ p4) true, .row 5 (List.map aK p5) true, .row 4 (List.map bg p6) true, .box (.ref 0 0 0), .box (.d (eApiIndex p1)), .box (.d (aC p2)), .box (.d (aC p3)), .box (.d (bG sV)), .box (.d (bG gK))]) (o := .row 9 (List.map aJ p4) true) (σ' := [.box (.agg [.slc 10 9 0 p4.length none, .slc 2 5 0 p5.length none, .slc 3 4 0 p6.length none]), .dead, .row 5 (List.map aK p5) true, .row 4 (List.map bg p6) true, .box (.ref 0 0 0), .box (.d (eApiIndex p1)), .box (.d (aC p2)), .box (.d (aC p3)), .box (.d (bG sV)), .box (.d (bG gK)), .row 9 (List.map aJ p4) true]) 1 (Nat.le_of_ble_eq_true rfl) rfl rfl rfl rfl) (Wk.trans (Wk.move (e' := []) (os := [.box (.agg [.slc 10 9 0 p4.length none, .slc 11 5 0 p5.length none, .slc 3 4 0 p6.length none]), .dead, .row 5 (List.map aK p5) true, .row 4 (List.map bg p6) true, .box (.ref 0 0 0), .box (.d (eApiIndex p1)), .box (.d (aC p2)), .box (.d (aC p3)), .box (.d (bG sV)), .box (.d (bG gK)), .row 9 (List.map aJ p4) true]) (o := .row 5 (List.map aK p5) true) (σ' := [.box (.agg [.slc 10 9 0 p4.length none, .slc 11 5 0 p5.length none, .slc 3 4 0 p6.length none]), .dead, .dead, .row 4 (List.map bg p6) true, .box (.ref 0 0 0), .box (.d (eApiIndex p1)), .box (.d (aC p2)), .box (.d (aC p3)), .box (.d (bG sV)), .box (.d (bG gK)), .row 9 (List.map aJ p4) true, .row 5 (List.map aK p5) true]) 2 (Nat.le_of_ble_eq_true rfl) rfl rfl rfl rfl) (Wk.trans (Wk.move (e' := []) (os := [.box (.agg [.slc 10 9 0 p4.length none, .slc 11 5 0 p5.length none, .slc 12 4 0 p6.length none]), .dead, .dead, .row 4 (List.map bg p6) true, .box (.ref 0 0 0), .box (.d (eApiIndex p1)), .box (.d (aC p2)), .box (.d (aC p3)), .box (.d (bG sV)), .box (.d (bG gK)), .row 9 (List.map aJ p4) true, .row 5 (List.map aK p5) true]) (o := .row 4 (List.map bg p6) true) (σ' := [.box (.agg [.slc 10 9 0 p4.length none, .slc 11 5 0 p5.length none, .slc 12 4 0 p6.length none]), .dead, .dead, .dead, .box (.ref 0 0 0), .box (.d (eApiIndex p1)), .box (.d (aC p2)), .box (.d (aC p3)), .box (.d (bG sV)), .box (.d (bG gK)), .row 9 (List.map aJ p4) true, .row 5 (List.map aK p5) true, .row 4 (List.map bg p6) true]) 3 (Nat.le_of_ble_eq_true rfl) rfl rfl rfl rfl) (wc (e' := []) [0, 1, 2, 3, 10, 11, 12] [0, 1, 2, 3] (by kernel_rfl) rfl (by kernel_rfl)))))) aG rfl)
   ·refine sk (SC.bJ h0 (fun y => ⟨mk 131 [(5, .ref 4 0 0), (7, .ref 5 0 0), (8, .ref 6 0 0), (9, .ref 7 0 0), (11, .ref 8 0 0), (12, .d (eS Ad)), (13, .d (eS FP)), (14, .d (eB FN)), (15, .fn (.func 70) [] [.ref 4 0 0, .ref 5 0 0])], [.box (.agg [.slc 9 9 0 y.1.length none, .slc 10 5 0 y.2.length none, .slc 3 4 0 p6.length none]), .dead, .dead, .row 4 (List.map bg p6) true, .box (.ref 0 0 0), .box (.d (eApiIndex p1)), .box (.d (aC p2)), .box (.d (aC p3)), .box (.d (bG gK)), .row 9 (List.map aJ y.1) true, .row 5 (List.map aK y.2) true]⟩) ?_ ?_)
    ·intro aaX h1
     refine SC.bJ h1 (fun y => ⟨mk 131 [(5, .ref 4 0 0), (7, .ref 5 0 0), (8, .ref 6 0 0), (9, .ref 7 0 0), (10, .ref 8 0 0), (11, .ref 9 0 0), (12, .d (eS Ad)), (13, .d (eS FP)), (14, .d (eB FN)), (15, .fn (.func 70) [] [.ref 4 0 0, .ref 5 0 0]), (67, .d (eB y))], [.box (.agg [.slc 1 9 0 p4.length none, .slc 2 5 0 p5.length none, .slc 3 4 0 p6.length none]), .row 9 (List.map aJ p4) true, .row 5 (List.map aK p5) true, .row 4 (List.map bg p6) true, .box (.ref 0 0 0), .box (.d (eApiIndex p1)), .box (.d (aC p2)), .box (.d (aC p3)), .box (.d (bG sV)), .box (.d (bG gK))]⟩) ?_ ?_
     ·intro akD h2
      obtain ⟨_, Vo, h2⟩ := ob h2
      refine SC.region (s1 (aS (v := .d (aC p2)) rfl (aj zA EU rfl rfl)) (c0 (fB p2 _ Vo) wf rfl rfl rfl Nl rfl (fun _ => rfl) (fun _ => rfl) (sm rfl (sp h2 (fun h2 => ?_) (fun h2 => ?_)))))
      ·have q := si h2; subst q
       exact gw rfl (far (k := 0) rfl FB eT rfl) (gw rfl (aS rfl (aj eT jy rfl rfl)) (gw rfl (far (k := 0) rfl FB eT rfl) (gw rfl (aS rfl (aj eT jy rfl rfl)) (gw rfl (bi rfl rfl Jr) (s1 (pkt rfl rfl) (SO.nil ((wq rfl))))))))
      ·have q := si h2; subst q
       exact kw rfl (kw rfl (kw rfl (kw rfl (kw rfl (s1 (dB rfl rfl) (SO.nil ((wq rfl))))))))
     ·rintro adV h1
      refine cB h1 rfl (fun h1 => ?_) (fun h1 => ?_)
      ·obtain ⟨Xy, agA, h1⟩ := ob h1; have q := si h1; subst q
       exact SC.region (sm rfl (s1 (far (k := 0) rfl FB eT rfl) (s1 (aS rfl (aj eT jy rfl rfl)) (s1 (l8 rfl (Nr (2 : Int) sV.Key)) (cq [4, 5, 0, 1, 2, 3] [10, 11] (oI (bL.mk (0 : UInt64) (2 : Int) sV.Key (0 : UInt64) ([] : List UInt8) (0 : Int) (0 : UInt64)) p1 p4 p5 p6 _ agA) wf rfl rfl rfl ahL rfl rfl rfl rfl rfl rfl rfl rfl (SO.nil ((Wk.trans (wq (e' := [(5, .ref 4 0 0), (7, .ref 5 0 0), (8, .ref 6 0 0), (9, .ref 7 0 0), (11, .ref 9 0 0), (12, .d (eS Ad)), (13, .d (eS FP)), (14, .d (eB FN)), (15, .fn (.func 70) [] [.ref 4 0 0, .ref 5 0 0])]) rfl) (wc [0, 1, 2, 3, 4, 5, 6, 7, 9, 10, 11] [0, 1, 2, 3, 4, 5, 6, 7, 9, 4, 5] (by kernel_rfl) rfl (by kernel_rfl))))))))))
      ·have q := si h1; subst q
       exact SC.skip ((Wk.trans (wq (e' := [(5, .ref 4 0 0), (7, .ref 5 0 0), (8, .ref 6 0 0), (9, .ref 7 0 0), (11, .ref 9 0 0), (12, .d (eS Ad)), (13, .d (eS FP)), (14, .d (eB FN)), (15, .fn (.func 70) [] [.ref 4 0 0, .ref 5 0 0])]) rfl) (Wk.trans (Wk.move (e' := [(5, .ref 4 0 0), (7, .ref 5 0 0), (8, .ref 6 0 0), (9, .ref 7 0 0), (11, .ref 9 0 0), (12, .d (eS Ad)), (13, .d (eS FP)), (14, .d (eB FN)), (15, .fn (.func 70) [] [.ref 4 0 0, .ref 5 0 0])]) (os := [.box (.agg [.slc 10 9 0 p4.length none, .slc 2 5 0 p5.length none, .slc 3 4 0 p6.length none]), .row 9 (List.map aJ p4) true, .row 5 (List.map aK p5) true, .row 4 (List.map bg p6) true, .box (.ref 0 0 0), .box (.d (eApiIndex p1)), .box (.d (aC p2)), .box (.d (aC p3)), .box (.d (bG sV)), .box (.d (bG gK))]) (o := .row 9 (List.map aJ p4) true) (σ' := [.box (.agg [.slc 10 9 0 p4.length none, .slc 2 5 0 p5.length none, .slc 3 4 0 p6.length none]), .dead, .row 5 (List.map aK p5) true, .row 4 (List.map bg p6) true, .box (.ref 0 0 0), .box (.d (eApiIndex p1)), .box (.d (aC p2)), .box (.d (aC p3)), .box (.d (bG sV)), .box (.d (bG gK)), .row 9 (List.map aJ p4) true]) 1 (Nat.le_of_ble_eq_true rfl) rfl rfl rfl rfl) (Wk.trans (Wk.move (e' := [(5, .ref 4 0 0), (7, .ref 5 0 0), (8, .ref 6 0 0), (9, .ref 7 0 0), (11, .ref 9 0 0), (12, .d (eS Ad)), (13, .d (eS FP)), (14, .d (eB FN)), (15, .fn (.func 70) [] [.ref 4 0 0, .ref 5 0 0])]) (os := [.box (.agg [.slc 10 9 0 p4.length none, .slc 11 5 0 p5.length none, .slc 3 4 0 p6.length none]), .dead, .row 5 (List.map aK p5) true, .row 4 (List.map bg p6) true, .box (.ref 0 0 0), .box (.d (eApiIndex p1)), .box (.d (aC p2)), .box (.d (aC p3)), .box (.d (bG sV)), .box (.d (bG gK)), .row 9 (List.map aJ p4) true]) (o := .row 5 (List.map aK p5) true) (σ' := [.box (.agg [.slc 10 9 0 p4.length none, .slc 11 5 0 p5.length none, .slc 3 4 0 p6.length none]), .dead, .dead, .row 4 (List.map bg p6) true, .box (.ref 0 0 0), .box (.d (eApiIndex p1)), .box (.d (aC p2)), .box (.d (aC p3)), .box (.d (bG sV)), .box (.d (bG gK)), .row 9 (List.map aJ p4) true, .row 5 (List.map aK p5) true]) 2 (Nat.le_of_ble_eq_true rfl) rfl rfl rfl rfl) (wc [0, 1, 2, 3, 4, 5, 6, 7, 9, 10, 11] [0, 1, 2, 3, 4, 5, 6, 7, 9, 4, 5] (by kernel_rfl) rfl (by kernel_rfl))))))
    ·rintro ⟨xO, FM⟩ h0
     obtain ⟨_, agz, h0⟩ := ob h0
     refine sq (sr (s1 (aS (v := .d (aC p3)) rfl (aj zA EU rfl rfl)) (c0 (fB p3 _ agz) wf rfl rfl rfl Nl rfl (fun _ => rfl) (fun _ => rfl) (s1 (nt rfl) (sn (cB h0 rfl (fun h0 => ?_) (fun h0 => ?_)))))))
     ·have q := si h0; subst q
      exact SC.ret (aV (Wk.trans (wq (e' := []) rfl) (Wk.trans (Wk.move (e' := []) (os := [.box (.agg [.slc 9 9 0 xO.length none, .slc 10 5 0 FM.length none, .slc 11 4 0 p6.length none]), .dead, .dead, .row 4 (List.map bg p6) true, .box (.ref 0 0 0), .box (.d (eApiIndex p1)), .box (.d (aC p2)), .box (.d (aC p3)), .box (.d (bG gK)), .row 9 (List.map aJ xO) true, .row 5 (List.map aK FM) true]) (o := .row 4 (List.map bg p6) true) (σ' := [.box (.agg [.slc 9 9 0 xO.length none, .slc 10 5 0 FM.length none, .slc 11 4 0 p6.length none]), .dead, .dead, .dead, .box (.ref 0 0 0), .box (.d (eApiIndex p1)), .box (.d (aC p2)), .box (.d (aC p3)), .box (.d (bG gK)), .row 9 (List.map aJ xO) true, .row 5 (List.map aK FM) true, .row 4 (List.map bg p6) true]) 3 (Nat.le_of_ble_eq_true rfl) rfl rfl rfl rfl) (wc (e' := []) [0, 1, 2, 3, 9, 10, 11] [0, 1, 2, 3] (by kernel_rfl) rfl (by kernel_rfl)))) aG rfl)
     ·obtain ⟨Dk, agy, h0⟩ := ob h0
      refine sk (sr (sm rfl (s1 (far (k := 0) rfl FB eT rfl) (s1 (aS rfl (aj eT jy rfl rfl)) (s1 (far (k := 1) rfl Qw eT rfl) (s1 (aS rfl (aj eT jy rfl rfl)) (s1 (l8 rfl (AQ (1 : Int) gK.Key gK.Val)) (cq [4, 5, 0, 9, 10, 3] [11, 12] (oI (bL.mk (0 : UInt64) (1 : Int) gK.Key (0 : UInt64) gK.Val (0 : Int) (0 : UInt64)) p1 xO FM p6 _ agy) wf rfl rfl rfl ahL rfl rfl rfl rfl rfl rfl rfl rfl (sn ?_)))))))))
      refine SC.bJ h0 (fun y => ⟨mk 131 [(5, .ref 4 0 0), (7, .ref 5 0 0), (13, .d (eS FP)), (102, .d (eB y))], [.box (.agg [.slc 6 9 0 ((xO ++ [(au.mk (1 : Int) p1.Tree (bL.mk (0 : UInt64) (1 : Int) gK.Key (0 : UInt64) gK.Val (0 : Int) (0 : UInt64)))]).length) none, .slc 7 5 0 Dk.length none, .slc 3 4 0 p6.length none]), .dead, .dead, .row 4 (List.map bg p6) true, .box (.ref 0 0 0), .box (.d (eApiIndex p1)), .row 9 (List.map aJ (xO ++ [(au.mk (1 : Int) p1.Tree (bL.mk (0 : UInt64) (1 : Int) gK.Key (0 : UInt64) gK.Val (0 : Int) (0 : UInt64)))])) true, .row 5 (List.map aK Dk) true]⟩) ?_ ?_
      ·intro alm h1
       refine SC.region (s1 (far (k := 4) rfl O6 jV rfl) (s1 (aS rfl (aj jV zD rfl rfl)) (sm rfl (sp h1 (fun h1 => ?_) (fun h1 => ?_)))))
       ·refine gw rfl (far (k := 3) rfl acv jV rfl) (gw rfl (aS rfl (aj jV zD rfl rfl)) (s1 (pkt rfl rfl) (sm rfl (sp h1 (fun h1 => ?_) (fun h1 => ?_)))))
        ·refine gw rfl (mv rfl) (gw rfl (nt rfl) (s1 (pkt rfl rfl) (sm rfl (sp h1 (fun h1 => ?_) (fun h1 => ?_)))))
         ·obtain ⟨_, agx, h1⟩ := ob h1
          refine gw rfl (aS (v := .d (aC p2)) rfl (aj zA EU rfl rfl)) (c0 (fB p2 _ agx) (ww rfl) rfl rfl rfl Nl rfl (fun _ => rfl) (fun _ => rfl) (gw rfl (mv rfl) (sp h1 (fun h1 => ?_) (fun h1 => ?_))))
          ·have q := si h1; subst q
           exact gw rfl (mv rfl) (gw rfl (mv rfl) (gw rfl (bi rfl rfl iC) (gw rfl (pkt rfl rfl) (gw rfl (nt rfl) (s1 (pkt rfl rfl) (SO.nil ((wc [0, 1, 2, 3, 4, 5, 11, 12] [0, 1, 2, 3, 4, 5] (by kernel_rfl) rfl (by kernel_rfl)))))))))
          ·have q := si h1; subst q
           exact kw rfl (kw rfl (kw rfl (gw rfl (dB rfl rfl) (gw rfl (uo (v := .d (eB true)) rfl rfl rfl) (s1 (pkt rfl rfl) (SO.nil ((wc [0, 1, 2, 3, 4, 5, 11, 12] [0, 1, 2, 3, 4, 5] (by kernel_rfl) rfl (by kernel_rfl)))))))))
         ·have q := si h1; subst q
          refine kw rfl (kw rfl (kw rfl (kw rfl (kw rfl (kw rfl (kw rfl (kw rfl (s1 (dB rfl rfl) (SO.nil ?_)))))))))
          exact (wc [0, 1, 2, 3, 4, 5, 11, 12] [0, 1, 2, 3, 4, 5] (by kernel_rfl) rfl (by kernel_rfl))
        ·have q := si h1; subst q
         refine kw rfl (kw rfl (s1 (dB rfl rfl) (sm rfl (kw rfl (kw rfl (kw rfl (kw rfl (kw rfl (kw rfl ?_)))))))))
         exact kw rfl (kw rfl (s1 (dB rfl rfl) (SO.nil ((wc [0, 1, 2, 3, 4, 5, 11, 12] [0, 1, 2, 3, 4, 5] (by kernel_rfl) rfl (by kernel_rfl))))))
       ·have q := si h1; subst q
        refine kw rfl (kw rfl (s1 (dB rfl rfl) (sm rfl (kw rfl (kw rfl (s1 (dB rfl rfl) (sm rfl (kw rfl (kw rfl ?_)))))))))
        exact kw rfl (kw rfl (kw rfl (kw rfl (kw rfl (kw rfl (s1 (dB rfl rfl) (SO.nil ((wc [0, 1, 2, 3, 4, 5, 11, 12] [0, 1, 2, 3, 4, 5] (by kernel_rfl) rfl (by kernel_rfl))))))))))
      ·rintro adU h0
       refine cB h0 rfl (fun h0 => ?_) (fun h0 => ?_)
       ·obtain ⟨wD, agw, h0⟩ := ob h0; obtain ⟨ahf, h0⟩ := gd h0; obtain ⟨ahe, h0⟩ := gd h0; have q := si h0; subst q
        refine sr (sm rfl (cq [] [8] (KF FP _ agw) wf rfl rfl rfl anc rfl rfl rfl rfl rfl rfl rfl rfl (s1 (qV (k := 9) WG rfl) (s0 (fJ rfl rfl (sB (d' := .d (eZ wD)) Ah rfl rfl rfl rfl rfl rfl rfl)) (sn (sd (by kernel_rfl) (t1 ([4], false) (aS rfl (aj Jg Jh rfl rfl)) rfl (t1 ([4], false) (aS rfl (aj Jg Jh rfl rfl)) rfl (t1 ([], false) (gJ rfl) rfl ?_)))))))))
        refine t1 ([], false) (far (k := 1) rfl yR sW rfl) rfl (t1 ([0], false) (aS rfl (aj sW Ox rfl rfl)) rfl (t1 ([], false) (far (k := 5) rfl KN bO rfl) rfl (t1 ([5], false) (aS rfl (aj bO dW rfl rfl)) rfl (t1 ([9], false) (aS (v := .d (eZ wD)) rfl (aj Ah J2 rfl rfl)) rfl (t1 ([], false) (l8 rfl (RN p1.Tree wD)) rfl (t1 ([10], true) (tH (k := 10) (ds := List.map aK [(ay.mk p1.Tree wD false)]) (off := 0) (l' := [(ay.mk p1.Tree wD false)].length) rfl Bn EC rfl rfl (by rfl) rfl rfl rfl) rfl (t1 ([7, 10, 11], true) (app rfl rfl rfl rfl Yf (aF (f := aK) (xs := Dk) (k := 11) rfl Bn EC rfl (dx (xs := [(ay.mk p1.Tree wD false)]) rfl) ahf rfl)) rfl (t1 ([], false) (gJ rfl) rfl (t1 ([], false) (far (k := 1) rfl yR sW rfl) rfl ?_)))))))))
        refine t0 ([0, 11], true) (fJ rfl rfl (sB (d' := .agg [.slc 6 9 0 ((xO ++ [(au.mk (1 : Int) p1.Tree (bL.mk (0 : UInt64) (1 : Int) gK.Key (0 : UInt64) gK.Val (0 : Int) (0 : UInt64)))]).length) none, .slc 11 5 0 ((Dk ++ [(ay.mk p1.Tree wD false)]).length) none, .slc 3 4 0 p6.length none]) sW rfl rfl rfl rfl rfl rfl rfl)) rfl (tn (by decide +kernel) (SC.draws (by kernel_rfl) (t1 ([4], false) (aS rfl (aj Jg Jh rfl rfl)) rfl (t1 ([4], false) (aS rfl (aj Jg Jh rfl rfl)) rfl (t1 ([], false) (gJ rfl) rfl (t1 ([], false) (far (k := 2) rfl Az Br rfl) rfl (t1 ([0], false) (aS rfl (aj Br Rb rfl rfl)) rfl (t1 ([], false) (far (k := 5) rfl KN bO rfl) rfl (t1 ([5], false) (aS rfl (aj bO dW rfl rfl)) rfl ?_)))))))))
        refine t1 ([9], false) (aS (v := .d (eZ wD)) rfl (aj Ah J2 rfl rfl)) rfl (t1 ([], false) (l8 rfl (RO p1.Tree wD)) rfl (t1 ([12], true) (tH (k := 12) (ds := List.map bg [(aX.mk p1.Tree wD)]) (off := 0) (l' := [(aX.mk p1.Tree wD)].length) rfl Ot aac rfl rfl (by rfl) rfl rfl rfl) rfl (t1 ([3, 12, 13], true) (app rfl rfl rfl rfl bc38 (aF (f := bg) (xs := p6) (k := 13) rfl Ot aac rfl (dx (xs := [(aX.mk p1.Tree wD)]) rfl) ahe rfl)) rfl (t1 ([], false) (gJ rfl) rfl (t1 ([], false) (far (k := 2) rfl Az Br rfl) rfl (t0 ([0, 13], true) (fJ rfl rfl (sB (d' := .agg [.slc 6 9 0 ((xO ++ [(au.mk (1 : Int) p1.Tree (bL.mk (0 : UInt64) (1 : Int) gK.Key (0 : UInt64) gK.Val (0 : Int) (0 : UInt64)))]).length) none, .slc 11 5 0 ((Dk ++ [(ay.mk p1.Tree wD false)]).length) none, .slc 13 4 0 ((p6 ++ [(aX.mk p1.Tree wD)]).length) none]) Br rfl rfl rfl rfl rfl rfl rfl)) rfl (ST.nil (And.intro (by decide +kernel) ?_))))))))
        exact kG (Wk.trans (wq (e' := []) rfl) (wc (e' := []) [0, 1, 2, 3, 6, 11, 13] [0, 1, 2, 3] (by kernel_rfl) rfl (by kernel_rfl))) aG rfl
       ·have q := si h0; subst q
        exact SC.skip (kG (Wk.trans (wq (e' := []) rfl) (Wk.trans (Wk.move (e' := []) (os := [.box (.agg [.slc 6 9 0 ((xO ++ [(au.mk (1 : Int) p1.Tree (bL.mk (0 : UInt64) (1 : Int) gK.Key (0 : UInt64) gK.Val (0 : Int) (0 : UInt64)))]).length) none, .slc 7 5 0 Dk.length none, .slc 8 4 0 p6.length none]), .dead, .dead, .row 4 (List.map bg p6) true, .box (.ref 0 0 0), .box (.d (eApiIndex p1)), .row 9 (List.map aJ (xO ++ [(au.mk (1 : Int) p1.Tree (bL.mk (0 : UInt64) (1 : Int) gK.Key (0 : UInt64) gK.Val (0 : Int) (0 : UInt64)))])) true, .row 5 (List.map aK Dk) true]) (o := .row 4 (List.map bg p6) true) (σ' := [.box (.agg [.slc 6 9 0 ((xO ++ [(au.mk (1 : Int) p1.Tree (bL.mk (0 : UInt64) (1 : Int) gK.Key (0 : UInt64) gK.Val (0 : Int) (0 : UInt64)))]).length) none, .slc 7 5 0 Dk.length none, .slc 8 4 0 p6.length none]), .dead, .dead, .dead, .box (.ref 0 0 0), .box (.d (eApiIndex p1)), .row 9 (List.map aJ (xO ++ [(au.mk (1 : Int) p1.Tree (bL.mk (0 : UInt64) (1 : Int) gK.Key (0 : UInt64) gK.Val (0 : Int) (0 : UInt64)))])) true, .row 5 (List.map aK Dk) true, .row 4 (List.map bg p6) true]) 3 (Nat.le_of_ble_eq_true rfl) rfl rfl rfl rfl) (wc (e' := []) [0, 1, 2, 3, 6, 7, 8] [0, 1, 2, 3] (by kernel_rfl) rfl (by kernel_rfl)))) aG rfl)
noncomputable def sM (p0 : ApiTable) (p1 : List FanBuilt) (p2 : List ApiValue) (p3 : List ApiValue) : Option (Int × (List au) × (List ay) × (List aX)) :=
 Option.bind (α := Bool)
 (bif ((p1.length : Int) != (p0.aY.length : Int)) then
 some true
 else
 bif ((p2.length : Int) == (0 : Int)) then
 some ((p3.length : Int) == (0 : Int))
 else
 some false)
 fun adF =>
 bif adF then
 some ((1 : Int), ([] : List au), ([] : List ay), ([] : List aX))
 else
 Option.bind (sJ p0 p2) fun (Xu, fZ) =>
 bif (Xu != (0 : Int)) then
 some (Xu, ([] : List au), ([] : List ay), ([] : List aX))
 else
 Option.bind (sJ p0 p3) fun (Xt, gF) =>
 bif (Xt != (0 : Int)) then
 some (Xt, ([] : List au), ([] : List ay), ([] : List aX))
 else
 eH (Y := (List UInt8)) (E := Int × (List au) × (List ay) × (List aX))
 (Option.bind (fI gF) fun _ =>
 bif (!(decide ((gF.row.length : Int) > (0 : Int)))) then
 some (Sum.inl fZ.primary)
 else
 Option.bind (α := Bool)
 (Option.bind (fI fZ) fun _ =>
 bif (decide ((fZ.row.length : Int) > (0 : Int))) then
 some (fZ.primary != gF.primary)
 else
 some false)
 fun adD =>
 bif adD then
 some (Sum.inr ((1 : Int), ([] : List au), ([] : List ay), ([] : List aX)))
 else
 some (Sum.inl gF.primary))
 (fun cZ =>
 Option.bind (lQ p0.Tree cZ) fun _ =>
 Option.bind (dG p2 p3) fun aeY =>
 bif aeY then
 some ((0 : Int), ([] : List au), [(ay.mk p0.Tree (aU.mk cZ (cZ ++ ([0] : List UInt8)) false) true)], ([] : List aX))
 else
 eH (Y := (List au)) (E := Int × (List au) × (List ay) × (List aX))
 (Option.bind (fI gF) fun _ =>
 bif (decide ((gF.row.length : Int) > (0 : Int))) then
 Option.bind (mP p0.bq p3) fun (Uv, xR) =>
 bif (xR != (0 : Int)) then
 some (Sum.inr (xR, ([] : List au), ([] : List ay), ([] : List aX)))
 else
 Option.bind (jE p0.Tree (bL.mk (0 : UInt64) (1 : Int) cZ (0 : UInt64) Uv (0 : Int) (0 : UInt64)) [(ay.mk p0.Tree (aU.mk cZ (cZ ++ ([0] : List UInt8)) false) true)]) fun _ =>
 some (Sum.inl [(au.mk (1 : Int) p0.Tree (bL.mk (0 : UInt64) (1 : Int) cZ (0 : UInt64) Uv (0 : Int) (0 : UInt64)))])
 else
 Option.bind (jE p0.Tree (bL.mk (0 : UInt64) (2 : Int) cZ (0 : UInt64) ([] : List UInt8) (0 : Int) (0 : UInt64)) [(ay.mk p0.Tree (aU.mk cZ (cZ ++ ([0] : List UInt8)) false) true)]) fun _ =>
 some (Sum.inl [(au.mk (1 : Int) p0.Tree (bL.mk (0 : UInt64) (2 : Int) cZ (0 : UInt64) ([] : List UInt8) (0 : Int) (0 : UInt64)))]))
 (fun N9 =>
 Option.bind (α := (List au) × (List ay) × (List aX))
 (Option.bind (α := (List au) × (List ay) × (List aX))
 (loop (Y := Int × (List au) × (List ay) × (List aX)) (W := (List au) × (List ay) × (List aX)) (fun (Lx, N8, N7, NZ) =>
 bif (decide (Lx < (p0.aY.length : Int))) then
 Option.bind (α := (List au) × (List ay) × (List aX))
 (Option.bind (bF p0.aY Lx) fun LU =>
 Option.bind (α := Bool)
 (bif LU.Ready then
 some true
 else
 Option.bind (bF p1 Lx) fun ad9 =>
 bif ad9.Any then
 Option.bind (bF p1 Lx) fun aaI =>
 some (Qo cZ aaI.Key || cZ == aaI.Key)
 else
 some false)
 fun adv =>
 bif adv then
 Option.bind (iD p0 LU fZ gF N8 N7 NZ) fun (aeT, aeS, aeR) =>
 some (aeT, aeS, aeR)
 else
 some (N8, N7, NZ))
 fun (ady, adx, adw) =>
 some (Sum.inl ((bD (Lx + (1 : Int))), ady, adx, adw))
 else
 some (Sum.inr (N8, N7, NZ))) ((0 : Int), N9, [(ay.mk p0.Tree (aU.mk cZ (cZ ++ ([0] : List UInt8)) false) true)], ([] : List aX)))
 (fun e => some e))
 fun (WQ, WO, WM) =>
 some ((0 : Int), WQ, WO, WM))
 (fun e => some e))
 (fun e => some e)
theorem I6 (p0 : ApiTable) (p1 : List FanBuilt) (p2 : List ApiValue) (p3 : List ApiValue) (r : Int × (List au) × (List ay) × (List aX)) (h0 : sM p0 p1 p2 p3 = some r) : aL Tryz.prog 10 [.d (eApiTable p0), .d ((eL 2 eFanBuilt) p1), .d ((eL 3 eApiValue) p2), .d ((eL 3 eApiValue) p3)] [] (.tuple [.agg [.slc 1 9 0 r.2.1.length none, .slc 2 5 0 r.2.2.1.length none, .slc 3 4 0 r.2.2.2.length none], .d (eI r.1)]) [.box (.agg [.slc 1 9 0 r.2.1.length none, .slc 2 5 0 r.2.2.1.length none, .slc 3 4 0 r.2.2.2.length none]), .row 9 (List.map aJ r.2.1) true, .row 5 (List.map aK r.2.2.1) true, .row 4 (List.map bg r.2.2.2) true] := by
 unfold sM at h0
 refine fn0 [0, 1, 2, 3] Tryz.func10 rfl rfl rfl rfl rfl ?_
 refine sr (s1 (nH (k := 0) rfl rfl rfl) (s1 (qV (k := 1) QJ rfl) (sa rfl (sn (sq (SC.bJ h0 (fun y => ⟨mk 139 [(1, .d ((eL 2 eFanBuilt) p1)), (2, .d ((eL 3 eApiValue) p2)), (3, .d ((eL 3 eApiValue) p3)), (4, .ref 0 0 0), (8, .ref 1 0 0), (34, .d (eB y))], [.box (.d (eApiTable p0)), .box (.d (.agg [.aA, .aA, .aA]))]⟩) ?_ ?_))))))
 ·intro ak7 h1
  refine SC.region (sm rfl (s1 (len rfl rfl rfl (aZ Xc)) (s1 (far (k := 3) rfl sH sZ rfl) (s1 (aS rfl (aj sZ Iw rfl rfl)) (s1 (len rfl rfl rfl (aZ CP)) (s1 (bi rfl rfl bA) (sm rfl (sp h1 (fun h1 => ?_) (fun h1 => ?_)))))))))
  ·have q := si h1; subst q
   refine kw rfl (kw rfl (kw rfl (kw rfl (kw rfl (kw rfl (kw rfl (kw rfl (s1 (pkt rfl rfl) (SO.nil ?_)))))))))
   exact (wq rfl)
  ·refine gw rfl (mv rfl) (gw rfl (len rfl rfl rfl (aZ fu)) (gw rfl (bi rfl rfl aP) (gw rfl (mv rfl) (sp h1 (fun h1 => ?_) (fun h1 => ?_)))))
   ·have q := si h1; subst q
    exact gw rfl (mv rfl) (gw rfl (len rfl rfl rfl (aZ fu)) (gw rfl (bi rfl rfl aP) (gw rfl (pkt rfl rfl) (s1 (dB rfl rfl) (SO.nil ((wq rfl)))))))
   ·have q := si h1; subst q
    exact kw rfl (kw rfl (kw rfl (gw rfl (dB rfl rfl) (s1 (dB rfl rfl) (SO.nil ((wq rfl)))))))
 ·rintro adF h0
  refine cB h0 rfl (fun h0 => ?_) (fun h0 => ?_)
  ·have q := si h0; subst q
   exact sr (s1 (l8 rfl (Aa )) (s0 (fJ rfl rfl (sB (d' := .d (.agg [.aA, .aA, .aA])) mh rfl rfl rfl rfl rfl rfl rfl)) (sa rfl (sn (SC.ret (aV (Wk.trans (Wk.dD (σ' := [.box (.d (eApiTable p0)), .box (.d (.agg [.aA, .aA, .aA])), .row 9 (List.map aJ ([] : List au)) true]) (.row 9 [] true) (fun _ hh => by cases hh) rfl) (Wk.trans (Wk.jh (id := 1) (y := .agg [.slc 2 9 0 (([] : List au).length) none, .d .aA, .d .aA]) (σ' := [.box (.d (eApiTable p0)), .box (.agg [.slc 2 9 0 (([] : List au).length) none, .d .aA, .d .aA]), .row 9 (List.map aJ ([] : List au)) true]) rfl (dh.cons (AW.dX _ _ _) (dh.cons (AW.refl _) (dh.cons (AW.refl _) dh.nil))) rfl) (Wk.trans (Wk.dD (σ' := [.box (.d (eApiTable p0)), .box (.agg [.slc 2 9 0 (([] : List au).length) none, .d .aA, .d .aA]), .row 9 (List.map aJ ([] : List au)) true, .row 5 (List.map aK ([] : List ay)) true]) (.row 5 [] true) (fun _ hh => by cases hh) rfl) (Wk.trans (Wk.jh (id := 1) (y := .agg [.slc 2 9 0 (([] : List au).length) none, .slc 3 5 0 (([] : List ay).length) none, .d .aA]) (σ' := [.box (.d (eApiTable p0)), .box (.agg [.slc 2 9 0 (([] : List au).length) none, .slc 3 5 0 (([] : List ay).length) none, .d .aA]), .row 9 (List.map aJ ([] : List au)) true, .row 5 (List.map aK ([] : List ay)) true]) rfl (dh.cons (AW.refl _) (dh.cons (AW.dX _ _ _) (dh.cons (AW.refl _) dh.nil))) rfl) (Wk.trans (Wk.dD (σ' := [.box (.d (eApiTable p0)), .box (.agg [.slc 2 9 0 (([] : List au).length) none, .slc 3 5 0 (([] : List ay).length) none, .d .aA]), .row 9 (List.map aJ ([] : List au)) true, .row 5 (List.map aK ([] : List ay)) true, .row 4 (List.map bg ([] : List aX)) true]) (.row 4 [] true) (fun _ hh => by cases hh) rfl) (Wk.trans (Wk.jh (id := 1) (y := .agg [.slc 2 9 0 (([] : List au).length) none, .slc 3 5 0 (([] : List ay).length) none, .slc 4 4 0 (([] : List aX).length) none]) (σ' := [.box (.d (eApiTable p0)), .box (.agg [.slc 2 9 0 (([] : List au).length) none, .slc 3 5 0 (([] : List ay).length) none, .slc 4 4 0 (([] : List aX).length) none]), .row 9 (List.map aJ ([] : List au)) true, .row 5 (List.map aK ([] : List ay)) true, .row 4 (List.map bg ([] : List aX)) true]) rfl (dh.cons (AW.refl _) (dh.cons (AW.refl _) (dh.cons (AW.dX _ _ _) dh.nil))) rfl) (wc (e' := [(8, .ref 0 0 0), (9, .d (eI (1 : Int)))]) [1, 2, 3, 4] [1] (by kernel_rfl) rfl (by kernel_rfl)))))))) (gD rfl (aj mh yh rfl rfl) (aI rfl aG)) rfl))))))
  ·obtain ⟨⟨Xu, fZ⟩, af4, h0⟩ := ob h0
   refine sk (sr (s1 (aS (v := .d (eApiTable p0)) rfl (aj uE vk rfl rfl)) (sm rfl (cq [] [2] (EA p0 p2 _ af4) wf rfl rfl rfl ahT rfl rfl rfl rfl rfl rfl rfl rfl (sm rfl (s1 (ext rfl rfl) (s1 (ext rfl rfl) (s1 (qV (k := 3) aal rfl) (s0 (fJ rfl rfl (sB (d' := .d (aC fZ)) zA rfl rfl rfl rfl rfl rfl rfl)) ?_)))))))))
   refine sa rfl (sn (sq (sr (sm rfl (s1 (bi rfl rfl bA) (sn (cB h0 rfl (fun h0 => ?_) (fun h0 => ?_))))))))
   ·have q := si h0; subst q
    exact sr (s1 (l8 rfl (Aa )) (sm rfl (s0 (fJ rfl rfl (sB (d' := .d (.agg [.aA, .aA, .aA])) mh rfl rfl rfl rfl rfl rfl rfl)) (sa rfl (sn (SC.ret (aV (Wk.trans (Wk.dD (σ' := [.box (.d (eApiTable p0)), .box (.d (.agg [.aA, .aA, .aA])), .box (.d (aC fZ)), .box (.d (aC fZ)), .row 9 (List.map aJ ([] : List au)) true]) (.row 9 [] true) (fun _ hh => by cases hh) rfl) (Wk.trans (Wk.jh (id := 1) (y := .agg [.slc 4 9 0 (([] : List au).length) none, .d .aA, .d .aA]) (σ' := [.box (.d (eApiTable p0)), .box (.agg [.slc 4 9 0 (([] : List au).length) none, .d .aA, .d .aA]), .box (.d (aC fZ)), .box (.d (aC fZ)), .row 9 (List.map aJ ([] : List au)) true]) rfl (dh.cons (AW.dX _ _ _) (dh.cons (AW.refl _) (dh.cons (AW.refl _) dh.nil))) rfl) (Wk.trans (Wk.dD (σ' := [.box (.d (eApiTable p0)), .box (.agg [.slc 4 9 0 (([] : List au).length) none, .d .aA, .d .aA]), .box (.d (aC fZ)), .box (.d (aC fZ)), .row 9 (List.map aJ ([] : List au)) true, .row 5 (List.map aK ([] : List ay)) true]) (.row 5 [] true) (fun _ hh => by cases hh) rfl) (Wk.trans (Wk.jh (id := 1) (y := .agg [.slc 4 9 0 (([] : List au).length) none, .slc 5 5 0 (([] : List ay).length) none, .d .aA]) (σ' := [.box (.d (eApiTable p0)), .box (.agg [.slc 4 9 0 (([] : List au).length) none, .slc 5 5 0 (([] : List ay).length) none, .d .aA]), .box (.d (aC fZ)), .box (.d (aC fZ)), .row 9 (List.map aJ ([] : List au)) true, .row 5 (List.map aK ([] : List ay)) true]) rfl (dh.cons (AW.refl _) (dh.cons (AW.dX _ _ _) (dh.cons (AW.refl _) dh.nil))) rfl) (Wk.trans (Wk.dD (σ' := [.box (.d (eApiTable p0)), .box (.agg [.slc 4 9 0 (([] : List au).length) none, .slc 5 5 0 (([] : List ay).length) none, .d .aA]), .box (.d (aC fZ)), .box (.d (aC fZ)), .row 9 (List.map aJ ([] : List au)) true, .row 5 (List.map aK ([] : List ay)) true, .row 4 (List.map bg ([] : List aX)) true]) (.row 4 [] true) (fun _ hh => by cases hh) rfl) (Wk.trans (Wk.jh (id := 1) (y := .agg [.slc 4 9 0 (([] : List au).length) none, .slc 5 5 0 (([] : List ay).length) none, .slc 6 4 0 (([] : List aX).length) none]) (σ' := [.box (.d (eApiTable p0)), .box (.agg [.slc 4 9 0 (([] : List au).length) none, .slc 5 5 0 (([] : List ay).length) none, .slc 6 4 0 (([] : List aX).length) none]), .box (.d (aC fZ)), .box (.d (aC fZ)), .row 9 (List.map aJ ([] : List au)) true, .row 5 (List.map aK ([] : List ay)) true, .row 4 (List.map bg ([] : List aX)) true]) rfl (dh.cons (AW.refl _) (dh.cons (AW.refl _) (dh.cons (AW.dX _ _ _) dh.nil))) rfl) (wc (e' := [(8, .ref 0 0 0), (9, .d (eI Xu))]) [1, 4, 5, 6] [1] (by kernel_rfl) rfl (by kernel_rfl)))))))) (gD rfl (aj mh yh rfl rfl) (aI rfl aG)) rfl)))))))
   ·obtain ⟨⟨Xt, gF⟩, af0, h0⟩ := ob h0
    refine sk (sr (s1 (aS (v := .d (eApiTable p0)) rfl (aj uE vk rfl rfl)) (sm rfl (cq [] [4] (EA p0 p3 _ af0) wf rfl rfl rfl ahT rfl rfl rfl rfl rfl rfl rfl rfl (sm rfl (s1 (ext rfl rfl) (s1 (ext rfl rfl) (s1 (qV (k := 5) aal rfl) (s0 (fJ rfl rfl (sB (d' := .d (aC gF)) zA rfl rfl rfl rfl rfl rfl rfl)) ?_)))))))))
    refine sa rfl (sn (sq (sr (sm rfl (s1 (bi rfl rfl bA) (sn (cB h0 rfl (fun h0 => ?_) (fun h0 => ?_))))))))
    ·have q := si h0; subst q
     exact sr (s1 (l8 rfl (Aa )) (sm rfl (s0 (fJ rfl rfl (sB (d' := .d (.agg [.aA, .aA, .aA])) mh rfl rfl rfl rfl rfl rfl rfl)) (sa rfl (sn (SC.ret (aV (Wk.trans (Wk.dD (σ' := [.box (.d (eApiTable p0)), .box (.d (.agg [.aA, .aA, .aA])), .box (.d (aC fZ)), .box (.d (aC fZ)), .box (.d (aC gF)), .box (.d (aC gF)), .row 9 (List.map aJ ([] : List au)) true]) (.row 9 [] true) (fun _ hh => by cases hh) rfl) (Wk.trans (Wk.jh (id := 1) (y := .agg [.slc 6 9 0 (([] : List au).length) none, .d .aA, .d .aA]) (σ' := [.box (.d (eApiTable p0)), .box (.agg [.slc 6 9 0 (([] : List au).length) none, .d .aA, .d .aA]), .box (.d (aC fZ)), .box (.d (aC fZ)), .box (.d (aC gF)), .box (.d (aC gF)), .row 9 (List.map aJ ([] : List au)) true]) rfl (dh.cons (AW.dX _ _ _) (dh.cons (AW.refl _) (dh.cons (AW.refl _) dh.nil))) rfl) (Wk.trans (Wk.dD (σ' := [.box (.d (eApiTable p0)), .box (.agg [.slc 6 9 0 (([] : List au).length) none, .d .aA, .d .aA]), .box (.d (aC fZ)), .box (.d (aC fZ)), .box (.d (aC gF)), .box (.d (aC gF)), .row 9 (List.map aJ ([] : List au)) true, .row 5 (List.map aK ([] : List ay)) true]) (.row 5 [] true) (fun _ hh => by cases hh) rfl) (Wk.trans (Wk.jh (id := 1) (y := .agg [.slc 6 9 0 (([] : List au).length) none, .slc 7 5 0 (([] : List ay).length) none, .d .aA]) (σ' := [.box (.d (eApiTable p0)), .box (.agg [.slc 6 9 0 (([] : List au).length) none, .slc 7 5 0 (([] : List ay).length) none, .d .aA]), .box (.d (aC fZ)), .box (.d (aC fZ)), .box (.d (aC gF)), .box (.d (aC gF)), .row 9 (List.map aJ ([] : List au)) true, .row 5 (List.map aK ([] : List ay)) true]) rfl (dh.cons (AW.refl _) (dh.cons (AW.dX _ _ _) (dh.cons (AW.refl _) dh.nil))) rfl) (Wk.trans (Wk.dD (σ' := [.box (.d (eApiTable p0)), .box (.agg [.slc 6 9 0 (([] : List au).length) none, .slc 7 5 0 (([] : List ay).length) none, .d .aA]), .box (.d (aC fZ)), .box (.d (aC fZ)), .box (.d (aC gF)), .box (.d (aC gF)), .row 9 (List.map aJ ([] : List au)) true, .row 5 (List.map aK ([] : List ay)) true, .row 4 (List.map bg ([] : List aX)) true]) (.row 4 [] true) (fun _ hh => by cases hh) rfl) (Wk.trans (Wk.jh (id := 1) (y := .agg [.slc 6 9 0 (([] : List au).length) none, .slc 7 5 0 (([] : List ay).length) none, .slc 8 4 0 (([] : List aX).length) none]) (σ' := [.box (.d (eApiTable p0)), .box (.agg [.slc 6 9 0 (([] : List au).length) none, .slc 7 5 0 (([] : List ay).length) none, .slc 8 4 0 (([] : List aX).length) none]), .box (.d (aC fZ)), .box (.d (aC fZ)), .box (.d (aC gF)), .box (.d (aC gF)), .row 9 (List.map aJ ([] : List au)) true, .row 5 (List.map aK ([] : List ay)) true, .row 4 (List.map bg ([] : List aX)) true]) rfl (dh.cons (AW.refl _) (dh.cons (AW.refl _) (dh.cons (AW.dX _ _ _) dh.nil))) rfl) (wc (e' := [(8, .ref 0 0 0), (9, .d (eI Xt))]) [1, 6, 7, 8] [1] (by kernel_rfl) rfl (by kernel_rfl)))))))) (gD rfl (aj mh yh rfl rfl) (aI rfl aG)) rfl)))))))
    ·refine sk (sr (s1 (far (k := 1) rfl O5 eT rfl) (s1 (aS rfl (aj eT jy rfl rfl)) (sa rfl (sn (SC.seqB h0 (fun y => ⟨mk 139 [(1, .d ((eL 2 eFanBuilt) p1)), (2, .d ((eL 3 eApiValue) p2)), (3, .d ((eL 3 eApiValue) p3)), (4, .ref 0 0 0), (8, .ref 1 0 0), (10, .ref 2 0 0), (12, .ref 3 0 0), (13, .d (eS y))], [.box (.d (eApiTable p0)), .box (.d (.agg [.aA, .aA, .aA])), .box (.d (aC fZ)), .box (.d (aC gF))]⟩) ?_ ?_))))))
     ·intro ak6 h1 h0
      obtain ⟨_, afX, h1⟩ := ob h1
      refine SC.blk (sr (s1 (aS (v := .d (aC gF)) rfl (aj zA EU rfl rfl)) (c0 (fB gF _ afX) wf rfl rfl rfl Nl rfl (fun _ => rfl) (fun _ => rfl) (s1 (nt rfl) (sa rfl (sn (cB h1 rfl (fun h1 => ?_) (fun h1 => ?_))))))))
      ·have q := si h1; subst q
       exact SC.region (s1 (far (k := 1) rfl O5 eT rfl) (s1 (aS rfl (aj eT jy rfl rfl)) (sa rfl (SO.nil (lf (wc [0, 1, 3, 5] [0, 1, 3, 5] (by kernel_rfl) rfl (by kernel_rfl)))))))
      ·refine SC.bJ h1 (fun y => ⟨mk 139 [(1, .d ((eL 2 eFanBuilt) p1)), (2, .d ((eL 3 eApiValue) p2)), (3, .d ((eL 3 eApiValue) p3)), (4, .ref 0 0 0), (8, .ref 1 0 0), (10, .ref 2 0 0), (12, .ref 3 0 0), (13, .d (eS gF.primary)), (64, .d (eB y))], [.box (.d (eApiTable p0)), .box (.d (.agg [.aA, .aA, .aA])), .box (.d (aC fZ)), .box (.d (aC gF))]⟩) ?_ ?_
       ·intro akq h2
        obtain ⟨_, afW, h2⟩ := ob h2
        refine SC.region (s1 (aS (v := .d (aC fZ)) rfl (aj zA EU rfl rfl)) (c0 (fB fZ _ afW) wf rfl rfl rfl Nl rfl (fun _ => rfl) (fun _ => rfl) (sm rfl (sp h2 (fun h2 => ?_) (fun h2 => ?_)))))
        ·have q := si h2; subst q
         exact gw rfl (far (k := 1) rfl O5 eT rfl) (gw rfl (aS rfl (aj eT jy rfl rfl)) (gw rfl (mv rfl) (gw rfl (bi rfl rfl Jr) (s1 (pkt rfl rfl) (sa rfl (SO.nil ((wc [0, 1, 3, 5] [0, 1, 3, 5] (by kernel_rfl) rfl (by kernel_rfl)))))))))
        ·have q := si h2; subst q
         exact kw rfl (kw rfl (kw rfl (kw rfl (s1 (dB rfl rfl) (sa rfl (SO.nil ((wc [0, 1, 3, 5] [0, 1, 3, 5] (by kernel_rfl) rfl (by kernel_rfl)))))))))
       ·rintro adD h1
        refine cB h1 rfl (fun h1 => ?_) (fun h1 => ?_)
        ·have q := si h1; subst q; have q := si h0; subst q
         exact sr (s1 (l8 rfl (Aa )) (s0 (fJ rfl rfl (sB (d' := .d (.agg [.aA, .aA, .aA])) mh rfl rfl rfl rfl rfl rfl rfl)) (sa rfl (sn (SC.ret (aV (Wk.trans (Wk.dD (σ' := [.box (.d (eApiTable p0)), .box (.d (.agg [.aA, .aA, .aA])), .box (.d (aC fZ)), .box (.d (aC gF)), .row 9 (List.map aJ ([] : List au)) true]) (.row 9 [] true) (fun _ hh => by cases hh) rfl) (Wk.trans (Wk.jh (id := 1) (y := .agg [.slc 4 9 0 (([] : List au).length) none, .d .aA, .d .aA]) (σ' := [.box (.d (eApiTable p0)), .box (.agg [.slc 4 9 0 (([] : List au).length) none, .d .aA, .d .aA]), .box (.d (aC fZ)), .box (.d (aC gF)), .row 9 (List.map aJ ([] : List au)) true]) rfl (dh.cons (AW.dX _ _ _) (dh.cons (AW.refl _) (dh.cons (AW.refl _) dh.nil))) rfl) (Wk.trans (Wk.dD (σ' := [.box (.d (eApiTable p0)), .box (.agg [.slc 4 9 0 (([] : List au).length) none, .d .aA, .d .aA]), .box (.d (aC fZ)), .box (.d (aC gF)), .row 9 (List.map aJ ([] : List au)) true, .row 5 (List.map aK ([] : List ay)) true]) (.row 5 [] true) (fun _ hh => by cases hh) rfl) (Wk.trans (Wk.jh (id := 1) (y := .agg [.slc 4 9 0 (([] : List au).length) none, .slc 5 5 0 (([] : List ay).length) none, .d .aA]) (σ' := [.box (.d (eApiTable p0)), .box (.agg [.slc 4 9 0 (([] : List au).length) none, .slc 5 5 0 (([] : List ay).length) none, .d .aA]), .box (.d (aC fZ)), .box (.d (aC gF)), .row 9 (List.map aJ ([] : List au)) true, .row 5 (List.map aK ([] : List ay)) true]) rfl (dh.cons (AW.refl _) (dh.cons (AW.dX _ _ _) (dh.cons (AW.refl _) dh.nil))) rfl) (Wk.trans (Wk.dD (σ' := [.box (.d (eApiTable p0)), .box (.agg [.slc 4 9 0 (([] : List au).length) none, .slc 5 5 0 (([] : List ay).length) none, .d .aA]), .box (.d (aC fZ)), .box (.d (aC gF)), .row 9 (List.map aJ ([] : List au)) true, .row 5 (List.map aK ([] : List ay)) true, .row 4 (List.map bg ([] : List aX)) true]) (.row 4 [] true) (fun _ hh => by cases hh) rfl) (Wk.trans (Wk.jh (id := 1) (y := .agg [.slc 4 9 0 (([] : List au).length) none, .slc 5 5 0 (([] : List ay).length) none, .slc 6 4 0 (([] : List aX).length) none]) (σ' := [.box (.d (eApiTable p0)), .box (.agg [.slc 4 9 0 (([] : List au).length) none, .slc 5 5 0 (([] : List ay).length) none, .slc 6 4 0 (([] : List aX).length) none]), .box (.d (aC fZ)), .box (.d (aC gF)), .row 9 (List.map aJ ([] : List au)) true, .row 5 (List.map aK ([] : List ay)) true, .row 4 (List.map bg ([] : List aX)) true]) rfl (dh.cons (AW.refl _) (dh.cons (AW.refl _) (dh.cons (AW.dX _ _ _) dh.nil))) rfl) (wc (e' := [(8, .ref 0 0 0), (9, .d (eI (1 : Int)))]) [1, 4, 5, 6] [1] (by kernel_rfl) rfl (by kernel_rfl)))))))) (gD rfl (aj mh yh rfl rfl) (aI rfl aG)) rfl))))))
        ·have q := si h1; subst q
         exact SC.skip (lf (wq rfl))
     ·rintro cZ h0
      obtain ⟨_, afV, h0⟩ := ob h0; obtain ⟨aeY, afU, h0⟩ := ob h0
      refine sr (s1 (qV (k := 4) QJ rfl) (sn (sr (s1 (far (k := 4) rfl AA bO rfl) (s1 (aS rfl (aj bO dW rfl rfl)) (sm rfl (cq [4] [5] (xJ p0.Tree cZ _ afV) wf rfl rfl rfl acV rfl rfl rfl rfl rfl rfl rfl rfl (sn (sq ?_)))))))))
      refine sr (sm rfl (sm rfl (c0 (mo p2 p3 _ afU) wf rfl rfl rfl anu rfl (fun _ => rfl) (fun _ => rfl) (sn (cB h0 rfl (fun h0 => ?_) (fun h0 => ?_))))))
      ·have q := si h0; subst q
       exact sr (s1 (aS (v := .agg [.d .aA, .slc 5 5 0 ([(ay.mk p0.Tree (aU.mk cZ (cZ ++ ([0] : List UInt8)) false) true)].length) none, .d .aA]) rfl (aj mh yh rfl rfl)) (s0 (fJ rfl rfl (sB (d' := .agg [.d .aA, .slc 5 5 0 ([(ay.mk p0.Tree (aU.mk cZ (cZ ++ ([0] : List UInt8)) false) true)].length) none, .d .aA]) mh rfl rfl rfl rfl rfl rfl rfl)) (sa rfl (sn (SC.ret (aV (Wk.trans (Wk.dD (σ' := [.box (.d (eApiTable p0)), .box (.agg [.d .aA, .slc 5 5 0 ([(ay.mk p0.Tree (aU.mk cZ (cZ ++ ([0] : List UInt8)) false) true)].length) none, .d .aA]), .box (.d (aC fZ)), .box (.d (aC gF)), .box (.agg [.d .aA, .slc 5 5 0 ([(ay.mk p0.Tree (aU.mk cZ (cZ ++ ([0] : List UInt8)) false) true)].length) none, .d .aA]), .row 5 (List.map aK [(ay.mk p0.Tree (aU.mk cZ (cZ ++ ([0] : List UInt8)) false) true)]) true, .row 9 (List.map aJ ([] : List au)) true]) (.row 9 [] true) (fun _ hh => by cases hh) rfl) (Wk.trans (Wk.jh (id := 1) (y := .agg [.slc 6 9 0 (([] : List au).length) none, .slc 5 5 0 ([(ay.mk p0.Tree (aU.mk cZ (cZ ++ ([0] : List UInt8)) false) true)].length) none, .d .aA]) (σ' := [.box (.d (eApiTable p0)), .box (.agg [.slc 6 9 0 (([] : List au).length) none, .slc 5 5 0 ([(ay.mk p0.Tree (aU.mk cZ (cZ ++ ([0] : List UInt8)) false) true)].length) none, .d .aA]), .box (.d (aC fZ)), .box (.d (aC gF)), .box (.agg [.d .aA, .slc 5 5 0 ([(ay.mk p0.Tree (aU.mk cZ (cZ ++ ([0] : List UInt8)) false) true)].length) none, .d .aA]), .row 5 (List.map aK [(ay.mk p0.Tree (aU.mk cZ (cZ ++ ([0] : List UInt8)) false) true)]) true, .row 9 (List.map aJ ([] : List au)) true]) rfl (dh.cons (AW.dX _ _ _) (dh.cons (AW.refl _) (dh.cons (AW.refl _) dh.nil))) rfl) (Wk.trans (Wk.dD (σ' := [.box (.d (eApiTable p0)), .box (.agg [.slc 6 9 0 (([] : List au).length) none, .slc 5 5 0 ([(ay.mk p0.Tree (aU.mk cZ (cZ ++ ([0] : List UInt8)) false) true)].length) none, .d .aA]), .box (.d (aC fZ)), .box (.d (aC gF)), .box (.agg [.d .aA, .slc 5 5 0 ([(ay.mk p0.Tree (aU.mk cZ (cZ ++ ([0] : List UInt8)) false) true)].length) none, .d .aA]), .row 5 (List.map aK [(ay.mk p0.Tree (aU.mk cZ (cZ ++ ([0] : List UInt8)) false) true)]) true, .row 9 (List.map aJ ([] : List au)) true, .row 4 (List.map bg ([] : List aX)) true]) (.row 4 [] true) (fun _ hh => by cases hh) rfl) (Wk.trans (Wk.jh (id := 1) (y := .agg [.slc 6 9 0 (([] : List au).length) none, .slc 5 5 0 ([(ay.mk p0.Tree (aU.mk cZ (cZ ++ ([0] : List UInt8)) false) true)].length) none, .slc 7 4 0 (([] : List aX).length) none]) (σ' := [.box (.d (eApiTable p0)), .box (.agg [.slc 6 9 0 (([] : List au).length) none, .slc 5 5 0 ([(ay.mk p0.Tree (aU.mk cZ (cZ ++ ([0] : List UInt8)) false) true)].length) none, .slc 7 4 0 (([] : List aX).length) none]), .box (.d (aC fZ)), .box (.d (aC gF)), .box (.agg [.d .aA, .slc 5 5 0 ([(ay.mk p0.Tree (aU.mk cZ (cZ ++ ([0] : List UInt8)) false) true)].length) none, .d .aA]), .row 5 (List.map aK [(ay.mk p0.Tree (aU.mk cZ (cZ ++ ([0] : List UInt8)) false) true)]) true, .row 9 (List.map aJ ([] : List au)) true, .row 4 (List.map bg ([] : List aX)) true]) rfl (dh.cons (AW.refl _) (dh.cons (AW.refl _) (dh.cons (AW.dX _ _ _) dh.nil))) rfl) (wc (e' := [(8, .ref 0 0 0), (9, .d (eI (0 : Int)))]) [1, 6, 5, 7] [1] (by kernel_rfl) rfl (by kernel_rfl)))))) (gD rfl (aj mh yh rfl rfl) (aI rfl aG)) rfl))))))
      ·refine sk (SC.seqB h0 (fun y => ⟨mk 139 [(1, .d ((eL 2 eFanBuilt) p1)), (4, .ref 0 0 0), (8, .ref 1 0 0), (10, .ref 2 0 0), (12, .ref 3 0 0), (13, .d (eS cZ)), (14, .ref 4 0 0)], [.box (.d (eApiTable p0)), .box (.d (.agg [.aA, .aA, .aA])), .box (.d (aC fZ)), .box (.d (aC gF)), .box (.agg [.slc 5 9 0 y.length none, .slc 6 5 0 ([(ay.mk p0.Tree (aU.mk cZ (cZ ++ ([0] : List UInt8)) false) true)].length) none, .d .aA]), .row 9 (List.map aJ y) true, .row 5 (List.map aK [(ay.mk p0.Tree (aU.mk cZ (cZ ++ ([0] : List UInt8)) false) true)]) true]⟩) ?_ ?_)
       ·intro ak5 h1 h0
        obtain ⟨_, afT, h1⟩ := ob h1
        refine sr (s1 (aS (v := .d (aC gF)) rfl (aj zA EU rfl rfl)) (c0 (fB gF _ afT) wf rfl rfl rfl Nl rfl (fun _ => rfl) (fun _ => rfl) (sn (cB h1 rfl (fun h1 => ?_) (fun h1 => ?_)))))
        ·obtain ⟨⟨Uv, xR⟩, afS, h1⟩ := ob h1
         refine sr (s1 (far (k := 1) rfl jr jB rfl) (s1 (aS rfl (aj jB vw rfl rfl)) (sm rfl (c0 (uG p0.bq p3 _ afS) wf rfl rfl rfl acU rfl (fun _ => rfl) (fun _ => rfl) (sm rfl (s1 (ext rfl rfl) (s1 (ext rfl rfl) (sa rfl (sa rfl ?_)))))))))
         refine sn (sq (sr (sm rfl (s1 (bi rfl rfl bA) (sn (cB h1 rfl (fun h1 => ?_) (fun h1 => ?_)))))))
         ·have q := si h1; subst q; have q := si h0; subst q
          exact sr (s1 (l8 rfl (Aa )) (sm rfl (s0 (fJ rfl rfl (sB (d' := .d (.agg [.aA, .aA, .aA])) mh rfl rfl rfl rfl rfl rfl rfl)) (sa rfl (sn (SC.ret (aV (Wk.trans (Wk.dD (σ' := [.box (.d (eApiTable p0)), .box (.d (.agg [.aA, .aA, .aA])), .box (.d (aC fZ)), .box (.d (aC gF)), .box (.agg [.d .aA, .slc 5 5 0 ([(ay.mk p0.Tree (aU.mk cZ (cZ ++ ([0] : List UInt8)) false) true)].length) none, .d .aA]), .row 5 (List.map aK [(ay.mk p0.Tree (aU.mk cZ (cZ ++ ([0] : List UInt8)) false) true)]) true, .row 9 (List.map aJ ([] : List au)) true]) (.row 9 [] true) (fun _ hh => by cases hh) rfl) (Wk.trans (Wk.jh (id := 1) (y := .agg [.slc 6 9 0 (([] : List au).length) none, .d .aA, .d .aA]) (σ' := [.box (.d (eApiTable p0)), .box (.agg [.slc 6 9 0 (([] : List au).length) none, .d .aA, .d .aA]), .box (.d (aC fZ)), .box (.d (aC gF)), .box (.agg [.d .aA, .slc 5 5 0 ([(ay.mk p0.Tree (aU.mk cZ (cZ ++ ([0] : List UInt8)) false) true)].length) none, .d .aA]), .row 5 (List.map aK [(ay.mk p0.Tree (aU.mk cZ (cZ ++ ([0] : List UInt8)) false) true)]) true, .row 9 (List.map aJ ([] : List au)) true]) rfl (dh.cons (AW.dX _ _ _) (dh.cons (AW.refl _) (dh.cons (AW.refl _) dh.nil))) rfl) (Wk.trans (Wk.dD (σ' := [.box (.d (eApiTable p0)), .box (.agg [.slc 6 9 0 (([] : List au).length) none, .d .aA, .d .aA]), .box (.d (aC fZ)), .box (.d (aC gF)), .box (.agg [.d .aA, .slc 5 5 0 ([(ay.mk p0.Tree (aU.mk cZ (cZ ++ ([0] : List UInt8)) false) true)].length) none, .d .aA]), .row 5 (List.map aK [(ay.mk p0.Tree (aU.mk cZ (cZ ++ ([0] : List UInt8)) false) true)]) true, .row 9 (List.map aJ ([] : List au)) true, .row 5 (List.map aK ([] : List ay)) true]) (.row 5 [] true) (fun _ hh => by cases hh) rfl) (Wk.trans (Wk.jh (id := 1) (y := .agg [.slc 6 9 0 (([] : List au).length) none, .slc 7 5 0 (([] : List ay).length) none, .d .aA]) (σ' := [.box (.d (eApiTable p0)), .box (.agg [.slc 6 9 0 (([] : List au).length) none, .slc 7 5 0 (([] : List ay).length) none, .d .aA]), .box (.d (aC fZ)), .box (.d (aC gF)), .box (.agg [.d .aA, .slc 5 5 0 ([(ay.mk p0.Tree (aU.mk cZ (cZ ++ ([0] : List UInt8)) false) true)].length) none, .d .aA]), .row 5 (List.map aK [(ay.mk p0.Tree (aU.mk cZ (cZ ++ ([0] : List UInt8)) false) true)]) true, .row 9 (List.map aJ ([] : List au)) true, .row 5 (List.map aK ([] : List ay)) true]) rfl (dh.cons (AW.refl _) (dh.cons (AW.dX _ _ _) (dh.cons (AW.refl _) dh.nil))) rfl) (Wk.trans (Wk.dD (σ' := [.box (.d (eApiTable p0)), .box (.agg [.slc 6 9 0 (([] : List au).length) none, .slc 7 5 0 (([] : List ay).length) none, .d .aA]), .box (.d (aC fZ)), .box (.d (aC gF)), .box (.agg [.d .aA, .slc 5 5 0 ([(ay.mk p0.Tree (aU.mk cZ (cZ ++ ([0] : List UInt8)) false) true)].length) none, .d .aA]), .row 5 (List.map aK [(ay.mk p0.Tree (aU.mk cZ (cZ ++ ([0] : List UInt8)) false) true)]) true, .row 9 (List.map aJ ([] : List au)) true, .row 5 (List.map aK ([] : List ay)) true, .row 4 (List.map bg ([] : List aX)) true]) (.row 4 [] true) (fun _ hh => by cases hh) rfl) (Wk.trans (Wk.jh (id := 1) (y := .agg [.slc 6 9 0 (([] : List au).length) none, .slc 7 5 0 (([] : List ay).length) none, .slc 8 4 0 (([] : List aX).length) none]) (σ' := [.box (.d (eApiTable p0)), .box (.agg [.slc 6 9 0 (([] : List au).length) none, .slc 7 5 0 (([] : List ay).length) none, .slc 8 4 0 (([] : List aX).length) none]), .box (.d (aC fZ)), .box (.d (aC gF)), .box (.agg [.d .aA, .slc 5 5 0 ([(ay.mk p0.Tree (aU.mk cZ (cZ ++ ([0] : List UInt8)) false) true)].length) none, .d .aA]), .row 5 (List.map aK [(ay.mk p0.Tree (aU.mk cZ (cZ ++ ([0] : List UInt8)) false) true)]) true, .row 9 (List.map aJ ([] : List au)) true, .row 5 (List.map aK ([] : List ay)) true, .row 4 (List.map bg ([] : List aX)) true]) rfl (dh.cons (AW.refl _) (dh.cons (AW.refl _) (dh.cons (AW.dX _ _ _) dh.nil))) rfl) (wc (e' := [(8, .ref 0 0 0), (9, .d (eI xR))]) [1, 6, 7, 8] [1] (by kernel_rfl) rfl (by kernel_rfl)))))))) (gD rfl (aj mh yh rfl rfl) (aI rfl aG)) rfl)))))))
         ·obtain ⟨_, Vj, h1⟩ := ob h1; have q := si h1; subst q
          exact sk (SC.region (s1 (far (k := 4) rfl AA bO rfl) (s1 (aS rfl (aj bO dW rfl rfl)) (sm rfl (sm rfl (s1 (l8 rfl (AQ (1 : Int) cZ Uv)) (cq [4, 5] [6] (sK p0.Tree (bL.mk (0 : UInt64) (1 : Int) cZ (0 : UInt64) Uv (0 : Int) (0 : UInt64)) [(ay.mk p0.Tree (aU.mk cZ (cZ ++ ([0] : List UInt8)) false) true)] _ Vj) wf rfl rfl rfl Yc rfl rfl rfl rfl rfl rfl rfl rfl (SO.nil (lf (wc [0, 1, 2, 3, 4, 6, 5] [0, 1, 2, 3, 4] (by kernel_rfl) rfl (by kernel_rfl)))))))))))
        ·obtain ⟨_, afQ, h1⟩ := ob h1; have q := si h1; subst q
         exact SC.region (s1 (far (k := 4) rfl AA bO rfl) (s1 (aS rfl (aj bO dW rfl rfl)) (sm rfl (s1 (l8 rfl (Nr (2 : Int) cZ)) (cq [4, 5] [6] (sK p0.Tree (bL.mk (0 : UInt64) (2 : Int) cZ (0 : UInt64) ([] : List UInt8) (0 : Int) (0 : UInt64)) [(ay.mk p0.Tree (aU.mk cZ (cZ ++ ([0] : List UInt8)) false) true)] _ afQ) wf rfl rfl rfl Yc rfl rfl rfl rfl rfl rfl rfl rfl (SO.nil (lf (wc [0, 1, 2, 3, 4, 6, 5] [0, 1, 2, 3, 4] (by kernel_rfl) rfl (by kernel_rfl)))))))))
       ·rintro N9 h0
        refine SC.bJ h0 (fun y => ⟨mk 139 [(8, .ref 0 0 0), (14, .ref 1 0 0)], [.box (.d (.agg [.aA, .aA, .aA])), .box (.agg [.slc 2 9 0 y.1.length none, .slc 3 5 0 y.2.1.length none, .slc 4 4 0 y.2.2.length none]), .row 9 (List.map aJ y.1) true, .row 5 (List.map aK y.2.1) true, .row 4 (List.map bg y.2.2) true]⟩) ?_ ?_
        ·intro ak2 h1
         obtain ⟨ako, h2, h1⟩ := ob h1
         refine sr (s1 (far (k := 3) rfl sH sZ rfl) (s1 (aS rfl (aj sZ Iw rfl rfl)) (s1 (len rfl rfl rfl (aZ CP)) (sm rfl (sn (SC.blk (SC.dH h2 (fun y => ⟨mk 139 [(1, .d ((eL 2 eFanBuilt) p1)), (4, .ref 0 0 0), (8, .ref 1 0 0), (10, .ref 2 0 0), (12, .ref 3 0 0), (13, .d (eS cZ)), (14, .ref 4 0 0), (107, .d ((eL 6 eApiIndex) p0.aY)), (108, .d (eI (p0.aY.length : Int))), (109, .d (eI y.1))], [.box (.d (eApiTable p0)), .box (.d (.agg [.aA, .aA, .aA])), .box (.d (aC fZ)), .box (.d (aC gF)), .box (.agg [.slc 5 9 0 y.2.1.length none, .slc 6 5 0 y.2.2.1.length none, .slc 7 4 0 y.2.2.2.length none]), .row 9 (List.map aJ y.2.1) true, .row 5 (List.map aK y.2.2.1) true, .row 4 (List.map bg y.2.2.2) true]⟩) (Wk.trans (Wk.dD (σ' := [.box (.d (eApiTable p0)), .box (.d (.agg [.aA, .aA, .aA])), .box (.d (aC fZ)), .box (.d (aC gF)), .box (.agg [.slc 5 9 0 N9.length none, .slc 6 5 0 ([(ay.mk p0.Tree (aU.mk cZ (cZ ++ ([0] : List UInt8)) false) true)].length) none, .d .aA]), .row 9 (List.map aJ N9) true, .row 5 (List.map aK [(ay.mk p0.Tree (aU.mk cZ (cZ ++ ([0] : List UInt8)) false) true)]) true, .row 4 (List.map bg ([] : List aX)) true]) (.row 4 [] true) (fun _ hh => by cases hh) rfl) (Wk.trans (Wk.jh (id := 4) (y := .agg [.slc 5 9 0 N9.length none, .slc 6 5 0 ([(ay.mk p0.Tree (aU.mk cZ (cZ ++ ([0] : List UInt8)) false) true)].length) none, .slc 7 4 0 (([] : List aX).length) none]) (σ' := [.box (.d (eApiTable p0)), .box (.d (.agg [.aA, .aA, .aA])), .box (.d (aC fZ)), .box (.d (aC gF)), .box (.agg [.slc 5 9 0 N9.length none, .slc 6 5 0 ([(ay.mk p0.Tree (aU.mk cZ (cZ ++ ([0] : List UInt8)) false) true)].length) none, .slc 7 4 0 (([] : List aX).length) none]), .row 9 (List.map aJ N9) true, .row 5 (List.map aK [(ay.mk p0.Tree (aU.mk cZ (cZ ++ ([0] : List UInt8)) false) true)]) true, .row 4 (List.map bg ([] : List aX)) true]) rfl (dh.cons (AW.refl _) (dh.cons (AW.refl _) (dh.cons (AW.dX _ _ _) dh.nil))) rfl) (wq rfl))) ?_)))))))
         intro aok
         rintro ⟨Lx, N8, N7, NZ⟩ ajk h3 hv3
         refine sr (s1 (bi rfl rfl aQ) (sn (sq (cB h3 rfl (fun h3 => ?_) (fun h3 => ?_)))))
         ·refine sk (SC.bJ h3 (fun y => ⟨mk 139 [(1, .d ((eL 2 eFanBuilt) p1)), (4, .ref 0 0 0), (8, .ref 1 0 0), (10, .ref 2 0 0), (12, .ref 3 0 0), (13, .d (eS cZ)), (14, .ref 4 0 0), (107, .d ((eL 6 eApiIndex) p0.aY)), (108, .d (eI (p0.aY.length : Int))), (109, .d (eI Lx))], [.box (.d (eApiTable p0)), .box (.d (.agg [.aA, .aA, .aA])), .box (.d (aC fZ)), .box (.d (aC gF)), .box (.agg [.slc 5 9 0 y.1.length none, .slc 6 5 0 y.2.1.length none, .slc 7 4 0 y.2.2.length none]), .row 9 (List.map aJ y.1) true, .row 5 (List.map aK y.2.1) true, .row 4 (List.map bg y.2.2) true]⟩) ?_ ?_)
          ·intro aj4 h4
           obtain ⟨LU, Zo, h4⟩ := ob h4
           refine SC.blk (sr (sm rfl (s1 (j4 rfl rfl CP wu (ak Zo).1 (aT (ak Zo).2) rfl) (s1 (aS (v := .d (eApiIndex LU)) rfl (bK wu F8 rfl)) (s1 (qV (k := 8) adb rfl) (sa rfl (s0 (fJ rfl rfl (sB (d' := .d (eApiIndex LU)) wu rfl rfl rfl rfl rfl rfl rfl)) (sn (SC.bJ h4 (fun y => ⟨mk 139 [(1, .d ((eL 2 eFanBuilt) p1)), (4, .ref 0 0 0), (8, .ref 1 0 0), (10, .ref 2 0 0), (12, .ref 3 0 0), (13, .d (eS cZ)), (14, .ref 4 0 0), (18, .ref 5 0 0), (107, .d ((eL 6 eApiIndex) p0.aY)), (108, .d (eI (p0.aY.length : Int))), (109, .d (eI Lx)), (131, .d (eB y))], [.box (.d (eApiTable p0)), .box (.d (.agg [.aA, .aA, .aA])), .box (.d (aC fZ)), .box (.d (aC gF)), .box (.agg [.slc 6 9 0 N8.length none, .slc 7 5 0 N7.length none, .slc 8 4 0 NZ.length none]), .box (.d (eApiIndex LU)), .row 9 (List.map aJ N8) true, .row 5 (List.map aK N7) true, .row 4 (List.map bg NZ) true]⟩) ?_ ?_)))))))))
           ·intro ajX h5
            refine SC.region (s1 (far (k := 4) rfl O6 jV rfl) (s1 (aS rfl (aj jV zD rfl rfl)) (sm rfl (sp h5 (fun h5 => ?_) (fun h5 => ?_)))))
            ·have q := si h5; subst q
             refine kw rfl (kw rfl (kw rfl (kw rfl (kw rfl (kw rfl (kw rfl (kw rfl (kw rfl (kw rfl ?_)))))))))
             exact kw rfl (kw rfl (kw rfl (kw rfl (s1 (pkt rfl rfl) (SO.nil ((wc [0, 1, 2, 3, 4, 8, 5, 6, 7] [0, 1, 2, 3, 4, 8] (by kernel_rfl) rfl (by kernel_rfl))))))))
            ·obtain ⟨ad9, Zn, h5⟩ := ob h5
             refine gw rfl (mv rfl) (gw rfl (mv rfl) (gw rfl (j4 rfl rfl Xc aeE (ak Zn).1 (aT (ak Zn).2) rfl) (gw rfl (fap rfl acs jV rfl) (gw rfl (aS rfl (bK jV zD rfl)) (gw rfl (mv rfl) (sp h5 (fun h5 => ?_) (fun h5 => ?_)))))))
             ·obtain ⟨aaI, Zm, h5⟩ := ob h5; have q := si h5; subst q
              refine gw rfl (mv rfl) (gw rfl (mv rfl) (gw rfl (mv rfl) (gw rfl (j4 rfl rfl Xc aeE (ak Zm).1 (aT (ak Zm).2) rfl) (gw rfl (fap rfl acu eT rfl) (gw rfl (aS rfl (bK eT jy rfl)) (gw rfl (bi rfl rfl Rq) (gw rfl (pkt rfl rfl) (s1 (dB rfl rfl) (SO.nil ?_)))))))))
              exact (wc [0, 1, 2, 3, 4, 8, 5, 6, 7] [0, 1, 2, 3, 4, 8] (by kernel_rfl) rfl (by kernel_rfl))
             ·have q := si h5; subst q
              refine kw rfl (kw rfl (kw rfl (kw rfl (kw rfl (kw rfl (kw rfl (gw rfl (dB rfl rfl) (s1 (dB rfl rfl) (SO.nil ?_)))))))))
              exact (wc [0, 1, 2, 3, 4, 8, 5, 6, 7] [0, 1, 2, 3, 4, 8] (by kernel_rfl) rfl (by kernel_rfl))
           ·rintro adv h4
            refine cB h4 rfl (fun h4 => ?_) (fun h4 => ?_)
            ·obtain ⟨⟨aeT, aeS, aeR⟩, afN, h4⟩ := ob h4; have q := si h4; subst q
             exact SC.region (s1 (aS (v := .d (eApiTable p0)) rfl (aj uE vk rfl rfl)) (s1 (aS (v := .d (eApiIndex LU)) rfl (aj wu F8 rfl rfl)) (s1 (aS (v := .d (aC fZ)) rfl (aj zA EU rfl rfl)) (s1 (aS (v := .d (aC gF)) rfl (aj zA EU rfl rfl)) (cq [4, 6, 7, 8] [9, 10, 11] (zJ p0 LU fZ gF N8 N7 NZ _ afN) wf rfl rfl rfl ant rfl rfl rfl rfl rfl rfl rfl rfl (SO.nil ((wc [0, 1, 2, 3, 4, 9, 10, 11] [0, 1, 2, 3, 4] (by kernel_rfl) rfl (by kernel_rfl)))))))))
            ·have q := si h4; subst q
             exact SC.skip ((wc [0, 1, 2, 3, 4, 6, 7, 8] [0, 1, 2, 3, 4] (by kernel_rfl) rfl (by kernel_rfl)))
          ·rintro ⟨ady, adx, adw⟩ h3
           have q := si h3; subst q
           exact SC.region (s1 (bi rfl rfl aR) (sm rfl (SO.nil (lf (wq rfl)))))
         ·have q := si h3; subst q; have q : _ = _ := hv3; subst q; have q := si h1; subst q
          exact SC.exit ((wc [1, 4, 5, 6, 7] [1, 4] (by kernel_rfl) rfl (by kernel_rfl)))
        ·rintro ⟨WQ, WO, WM⟩ h0
         have q := si h0; subst q
         exact sr (s1 (aS (v := .agg [.slc 2 9 0 WQ.length none, .slc 3 5 0 WO.length none, .slc 4 4 0 WM.length none]) rfl (aj mh yh rfl rfl)) (s0 (fJ rfl rfl (sB (d' := .agg [.slc 2 9 0 WQ.length none, .slc 3 5 0 WO.length none, .slc 4 4 0 WM.length none]) mh rfl rfl rfl rfl rfl rfl rfl)) (sa rfl (sn (SC.ret (aV (wc (e' := [(8, .ref 0 0 0), (9, .d (eI (0 : Int)))]) [0, 2, 3, 4] [0] (by kernel_rfl) rfl (by kernel_rfl)) (gD rfl (aj mh yh rfl rfl) (aI rfl aG)) rfl))))))
noncomputable def qp : Option Bool :=
 bif decide (0 ≤ (1 : Int) ∧ (1 : Int) * 24 ≤ 70368744177664 ∧ (1 : Int) ≤ 70368744177664) then
 Option.bind (sM (ApiTable.mk ([97] : List UInt8) [(ApiColumn.mk ([105, 100] : List UInt8) (1 : Int) (0 : Int) false (ApiValue.mk (1 : Int) (0 : UInt64) ([] : List UInt8))), (ApiColumn.mk ([110] : List UInt8) (1 : Int) (0 : Int) false (ApiValue.mk (1 : Int) (0 : UInt64) ([] : List UInt8)))] [(0 : Int)] [(ApiIndex.mk ([120] : List UInt8) [(ApiPart.mk (1 : Int) false)] ([] : List Int) true true (3 : Int))] (2 : Int)) (List.replicate (1 : Int).toNat (FanBuilt.mk ([] : List UInt8) false)) ([] : List ApiValue) [(ApiValue.mk (1 : Int) (1 : UInt64) ([] : List UInt8)), (ApiValue.mk (1 : Int) (2 : UInt64) ([] : List UInt8))]) fun (r28, Fe, r30, Xw) =>
 Option.bind (α := Bool)
 (bif (r28 == (0 : Int)) then
 bif ((Fe.length : Int) == (2 : Int)) then
 bif ((r30.length : Int) == (3 : Int)) then
 bif ((Xw.length : Int) == (1 : Int)) then
 Option.bind (bF Fe (1 : Int)) fun v36 =>
 bif (v36.Tree == (3 : Int)) then
 Option.bind (o7 ([97] : List UInt8)) fun _ =>
 some ((([97] : List UInt8) ++ ([0] : List UInt8)) == ([97, 0] : List UInt8))
 else
 some false
 else
 some false
 else
 some false
 else
 some false
 else
 some false)
 fun y34 =>
 some y34
 else none
theorem GY (r : Bool) (h0 : qp = some r) : aL Tryz.prog 5 [] [] (.d (eB r)) [] := by
 unfold qp at h0
 refine fn0 [] Tryz.func5 rfl rfl rfl rfl rfl ?_
 obtain ⟨amM, h0⟩ := gd h0; obtain ⟨⟨r28, Fe, r30, Xw⟩, amt, h0⟩ := ob h0
 refine sr (sa rfl (sn (sr (s1 (l8 rfl (PI (1 : Int))) (s1 (l8 rfl (HZ ([105, 100] : List UInt8) (1 : Int) (ApiValue.mk (1 : Int) (0 : UInt64) ([] : List UInt8)))) (s1 (l8 rfl (PI (1 : Int))) (s1 (l8 rfl (HZ ([110] : List UInt8) (1 : Int) (ApiValue.mk (1 : Int) (0 : UInt64) ([] : List UInt8)))) (s1 (tH (k := 0) (ds := List.map eApiColumn [(ApiColumn.mk ([105, 100] : List UInt8) (1 : Int) (0 : Int) false (ApiValue.mk (1 : Int) (0 : UInt64) ([] : List UInt8))), (ApiColumn.mk ([110] : List UInt8) (1 : Int) (0 : Int) false (ApiValue.mk (1 : Int) (0 : UInt64) ([] : List UInt8)))]) (off := 0) (l' := [(ApiColumn.mk ([105, 100] : List UInt8) (1 : Int) (0 : Int) false (ApiValue.mk (1 : Int) (0 : UInt64) ([] : List UInt8))), (ApiColumn.mk ([110] : List UInt8) (1 : Int) (0 : Int) false (ApiValue.mk (1 : Int) (0 : UInt64) ([] : List UInt8)))].length) rfl iF acG rfl rfl (by rfl) rfl rfl rfl) (s1 (tH (k := 1) (ds := List.map eI [(0 : Int)]) (off := 0) (l' := [(0 : Int)].length) rfl mO ei3 rfl rfl (by rfl) rfl rfl rfl) ?_)))))))))
 refine s1 (l8 rfl (KZ ([97] : List UInt8) (2 : Int))) (s1 (qV (k := 2) ai9 rfl) (s0 (fJ rfl rfl (sB (d' := .agg [.d (eS ([97] : List UInt8)), .slc 0 7 0 ([(ApiColumn.mk ([105, 100] : List UInt8) (1 : Int) (0 : Int) false (ApiValue.mk (1 : Int) (0 : UInt64) ([] : List UInt8))), (ApiColumn.mk ([110] : List UInt8) (1 : Int) (0 : Int) false (ApiValue.mk (1 : Int) (0 : UInt64) ([] : List UInt8)))].length) none, .slc 1 1 0 ([(0 : Int)].length) none, .d .aA, .d (eI (2 : Int))]) uE rfl rfl rfl rfl rfl rfl rfl)) (sn (sr (s1 (l8 rfl (PD (1 : Int))) (s1 (tH (k := 3) (ds := List.map eApiPart [(ApiPart.mk (1 : Int) false)]) (off := 0) (l' := [(ApiPart.mk (1 : Int) false)].length) rfl xP VH rfl rfl (by rfl) rfl rfl rfl) (s1 (l8 rfl (HY ([120] : List UInt8) true true (3 : Int))) (SO.wk (Wk.jN (i := 13) (x := .agg [.d (eS ([120] : List UInt8)), .slc 3 2 0 ([(ApiPart.mk (1 : Int) false)].length) none, .d .aA, .d (eB true), .d (eB true), .d (eI (3 : Int))]) rfl rfl rfl (wM rfl (qw (fF rfl rfl rfl) (wM rfl (wM rfl (wM rfl (wM rfl Cb))))))) (SO.wk (Wk.alZ (i := 13) (x := .d (.agg [(eS ([120] : List UInt8)), ((eL 2 eApiPart) [(ApiPart.mk (1 : Int) false)]), .aA, (eB true), (eB true), (eI (3 : Int))])) (y := .d (eApiIndex (ApiIndex.mk ([120] : List UInt8) [(ApiPart.mk (1 : Int) false)] ([] : List Int) true true (3 : Int)))) rfl rfl (AW.Yi rfl (dh.cons (AW.refl _) (dh.cons (AW.refl _) (dh.cons (AW.nl _) (dh.cons (AW.refl _) (dh.cons (AW.refl _) (dh.cons (AW.refl _) dh.nil)))))))) ?_)))))))))
 refine s1 (tH (k := 4) (ds := List.map eApiIndex [(ApiIndex.mk ([120] : List UInt8) [(ApiPart.mk (1 : Int) false)] ([] : List Int) true true (3 : Int))]) (off := 0) (l' := [(ApiIndex.mk ([120] : List UInt8) [(ApiPart.mk (1 : Int) false)] ([] : List Int) true true (3 : Int))].length) rfl CP amW rfl rfl (by rfl) rfl rfl rfl) (s1 (far (k := 3) rfl sH sZ rfl) (s0 (fJ rfl rfl (sB (d' := .agg [.d (eS ([97] : List UInt8)), .slc 0 7 0 ([(ApiColumn.mk ([105, 100] : List UInt8) (1 : Int) (0 : Int) false (ApiValue.mk (1 : Int) (0 : UInt64) ([] : List UInt8))), (ApiColumn.mk ([110] : List UInt8) (1 : Int) (0 : Int) false (ApiValue.mk (1 : Int) (0 : UInt64) ([] : List UInt8)))].length) none, .slc 1 1 0 ([(0 : Int)].length) none, .slc 4 6 0 ([(ApiIndex.mk ([120] : List UInt8) [(ApiPart.mk (1 : Int) false)] ([] : List Int) true true (3 : Int))].length) none, .d (eI (2 : Int))]) sZ rfl rfl rfl rfl rfl rfl rfl)) (sn (sd (by kernel_rfl) (t1 ([2], false) (aS (v := .agg [.d (eS ([97] : List UInt8)), .slc 0 7 0 ([(ApiColumn.mk ([105, 100] : List UInt8) (1 : Int) (0 : Int) false (ApiValue.mk (1 : Int) (0 : UInt64) ([] : List UInt8))), (ApiColumn.mk ([110] : List UInt8) (1 : Int) (0 : Int) false (ApiValue.mk (1 : Int) (0 : UInt64) ([] : List UInt8)))].length) none, .slc 1 1 0 ([(0 : Int)].length) none, .slc 4 6 0 ([(ApiIndex.mk ([120] : List UInt8) [(ApiPart.mk (1 : Int) false)] ([] : List Int) true true (3 : Int))].length) none, .d (eI (2 : Int))]) rfl (aj uE vk rfl rfl)) rfl ?_)))))
 refine t1 ([5], true) (mks (f := eFanBuilt) (u := (FanBuilt.mk ([] : List UInt8) false)) (k := 5) rfl rfl Xc amV rfl amM rfl) rfl (t1 ([], false) (l8 rfl (Nq (1 : Int) (1 : UInt64))) rfl (t1 ([], false) (l8 rfl (Nq (1 : Int) (2 : UInt64))) rfl (t1 ([6], true) (tH (k := 6) (ds := List.map eApiValue [(ApiValue.mk (1 : Int) (1 : UInt64) ([] : List UInt8)), (ApiValue.mk (1 : Int) (2 : UInt64) ([] : List UInt8))]) (off := 0) (l' := [(ApiValue.mk (1 : Int) (1 : UInt64) ([] : List UInt8)), (ApiValue.mk (1 : Int) (2 : UInt64) ([] : List UInt8))].length) rfl fu wT rfl rfl (by rfl) rfl rfl rfl) rfl (tq (args' := [.agg [.d (eS ([97] : List UInt8)), .slc 0 7 0 ([(ApiColumn.mk ([105, 100] : List UInt8) (1 : Int) (0 : Int) false (ApiValue.mk (1 : Int) (0 : UInt64) ([] : List UInt8))), (ApiColumn.mk ([110] : List UInt8) (1 : Int) (0 : Int) false (ApiValue.mk (1 : Int) (0 : UInt64) ([] : List UInt8)))].length) none, .slc 1 1 0 ([(0 : Int)].length) none, .slc 2 6 0 ([(ApiIndex.mk ([120] : List UInt8) [(ApiPart.mk (1 : Int) false)] ([] : List Int) true true (3 : Int))].length) none, .d (eI (2 : Int))], .slc 3 2 0 ((List.replicate (1 : Int).toNat (FanBuilt.mk ([] : List UInt8) false)).length) none, .d .aA, .slc 4 3 0 ([(ApiValue.mk (1 : Int) (1 : UInt64) ([] : List UInt8)), (ApiValue.mk (1 : Int) (2 : UInt64) ([] : List UInt8))].length) none]) (lT := [.row 7 (List.map eApiColumn [(ApiColumn.mk ([105, 100] : List UInt8) (1 : Int) (0 : Int) false (ApiValue.mk (1 : Int) (0 : UInt64) ([] : List UInt8))), (ApiColumn.mk ([110] : List UInt8) (1 : Int) (0 : Int) false (ApiValue.mk (1 : Int) (0 : UInt64) ([] : List UInt8)))]) true, .row 1 (List.map eI [(0 : Int)]) true, .row 6 (List.map eApiIndex [(ApiIndex.mk ([120] : List UInt8) [(ApiPart.mk (1 : Int) false)] ([] : List Int) true true (3 : Int))]) true, .row 2 (List.map eFanBuilt (List.replicate (1 : Int).toNat (FanBuilt.mk ([] : List UInt8) false))) true, .row 3 (List.map eApiValue [(ApiValue.mk (1 : Int) (1 : UInt64) ([] : List UInt8)), (ApiValue.mk (1 : Int) (2 : UInt64) ([] : List UInt8))]) true]) [0, 1, 4, 5, 6] [7, 8, 9, 10] ([0, 1, 4, 5, 6, 7, 8, 9, 10], true) (aL.lX (fM.XW (y := .d (eApiTable (ApiTable.mk ([97] : List UInt8) [(ApiColumn.mk ([105, 100] : List UInt8) (1 : Int) (0 : Int) false (ApiValue.mk (1 : Int) (0 : UInt64) ([] : List UInt8))), (ApiColumn.mk ([110] : List UInt8) (1 : Int) (0 : Int) false (ApiValue.mk (1 : Int) (0 : UInt64) ([] : List UInt8)))] [(0 : Int)] [(ApiIndex.mk ([120] : List UInt8) [(ApiPart.mk (1 : Int) false)] ([] : List Int) true true (3 : Int))] (2 : Int)))) rfl (wM rfl (qw (fF rfl rfl rfl) (qw (fF rfl rfl rfl) (qw (fF rfl rfl rfl) (wM rfl Cb))))) (AW.Yi rfl (dh.cons (AW.refl _) (dh.cons (AW.refl _) (dh.cons (AW.refl _) (dh.cons (AW.refl _) (dh.cons (AW.refl _) dh.nil)))))) (fM.lX (fF rfl rfl rfl) (fM.aw (AW.nl _) (fM.lX (fF rfl rfl rfl) (fM.nil _))))) (fq [] [5, 6, 7, 8] (I6 (ApiTable.mk ([97] : List UInt8) [(ApiColumn.mk ([105, 100] : List UInt8) (1 : Int) (0 : Int) false (ApiValue.mk (1 : Int) (0 : UInt64) ([] : List UInt8))), (ApiColumn.mk ([110] : List UInt8) (1 : Int) (0 : Int) false (ApiValue.mk (1 : Int) (0 : UInt64) ([] : List UInt8)))] [(0 : Int)] [(ApiIndex.mk ([120] : List UInt8) [(ApiPart.mk (1 : Int) false)] ([] : List Int) true true (3 : Int))] (2 : Int)) (List.replicate (1 : Int).toNat (FanBuilt.mk ([] : List UInt8) false)) ([] : List ApiValue) [(ApiValue.mk (1 : Int) (1 : UInt64) ([] : List UInt8)), (ApiValue.mk (1 : Int) (2 : UInt64) ([] : List UInt8))] _ amt) rfl rfl rfl rfl rfl rfl rfl rfl)) wf rfl rfl rfl anD rfl rfl rfl rfl rfl rfl rfl rfl rfl ?_))))
 refine t1 ([], false) (mv rfl) rfl (t1 ([], false) (ext rfl rfl) rfl (t1 ([], false) (ext rfl rfl) rfl (t1 ([11], true) (qV (k := 11) QJ rfl) rfl (t0 ([11, 8, 9, 10], true) (fJ rfl rfl (sB (d' := .agg [.slc 8 9 0 Fe.length none, .slc 9 5 0 r30.length none, .slc 10 4 0 Xw.length none]) mh rfl rfl rfl rfl rfl rfl rfl)) rfl (t1 ([], false) (ig rfl) rfl (tn (by decide +kernel) (SC.bJ h0 (fun y => ⟨mk 58 [(0, .d (eB y))], []⟩) ?_ ?_)))))))
 ·intro YQ h1
  refine SC.region (sm rfl (s1 (bi rfl rfl aP) (sm rfl (sp h1 (fun h1 => ?_) (fun h1 => ?_)))))
  ·refine gw rfl (far (k := 0) rfl oh oz rfl) (gw rfl (aS rfl (aj oz EX rfl rfl)) (gw rfl (len rfl rfl rfl (dS Bo)) (gw rfl (bi rfl rfl aP) (s1 (pkt rfl rfl) (sm rfl (sp h1 (fun h1 => ?_) (fun h1 => ?_)))))))
   ·refine gw rfl (far (k := 1) rfl yR sW rfl) (gw rfl (aS rfl (aj sW Ox rfl rfl)) (gw rfl (len rfl rfl rfl (dS Bn)) (gw rfl (bi rfl rfl aP) (s1 (pkt rfl rfl) (sm rfl (sp h1 (fun h1 => ?_) (fun h1 => ?_)))))))
    ·refine gw rfl (far (k := 2) rfl Az Br rfl) (gw rfl (aS rfl (aj Br Rb rfl rfl)) (gw rfl (len rfl rfl rfl (dS Ot)) (gw rfl (bi rfl rfl aP) (s1 (pkt rfl rfl) (sm rfl (sp h1 (fun h1 => ?_) (fun h1 => ?_)))))))
     ·obtain ⟨v36, afz, h1⟩ := ob h1
      refine gw rfl (far (k := 0) rfl oh oz rfl) (gw rfl (aS rfl (aj oz EX rfl rfl)) (gw rfl (CB rfl rfl Bo Ou (fT afz)) (gw rfl (far (k := 1) rfl VF bO rfl) (gw rfl (aS rfl (gH bO dW rfl (aT (ak afz).2) rfl)) (gw rfl (bi rfl rfl aP) (s1 (pkt rfl rfl) (sm rfl (sp h1 (fun h1 => ?_) (fun h1 => ?_)))))))))
      ·obtain ⟨_, amn, h1⟩ := ob h1; have q := si h1; subst q
       exact cq [] [12] (wR ([97] : List UInt8) _ amn) (ww rfl) rfl rfl rfl cb6 rfl rfl rfl rfl rfl rfl rfl rfl (gw rfl (fld rfl acz eT jy rfl rfl) (gw rfl (bi rfl rfl (iC (b := ([97, 0] : List UInt8)))) (s1 (pkt rfl rfl) (sa rfl (SO.nil ((wc [] [] (by kernel_rfl) rfl (by kernel_rfl))))))))
      ·have q := si h1; subst q
       exact kw rfl (kw rfl (kw rfl (s1 (dB rfl rfl) (sa rfl (SO.nil ((wc [] [] (by kernel_rfl) rfl (by kernel_rfl))))))))
     ·have q := si h1; subst q
      refine kw rfl (kw rfl (kw rfl (kw rfl (kw rfl (kw rfl (s1 (dB rfl rfl) (sm rfl (kw rfl (kw rfl ?_)))))))))
      exact kw rfl (s1 (dB rfl rfl) (sa rfl (SO.nil ((wc [] [] (by kernel_rfl) rfl (by kernel_rfl))))))
    ·have q := si h1; subst q
     refine kw rfl (kw rfl (kw rfl (kw rfl (s1 (dB rfl rfl) (sm rfl (kw rfl (kw rfl (kw rfl (kw rfl ?_)))))))))
     refine kw rfl (kw rfl (s1 (dB rfl rfl) (sm rfl (kw rfl (kw rfl (kw rfl (s1 (dB rfl rfl) (sa rfl (SO.nil ?_)))))))))
     exact (wc [] [] (by kernel_rfl) rfl (by kernel_rfl))
   ·have q := si h1; subst q
    refine kw rfl (kw rfl (kw rfl (kw rfl (s1 (dB rfl rfl) (sm rfl (kw rfl (kw rfl (kw rfl (kw rfl ?_)))))))))
    refine s1 (dB rfl rfl) (sm rfl (kw rfl (kw rfl (kw rfl (kw rfl (kw rfl (kw rfl (s1 (dB rfl rfl) (sm rfl ?_)))))))))
    exact kw rfl (kw rfl (kw rfl (s1 (dB rfl rfl) (sa rfl (SO.nil ((wc [] [] (by kernel_rfl) rfl (by kernel_rfl))))))))
  ·have q := si h1; subst q
   refine kw rfl (kw rfl (kw rfl (kw rfl (s1 (dB rfl rfl) (sm rfl (kw rfl (kw rfl (kw rfl (kw rfl ?_)))))))))
   refine s1 (dB rfl rfl) (sm rfl (kw rfl (kw rfl (kw rfl (kw rfl (s1 (dB rfl rfl) (sm rfl (kw rfl (kw rfl ?_)))))))))
   refine kw rfl (kw rfl (kw rfl (kw rfl (s1 (dB rfl rfl) (sm rfl (kw rfl (kw rfl (kw rfl (s1 (dB rfl rfl) ?_)))))))))
   exact sa rfl (SO.nil ((wc [] [] (by kernel_rfl) rfl (by kernel_rfl))))
 ·rintro y34 h0
  have q := si h0; subst q
  exact SC.ret (aV (Wk.refl _) (aI rfl aG) rfl)
noncomputable def mV (p0 : List UInt8) : Option Bool :=
 Option.bind (α := Bool)
 (bif (decide ((p0.length : Int) < (1 : Int))) then
 some true
 else
 bif (decide ((p0.length : Int) > (16 : Int))) then
 some true
 else
 Option.bind (bF p0 (0 : Int)) fun aei =>
 bif (decide (aei < (97 : UInt8))) then
 some true
 else
 Option.bind (bF p0 (0 : Int)) fun aeh =>
 some (decide ((122 : UInt8) < aeh)))
 fun adP =>
 bif adP then
 some false
 else
 eH (Y := Unit) (E := Bool)
 (Option.bind (α := Unit ⊕ Bool)
 (loop (Y := Int) (W := Unit ⊕ Bool) (fun Bd =>
 bif (decide (Bd < (p0.length : Int))) then
 Option.bind (α := Bool)
 (Option.bind (bF p0 Bd) fun aef =>
 bif (decide (aef < (97 : UInt8))) then
 Option.bind (bF p0 Bd) fun aee =>
 bif (decide (aee < (48 : UInt8))) then
 Option.bind (bF p0 Bd) fun TR =>
 some (TR != (95 : UInt8))
 else
 Option.bind (bF p0 Bd) fun TQ =>
 bif (decide ((57 : UInt8) < TQ)) then
 Option.bind (bF p0 Bd) fun TP =>
 some (TP != (95 : UInt8))
 else
 some false
 else
 Option.bind (bF p0 Bd) fun TN =>
 bif (decide ((122 : UInt8) < TN)) then
 Option.bind (bF p0 Bd) fun LW =>
 bif (decide (LW < (48 : UInt8))) then
 Option.bind (bF p0 Bd) fun LV =>
 some (LV != (95 : UInt8))
 else
 Option.bind (bF p0 Bd) fun aed =>
 bif (decide ((57 : UInt8) < aed)) then
 Option.bind (bF p0 Bd) fun aec =>
 some (aec != (95 : UInt8))
 else
 some false
 else
 some false)
 fun adH =>
 bif adH then
 some (Sum.inr (Sum.inr false))
 else
 some (Sum.inl (bD (Bd + (1 : Int))))
 else
 some (Sum.inr (Sum.inl ()))) (1 : Int))
 (Sum.elim (fun e => some (Sum.inl e)) (fun e => some (Sum.inr e))))
 (fun _ =>
 some true)
 (fun e => some e)
theorem uL (p0 : List UInt8) (r : Bool) (h0 : mV p0 = some r) : aL Tryz.prog 22 [.d (eS p0)] [] (.d (eB r)) [] := by
 unfold mV at h0
 refine fn0 [0] Tryz.func22 rfl rfl rfl rfl rfl ?_
 refine sr (sa rfl (sn (sq (SC.bJ h0 (fun y => ⟨mk 56 [(0, .d (eS p0)), (21, .d (eB y))], []⟩) ?_ ?_))))
 ·intro alg h1
  refine SC.region (sm rfl (s1 (len rfl rfl rfl (fK l9)) (s1 (bi rfl rfl aQ) (sm rfl (sp h1 (fun h1 => ?_) (fun h1 => ?_))))))
  ·have q := si h1; subst q
   refine kw rfl (kw rfl (kw rfl (s1 (pkt rfl rfl) (sm rfl (kw rfl (kw rfl (kw rfl (s1 (pkt rfl rfl) (sm rfl ?_)))))))))
   exact kw rfl (kw rfl (kw rfl (s1 (pkt rfl rfl) (SO.nil ((wq rfl))))))
  ·refine gw rfl (mv rfl) (gw rfl (len rfl rfl rfl (fK l9)) (gw rfl (bi rfl rfl bP) (s1 (dB rfl rfl) (sm rfl (sp h1 (fun h1 => ?_) (fun h1 => ?_))))))
   ·have q := si h1; subst q
    refine kw rfl (kw rfl (kw rfl (s1 (pkt rfl rfl) (sm rfl (kw rfl (kw rfl (kw rfl (s1 (pkt rfl rfl) (SO.nil ?_)))))))))
    exact (wq rfl)
   ·obtain ⟨aei, ZB, h1⟩ := ob h1
    refine gw rfl (mv rfl) (gw rfl (ixs rfl rfl rfl rfl (j6 l9 (ak ZB).1 (ak ZB).2)) (gw rfl (bi rfl rfl (yE (b := (97 : UInt8)))) (s1 (dB rfl rfl) (sm rfl (sp h1 (fun h1 => ?_) (fun h1 => ?_))))))
    ·have q := si h1; subst q
     exact kw rfl (kw rfl (kw rfl (s1 (pkt rfl rfl) (SO.nil ((wq rfl))))))
    ·obtain ⟨aeh, ZA, h1⟩ := ob h1; have q := si h1; subst q
     exact gw rfl (mv rfl) (gw rfl (ixs rfl rfl rfl rfl (j6 l9 (ak ZA).1 (ak ZA).2)) (gw rfl (bi rfl rfl (rX (b := (122 : UInt8)))) (s1 (dB rfl rfl) (SO.nil ((wq rfl))))))
 ·rintro adP h0
  refine cB h0 rfl (fun h0 => ?_) (fun h0 => ?_)
  ·have q := si h0; subst q
   exact sr (sa rfl (sn (SC.ret (aV (Wk.refl _) (aI rfl aG) rfl))))
  ·refine sk (SC.seqB h0 (fun y => ⟨mk 56 [], []⟩) ?_ ?_)
   ·intro alb h1 h0
    obtain ⟨aku, h2, h1⟩ := ob h1
    refine sr (sa rfl (sn (SC.blk (SC.dH h2 (fun y => ⟨mk 56 [(0, .d (eS p0)), (3, .d (eI y))], []⟩) (wq rfl) ?_))))
    intro aoo
    rintro Bd ajp h3 hv3
    refine sq (sr (sm rfl (sm rfl (s1 (len rfl rfl rfl (fK l9)) (s1 (bi rfl rfl aQ) (sn (cB h3 rfl (fun h3 => ?_) (fun h3 => ?_))))))))
    ·refine sk (sq (SC.blk (SC.bJ h3 (fun y => ⟨mk 56 [(0, .d (eS p0)), (3, .d (eI Bd)), (55, .d (eB y))], []⟩) ?_ ?_)))
     ·intro aj9 h4
      obtain ⟨aef, Zx, h4⟩ := ob h4
      refine SC.region (sm rfl (sm rfl (s1 (ixs rfl rfl rfl rfl (j6 l9 (ak Zx).1 (ak Zx).2)) (s1 (bi rfl rfl (yE (b := (97 : UInt8)))) (sm rfl (sp h4 (fun h4 => ?_) (fun h4 => ?_)))))))
      ·obtain ⟨aee, Zw, h4⟩ := ob h4
       refine kw rfl (kw rfl (kw rfl (kw rfl (s1 (pkt rfl rfl) (sm rfl (gw rfl (mv rfl) (gw rfl (mv rfl) (gw rfl (ixs rfl rfl rfl rfl (j6 l9 (ak Zw).1 (ak Zw).2)) (gw rfl (bi rfl rfl (yE (b := (48 : UInt8)))) ?_)))))))))
       refine gw rfl (mv rfl) (sp h4 (fun h4 => ?_) (fun h4 => ?_))
       ·obtain ⟨TR, MU, h4⟩ := ob h4; have q := si h4; subst q
        refine kw rfl (kw rfl (kw rfl (kw rfl (gw rfl (pkt rfl rfl) (s1 (pkt rfl rfl) (sm rfl (gw rfl (mv rfl) (gw rfl (mv rfl) (gw rfl (ixs rfl rfl rfl rfl (j6 l9 (ak MU).1 (ak MU).2)) ?_)))))))))
        exact gw rfl (bi rfl rfl (yD (b := (95 : UInt8)))) (s1 (pkt rfl rfl) (SO.nil ((wq rfl))))
       ·obtain ⟨TQ, MS, h4⟩ := ob h4
        refine gw rfl (mv rfl) (gw rfl (mv rfl) (gw rfl (ixs rfl rfl rfl rfl (j6 l9 (ak MS).1 (ak MS).2)) (gw rfl (bi rfl rfl (rX (b := (57 : UInt8)))) (gw rfl (dB rfl rfl) (s1 (pkt rfl rfl) (sm rfl (sp h4 (fun h4 => ?_) (fun h4 => ?_))))))))
        ·obtain ⟨TP, MQ, h4⟩ := ob h4; have q := si h4; subst q
         exact gw rfl (mv rfl) (gw rfl (mv rfl) (gw rfl (ixs rfl rfl rfl rfl (j6 l9 (ak MQ).1 (ak MQ).2)) (gw rfl (bi rfl rfl (yD (b := (95 : UInt8)))) (s1 (pkt rfl rfl) (SO.nil ((wq rfl)))))))
        ·have q := si h4; subst q
         exact kw rfl (kw rfl (kw rfl (kw rfl (s1 (dB rfl rfl) (SO.nil ((wq rfl)))))))
      ·obtain ⟨TN, MP, h4⟩ := ob h4
       refine gw rfl (mv rfl) (gw rfl (mv rfl) (gw rfl (ixs rfl rfl rfl rfl (j6 l9 (ak MP).1 (ak MP).2)) (gw rfl (bi rfl rfl (rX (b := (122 : UInt8)))) (s1 (dB rfl rfl) (sm rfl (sp h4 (fun h4 => ?_) (fun h4 => ?_)))))))
       ·obtain ⟨LW, MO, h4⟩ := ob h4
        refine gw rfl (mv rfl) (gw rfl (mv rfl) (gw rfl (ixs rfl rfl rfl rfl (j6 l9 (ak MO).1 (ak MO).2)) (gw rfl (bi rfl rfl (yE (b := (48 : UInt8)))) (gw rfl (mv rfl) (sp h4 (fun h4 => ?_) (fun h4 => ?_))))))
        ·obtain ⟨LV, MN, h4⟩ := ob h4; have q := si h4; subst q
         refine kw rfl (kw rfl (kw rfl (kw rfl (gw rfl (pkt rfl rfl) (s1 (pkt rfl rfl) (sm rfl (gw rfl (mv rfl) (gw rfl (mv rfl) (gw rfl (ixs rfl rfl rfl rfl (j6 l9 (ak MN).1 (ak MN).2)) ?_)))))))))
         exact gw rfl (bi rfl rfl (yD (b := (95 : UInt8)))) (s1 (pkt rfl rfl) (SO.nil ((wq rfl))))
        ·obtain ⟨aed, Zv, h4⟩ := ob h4
         refine gw rfl (mv rfl) (gw rfl (mv rfl) (gw rfl (ixs rfl rfl rfl rfl (j6 l9 (ak Zv).1 (ak Zv).2)) (gw rfl (bi rfl rfl (rX (b := (57 : UInt8)))) (gw rfl (dB rfl rfl) (s1 (pkt rfl rfl) (sm rfl (sp h4 (fun h4 => ?_) (fun h4 => ?_))))))))
         ·obtain ⟨aec, Zu, h4⟩ := ob h4; have q := si h4; subst q
          exact gw rfl (mv rfl) (gw rfl (mv rfl) (gw rfl (ixs rfl rfl rfl rfl (j6 l9 (ak Zu).1 (ak Zu).2)) (gw rfl (bi rfl rfl (yD (b := (95 : UInt8)))) (s1 (pkt rfl rfl) (SO.nil ((wq rfl)))))))
         ·have q := si h4; subst q
          exact kw rfl (kw rfl (kw rfl (kw rfl (s1 (dB rfl rfl) (SO.nil ((wq rfl)))))))
       ·have q := si h4; subst q
        refine kw rfl (kw rfl (kw rfl (kw rfl (kw rfl (kw rfl (kw rfl (kw rfl (kw rfl (kw rfl ?_)))))))))
        exact s1 (dB rfl rfl) (sm rfl (kw rfl (kw rfl (kw rfl (kw rfl (s1 (dB rfl rfl) (SO.nil ((wq rfl)))))))))
     ·rintro adH h3
      refine cB h3 rfl (fun h3 => ?_) (fun h3 => ?_)
      ·have q := si h3; subst q; have q : _ = _ := hv3; subst q; have q := si h1; subst q; have q := si h0; subst q
       exact sr (sa rfl (sn (SC.ret (aV (Wk.refl _) (aI rfl aG) rfl))))
      ·refine SC.skip ?_
       change SC _ _ _ _ _
       have q := si h3; subst q
       exact SC.region (sm rfl (s1 (bi rfl rfl aR) (sa rfl (SO.nil (lf (wq rfl))))))
    ·have q := si h3; subst q; have q : _ = _ := hv3; subst q; have q := si h1; subst q
     exact SC.exit (lf (wq rfl))
   ·intro _ h0
    have q := si h0; subst q
    exact sr (sa rfl (sn (SC.ret (aV (Wk.refl _) (aI rfl aG) rfl))))
noncomputable def rU (p0 : List UInt8) : Option Bool :=
 eH (Y := Unit) (E := Bool)
 (Option.bind (α := Unit ⊕ Bool)
 (loop (Y := Int) (W := Unit ⊕ Bool) (fun Bb =>
 bif (decide (Bb < (p0.length : Int))) then
 Option.bind (bF p0 Bb) fun zy =>
 eH (Y := Int × Int × Int) (E := Bool)
 (bif (decide ((zy.toNat : Int) < (128 : Int))) then
 some (Sum.inl ((1 : Int), (0 : Int), (zy.toNat : Int)))
 else
 Option.bind (α := Bool)
 (bif (decide ((zy.toNat : Int) ≥ (194 : Int))) then
 some (decide ((zy.toNat : Int) < (224 : Int)))
 else
 some false)
 fun adl =>
 bif adl then
 some (Sum.inl ((2 : Int), (128 : Int), (bD ((zy.toNat : Int) - (192 : Int)))))
 else
 Option.bind (α := Bool)
 (bif (decide ((zy.toNat : Int) ≥ (224 : Int))) then
 some (decide ((zy.toNat : Int) < (240 : Int)))
 else
 some false)
 fun adk =>
 bif adk then
 some (Sum.inl ((3 : Int), (2048 : Int), (bD ((zy.toNat : Int) - (224 : Int)))))
 else
 Option.bind (α := Bool)
 (bif (decide ((zy.toNat : Int) ≥ (240 : Int))) then
 some (decide ((zy.toNat : Int) < (245 : Int)))
 else
 some false)
 fun adj =>
 bif adj then
 some (Sum.inl ((4 : Int), (65536 : Int), (bD ((zy.toNat : Int) - (240 : Int)))))
 else
 some (Sum.inr false))
 (fun (CF, Tj, adn) =>
 bif (decide ((bD (Bb + CF)) > (p0.length : Int))) then
 some (Sum.inr (Sum.inr false))
 else
 eH (Y := Int) (E := Bool)
 (Option.bind (α := Int ⊕ Bool)
 (loop (Y := Int × Int) (W := Int ⊕ Bool) (fun (WH, Tf) =>
 bif (decide (Tf < CF)) then
 Option.bind (bF p0 (bD (Bb + Tf))) fun Q0 =>
 Option.bind (α := Bool)
 (bif (decide ((Q0.toNat : Int) < (128 : Int))) then
 some true
 else
 some (decide ((Q0.toNat : Int) ≥ (192 : Int))))
 fun adi =>
 bif adi then
 some (Sum.inr (Sum.inr false))
 else
 some (Sum.inl ((bD ((bD ((bD (WH * (64 : Int))) + (Q0.toNat : Int))) - (128 : Int))), (bD (Tf + (1 : Int)))))
 else
 some (Sum.inr (Sum.inl WH))) (adn, (1 : Int)))
 (Sum.elim (fun e => some (Sum.inl e)) (fun e => some (Sum.inr e))))
 (fun Ti =>
 Option.bind (α := Bool)
 (bif (decide (Ti < Tj)) then
 some true
 else
 bif (decide (Ti > (1114111 : Int))) then
 some true
 else
 bif (decide (Ti ≥ (55296 : Int))) then
 some (decide (Ti < (57344 : Int)))
 else
 some false)
 fun adh =>
 bif adh then
 some (Sum.inr (Sum.inr false))
 else
 some (Sum.inl (bD (Bb + CF))))
 (fun e => some (Sum.inr (Sum.inr e))))
 (fun e => some (Sum.inr (Sum.inr e)))
 else
 some (Sum.inr (Sum.inl ()))) (0 : Int))
 (Sum.elim (fun e => some (Sum.inl e)) (fun e => some (Sum.inr e))))
 (fun _ =>
 some true)
 (fun e => some e)
theorem IE (p0 : List UInt8) (r : Bool) (h0 : rU p0 = some r) : aL Tryz.prog 120 [.d (eS p0)] [] (.d (eB r)) [] := by
 unfold rU at h0
 refine fn0 [0] Tryz.func120 rfl rfl rfl rfl rfl ?_
 refine sr (sa rfl (sn (SC.seqB h0 (fun y => ⟨mk 95 [], []⟩) ?_ ?_)))
 ·intro akY h1 h0
  obtain ⟨akk, h2, h1⟩ := ob h1
  refine sr (sa rfl (sn (SC.blk (SC.dH h2 (fun y => ⟨mk 95 [(0, .d (eS p0)), (3, .d (eI y))], []⟩) (wq rfl) ?_))))
  intro aog
  rintro Bb aji h3 hv3
  refine sq (sr (sm rfl (sm rfl (s1 (len rfl rfl rfl (fK l9)) (s1 (bi rfl rfl aQ) (sn (cB h3 rfl (fun h3 => ?_) (fun h3 => ?_))))))))
  ·obtain ⟨zy, Zh, h3⟩ := ob h3
   refine sk (SC.blk (sr (sm rfl (sm rfl (s1 (ixs rfl rfl rfl rfl (j6 l9 (ak Zh).1 (ak Zh).2)) (s1 (tF rfl (jv uX Im zy)) (sa rfl (sn (sr ?_)))))))))
   refine sa rfl (sn (sr (sa rfl (sn (sr (sm rfl (sa rfl (sn (SC.seqB h3 (fun y => ⟨mk 95 [(0, .d (eS p0)), (3, .d (eI Bb)), (5, .d (eI y.1)), (6, .d (eI y.2.1)), (7, .d (eI y.2.2))], []⟩) ?_ ?_)))))))))
   ·intro aj2 h4 h3
    refine SC.blk (sr (sm rfl (s1 (bi rfl rfl aQ) (sa rfl (sn (cB h4 rfl (fun h4 => ?_) (fun h4 => ?_)))))))
    ·have q := si h4; subst q
     exact SC.skip (lf (wq rfl))
    ·refine SC.bJ h4 (fun y => ⟨mk 95 [(0, .d (eS p0)), (3, .d (eI Bb)), (4, .d (eI (zy.toNat : Int))), (22, .d (eB y))], []⟩) ?_ ?_
     ·intro ajV h5
      refine SC.region (sm rfl (s1 (bi rfl rfl dU) (sm rfl (sp h5 (fun h5 => ?_) (fun h5 => ?_)))))
      ·have q := si h5; subst q
       exact gw rfl (mv rfl) (gw rfl (bi rfl rfl aQ) (s1 (pkt rfl rfl) (sa rfl (SO.nil ((wq rfl))))))
      ·have q := si h5; subst q
       exact kw rfl (kw rfl (s1 (dB rfl rfl) (sa rfl (SO.nil ((wq rfl))))))
     ·rintro adl h4
      refine cB h4 rfl (fun h4 => ?_) (fun h4 => ?_)
      ·have q := si h4; subst q
       exact SC.region (sm rfl (s1 (bi rfl rfl fD) (sa rfl (sa rfl (sa rfl (SO.nil (lf (wq rfl))))))))
      ·refine SC.bJ h4 (fun y => ⟨mk 95 [(0, .d (eS p0)), (3, .d (eI Bb)), (4, .d (eI (zy.toNat : Int))), (31, .d (eB y))], []⟩) ?_ ?_
       ·intro ajU h5
        refine SC.region (sm rfl (s1 (bi rfl rfl dU) (sm rfl (sp h5 (fun h5 => ?_) (fun h5 => ?_)))))
        ·have q := si h5; subst q
         exact gw rfl (mv rfl) (gw rfl (bi rfl rfl aQ) (s1 (pkt rfl rfl) (sa rfl (SO.nil ((wq rfl))))))
        ·have q := si h5; subst q
         exact kw rfl (kw rfl (s1 (dB rfl rfl) (sa rfl (SO.nil ((wq rfl))))))
       ·rintro adk h4
        refine cB h4 rfl (fun h4 => ?_) (fun h4 => ?_)
        ·have q := si h4; subst q
         exact SC.region (sm rfl (s1 (bi rfl rfl fD) (sa rfl (sa rfl (sa rfl (SO.nil (lf (wq rfl))))))))
        ·refine SC.bJ h4 (fun y => ⟨mk 95 [(0, .d (eS p0)), (3, .d (eI Bb)), (4, .d (eI (zy.toNat : Int))), (40, .d (eB y))], []⟩) ?_ ?_
         ·intro ajT h5
          refine SC.region (sm rfl (s1 (bi rfl rfl dU) (sm rfl (sp h5 (fun h5 => ?_) (fun h5 => ?_)))))
          ·have q := si h5; subst q
           exact gw rfl (mv rfl) (gw rfl (bi rfl rfl aQ) (s1 (pkt rfl rfl) (sa rfl (SO.nil ((wq rfl))))))
          ·have q := si h5; subst q
           exact kw rfl (kw rfl (s1 (dB rfl rfl) (sa rfl (SO.nil ((wq rfl))))))
         ·rintro adj h4
          refine cB h4 rfl (fun h4 => ?_) (fun h4 => ?_)
          ·have q := si h4; subst q
           exact SC.region (sm rfl (s1 (bi rfl rfl fD) (sa rfl (sa rfl (sa rfl (SO.nil (lf (wq rfl))))))))
          ·have q := si h4; subst q; have q := si h3; subst q; have q : _ = _ := hv3; subst q; have q := si h1; subst q; have q := si h0; subst q
           exact sr (sa rfl (sn (SC.ret (aV (Wk.refl _) (aI rfl aG) rfl))))
   ·rintro ⟨CF, Tj, adn⟩ h3
    refine sq (sr (sm rfl (sm rfl (s1 (bi rfl rfl aR) (sm rfl (s1 (len rfl rfl rfl (fK l9)) (s1 (bi rfl rfl bP) (sn (cB h3 rfl (fun h3 => ?_) (fun h3 => ?_))))))))))
    ·have q := si h3; subst q; have q : _ = _ := hv3; subst q; have q := si h1; subst q; have q := si h0; subst q
     exact sr (sa rfl (sn (SC.ret (aV (Wk.refl _) (aI rfl aG) rfl))))
    ·refine sk (SC.seqB h3 (fun y => ⟨mk 95 [(0, .d (eS p0)), (3, .d (eI Bb)), (5, .d (eI CF)), (6, .d (eI Tj)), (7, .d (eI y))], []⟩) ?_ ?_)
     ·intro aj1 h4 h3
      obtain ⟨ajS, h5, h4⟩ := ob h4
      refine sr (sa rfl (sn (SC.blk (SC.dH h5 (fun y => ⟨mk 95 [(0, .d (eS p0)), (3, .d (eI Bb)), (5, .d (eI CF)), (6, .d (eI Tj)), (7, .d (eI y.1)), (8, .d (eI y.2))], []⟩) (wq rfl) ?_))))
      intro aoh
      rintro ⟨WH, Tf⟩ aje h6 hv6
      refine sq (sr (sm rfl (sm rfl (s1 (bi rfl rfl aQ) (sn (cB h6 rfl (fun h6 => ?_) (fun h6 => ?_)))))))
      ·obtain ⟨Q0, Zg, h6⟩ := ob h6
       refine sk (sq (SC.blk (sr (sm rfl (sm rfl (sm rfl (s1 (bi rfl rfl aR) (s1 (ixs rfl rfl rfl rfl (j6 l9 (ak Zg).1 (ak Zg).2)) (s1 (tF rfl (jv uX Im Q0)) ?_)))))))))
       refine sa rfl (sn (sq (SC.bJ h6 (fun y => ⟨mk 95 [(0, .d (eS p0)), (3, .d (eI Bb)), (5, .d (eI CF)), (6, .d (eI Tj)), (7, .d (eI WH)), (8, .d (eI Tf)), (9, .d (eI (Q0.toNat : Int))), (71, .d (eB y))], []⟩) ?_ ?_)))
       ·intro ajR h7
        refine SC.region (sm rfl (s1 (bi rfl rfl aQ) (sm rfl (sp h7 (fun h7 => ?_) (fun h7 => ?_)))))
        ·have q := si h7; subst q
         exact kw rfl (kw rfl (s1 (pkt rfl rfl) (SO.nil ((wq rfl)))))
        ·have q := si h7; subst q
         exact gw rfl (mv rfl) (gw rfl (bi rfl rfl dU) (s1 (dB rfl rfl) (SO.nil ((wq rfl)))))
       ·rintro adi h6
        refine cB h6 rfl (fun h6 => ?_) (fun h6 => ?_)
        ·have q := si h6; subst q; have q : _ = _ := hv6; subst q; have q := si h4; subst q; have q := si h3; subst q; have q : _ = _ := hv3; subst q; have q := si h1; subst q; have q := si h0; subst q
         exact sr (sa rfl (sn (SC.ret (aV (Wk.refl _) (aI rfl aG) rfl))))
        ·refine sk (SC.region (sm rfl (s1 (bi rfl rfl rD) (sm rfl (s1 (bi rfl rfl aR) (s1 (bi rfl rfl fD) (sa rfl (SO.nil ?_))))))))
         change SC _ _ _ _ _
         have q := si h6; subst q
         exact SC.region (sm rfl (s1 (bi rfl rfl aR) (sa rfl (SO.nil (lf (wq rfl))))))
      ·have q := si h6; subst q; have q : _ = _ := hv6; subst q; have q := si h4; subst q
       exact SC.exit (lf (wq rfl))
     ·rintro Ti h3
      refine sq (SC.bJ h3 (fun y => ⟨mk 95 [(0, .d (eS p0)), (3, .d (eI Bb)), (5, .d (eI CF)), (91, .d (eB y))], []⟩) ?_ ?_)
      ·intro aj0 h4
       refine SC.region (sm rfl (sm rfl (s1 (bi rfl rfl aQ) (sm rfl (sp h4 (fun h4 => ?_) (fun h4 => ?_))))))
       ·have q := si h4; subst q
        refine kw rfl (kw rfl (s1 (pkt rfl rfl) (sm rfl (kw rfl (kw rfl (kw rfl (kw rfl (kw rfl (kw rfl ?_)))))))))
        exact s1 (pkt rfl rfl) (SO.nil ((wq rfl)))
       ·refine gw rfl (mv rfl) (gw rfl (bi rfl rfl bP) (s1 (dB rfl rfl) (sm rfl (sp h4 (fun h4 => ?_) (fun h4 => ?_)))))
        ·have q := si h4; subst q
         exact kw rfl (kw rfl (kw rfl (kw rfl (kw rfl (kw rfl (s1 (pkt rfl rfl) (SO.nil ((wq rfl)))))))))
        ·refine gw rfl (mv rfl) (gw rfl (bi rfl rfl dU) (gw rfl (mv rfl) (sp h4 (fun h4 => ?_) (fun h4 => ?_))))
         ·have q := si h4; subst q
          exact gw rfl (mv rfl) (gw rfl (bi rfl rfl aQ) (gw rfl (pkt rfl rfl) (s1 (dB rfl rfl) (SO.nil ((wq rfl))))))
         ·have q := si h4; subst q
          exact kw rfl (kw rfl (gw rfl (dB rfl rfl) (s1 (dB rfl rfl) (SO.nil ((wq rfl))))))
      ·rintro adh h3
       refine cB h3 rfl (fun h3 => ?_) (fun h3 => ?_)
       ·have q := si h3; subst q; have q : _ = _ := hv3; subst q; have q := si h1; subst q; have q := si h0; subst q
        exact sr (sa rfl (sn (SC.ret (aV (Wk.refl _) (aI rfl aG) rfl))))
       ·have q := si h3; subst q
        exact sk (SC.region (sm rfl (sm rfl (s1 (bi rfl rfl aR) (sa rfl (SO.nil (lf (wq rfl))))))))
  ·have q := si h3; subst q; have q : _ = _ := hv3; subst q; have q := si h1; subst q
   exact SC.exit (lf (wq rfl))
 ·intro _ h0
  have q := si h0; subst q
  exact sr (sa rfl (sn (SC.ret (aV (Wk.refl _) (aI rfl aG) rfl))))
noncomputable def qj (p0 : ApiValue) : Option Bool :=
 bif (p0.Kind == (0 : Int)) then
 Option.bind (α := Bool)
 (bif (p0.N == (0 : UInt64)) then
 some (p0.S == ([] : List UInt8))
 else
 some false)
 fun wX =>
 some wX
 else
 Option.bind (α := Bool)
 (bif (p0.Kind == (1 : Int)) then
 some (p0.Kind == (1 : Int))
 else
 some (p0.Kind == (2 : Int)))
 fun y32 =>
 bif y32 then
 some (p0.S == ([] : List UInt8))
 else
 bif (p0.Kind == (3 : Int)) then
 Option.bind (α := Bool)
 (bif (decide (p0.N < (2 : UInt64))) then
 some (p0.S == ([] : List UInt8))
 else
 some false)
 fun y34 =>
 some y34
 else
 bif (p0.Kind == (4 : Int)) then
 Option.bind (α := Bool)
 (bif (p0.N == (0 : UInt64)) then
 some (decide ((p0.S.length : Int) ≤ (64 : Int)))
 else
 some false)
 fun y36 =>
 some y36
 else
 bif (p0.Kind == (5 : Int)) then
 Option.bind (α := Bool)
 (bif (p0.N == (0 : UInt64)) then
 bif (decide ((p0.S.length : Int) ≤ (64 : Int))) then
 Option.bind (rU p0.S) fun r43 =>
 some r43
 else
 some false
 else
 some false)
 fun y40 =>
 some y40
 else
 some false
theorem Gs (p0 : ApiValue) (r : Bool) (h0 : qj p0 = some r) : aL Tryz.prog 98 [.d (eApiValue p0)] [] (.d (eB r)) [] := by
 unfold qj at h0
 refine fn0 [0] Tryz.func98 rfl rfl rfl rfl rfl ?_
 refine sr (s1 (nH (k := 0) rfl rfl rfl) (sa rfl (sn (sq (sr (s1 (far (k := 0) rfl fH bO rfl) (s1 (aS rfl (aj bO dW rfl rfl)) (sn (SC.blk ?_)))))))))
 refine sr (s1 (bi rfl rfl aP) (sa rfl (sn (cB h0 rfl (fun h0 => ?_) (fun h0 => ?_)))))
 ·refine SC.bJ h0 (fun y => ⟨mk 58 [(2, .d (eB y))], []⟩) ?_ ?_
  ·intro Ue h1
   refine SC.region (s1 (far (k := 1) rfl iK fU rfl) (s1 (aS rfl (aj fU lY rfl rfl)) (s1 (bi rfl rfl (jo (b := (0 : UInt64)))) (sm rfl (sp h1 (fun h1 => ?_) (fun h1 => ?_))))))
   ·have q := si h1; subst q
    exact gw rfl (far (k := 2) rfl iO eT rfl) (gw rfl (aS rfl (aj eT jy rfl rfl)) (gw rfl (bi rfl rfl (iC (b := ([] : List UInt8)))) (s1 (pkt rfl rfl) (sa rfl (SO.nil ((wc [] [] (by kernel_rfl) rfl (by kernel_rfl))))))))
   ·have q := si h1; subst q
    exact kw rfl (kw rfl (kw rfl (s1 (dB rfl rfl) (sa rfl (SO.nil ((wc [] [] (by kernel_rfl) rfl (by kernel_rfl))))))))
  ·rintro wX h0
   have q := si h0; subst q
   exact SC.ret (aV (Wk.refl _) (aI rfl aG) rfl)
 ·refine SC.bJ h0 (fun y => ⟨mk 58 [(1, .ref 0 0 0), (4, .d (eI p0.Kind)), (15, .d (eB y))], [.box (.d (eApiValue p0))]⟩) ?_ ?_
  ·intro an2 h1
   refine sr (s1 (bi rfl rfl aP) (sa rfl (sn (cB h1 rfl (fun h1 => ?_) (fun h1 => ?_)))))
   ·have q := si h1; subst q
    exact SC.skip ((wq rfl))
   ·have q := si h1; subst q
    exact SC.region (s1 (bi rfl rfl aP) (sa rfl (SO.nil ((wq rfl)))))
  ·rintro y32 h0
   refine cB h0 rfl (fun h0 => ?_) (fun h0 => ?_)
   ·have q := si h0; subst q
    exact sr (s1 (far (k := 2) rfl iO eT rfl) (s1 (aS rfl (aj eT jy rfl rfl)) (s1 (bi rfl rfl (iC (b := ([] : List UInt8)))) (sa rfl (sn (SC.ret (aV (wc (e' := [(2, .d (eB (p0.S == ([] : List UInt8))))]) [] [] (by kernel_rfl) rfl (by kernel_rfl)) (aI rfl aG) rfl)))))))
   ·refine sr (s1 (bi rfl rfl aP) (sa rfl (sn (cB h0 rfl (fun h0 => ?_) (fun h0 => ?_)))))
    ·refine SC.bJ h0 (fun y => ⟨mk 58 [(2, .d (eB y))], []⟩) ?_ ?_
     ·intro YQ h1
      refine SC.region (s1 (far (k := 1) rfl iK fU rfl) (s1 (aS rfl (aj fU lY rfl rfl)) (s1 (bi rfl rfl (Rn (b := (2 : UInt64)))) (sm rfl (sp h1 (fun h1 => ?_) (fun h1 => ?_))))))
      ·have q := si h1; subst q
       exact gw rfl (far (k := 2) rfl iO eT rfl) (gw rfl (aS rfl (aj eT jy rfl rfl)) (gw rfl (bi rfl rfl (iC (b := ([] : List UInt8)))) (s1 (pkt rfl rfl) (sa rfl (SO.nil ((wc [] [] (by kernel_rfl) rfl (by kernel_rfl))))))))
      ·have q := si h1; subst q
       exact kw rfl (kw rfl (kw rfl (s1 (dB rfl rfl) (sa rfl (SO.nil ((wc [] [] (by kernel_rfl) rfl (by kernel_rfl))))))))
     ·rintro y34 h0
      have q := si h0; subst q
      exact SC.ret (aV (Wk.refl _) (aI rfl aG) rfl)
    ·refine sr (s1 (bi rfl rfl aP) (sa rfl (sn (cB h0 rfl (fun h0 => ?_) (fun h0 => ?_)))))
     ·refine SC.bJ h0 (fun y => ⟨mk 58 [(2, .d (eB y))], []⟩) ?_ ?_
      ·intro Ud h1
       refine SC.region (s1 (far (k := 1) rfl iK fU rfl) (s1 (aS rfl (aj fU lY rfl rfl)) (s1 (bi rfl rfl (jo (b := (0 : UInt64)))) (sm rfl (sp h1 (fun h1 => ?_) (fun h1 => ?_))))))
       ·have q := si h1; subst q
        exact gw rfl (far (k := 2) rfl iO eT rfl) (gw rfl (aS rfl (aj eT jy rfl rfl)) (gw rfl (len rfl rfl rfl (fK l9)) (gw rfl (bi rfl rfl rE) (s1 (pkt rfl rfl) (sa rfl (SO.nil ((wc [] [] (by kernel_rfl) rfl (by kernel_rfl)))))))))
       ·have q := si h1; subst q
        exact kw rfl (kw rfl (kw rfl (kw rfl (s1 (dB rfl rfl) (sa rfl (SO.nil ((wc [] [] (by kernel_rfl) rfl (by kernel_rfl)))))))))
      ·rintro y36 h0
       have q := si h0; subst q
       exact SC.ret (aV (Wk.refl _) (aI rfl aG) rfl)
     ·refine sr (s1 (bi rfl rfl aP) (sa rfl (sn (cB h0 rfl (fun h0 => ?_) (fun h0 => ?_)))))
      ·refine SC.bJ h0 (fun y => ⟨mk 58 [(2, .d (eB y))], []⟩) ?_ ?_
       ·intro an0 h1
        refine SC.region (s1 (far (k := 1) rfl iK fU rfl) (s1 (aS rfl (aj fU lY rfl rfl)) (s1 (bi rfl rfl (jo (b := (0 : UInt64)))) (sm rfl (sp h1 (fun h1 => ?_) (fun h1 => ?_))))))
        ·refine gw rfl (far (k := 2) rfl iO eT rfl) (gw rfl (aS rfl (aj eT jy rfl rfl)) (gw rfl (len rfl rfl rfl (fK l9)) (gw rfl (bi rfl rfl rE) (s1 (pkt rfl rfl) (sm rfl (sp h1 (fun h1 => ?_) (fun h1 => ?_)))))))
         ·obtain ⟨r43, abQ, h1⟩ := ob h1; have q := si h1; subst q
          exact gw rfl (far (k := 2) rfl iO eT rfl) (gw rfl (aS rfl (aj eT jy rfl rfl)) (c0 (IE p0.S _ abQ) (ww rfl) rfl rfl rfl ah8 rfl (fun _ => rfl) (fun _ => rfl) (s1 (pkt rfl rfl) (sa rfl (SO.nil ((wc [] [] (by kernel_rfl) rfl (by kernel_rfl))))))))
         ·have q := si h1; subst q
          exact kw rfl (kw rfl (kw rfl (s1 (dB rfl rfl) (sa rfl (SO.nil ((wc [] [] (by kernel_rfl) rfl (by kernel_rfl))))))))
        ·have q := si h1; subst q
         refine kw rfl (kw rfl (kw rfl (kw rfl (s1 (dB rfl rfl) (sm rfl (kw rfl (kw rfl (kw rfl (s1 (dB rfl rfl) ?_)))))))))
         exact sa rfl (SO.nil ((wc [] [] (by kernel_rfl) rfl (by kernel_rfl))))
       ·rintro y40 h0
        have q := si h0; subst q
        exact SC.ret (aV (Wk.refl _) (aI rfl aG) rfl)
      ·refine SC.skip ?_
       change SC _ _ _ _ _
       have q := si h0; subst q
       exact sr (sa rfl (sn (SC.ret (aV (wc (e' := [(2, .d (eB false))]) [] [] (by kernel_rfl) rfl (by kernel_rfl)) (aI rfl aG) rfl))))
noncomputable def mW (p0 : ApiColumn) (p1 : ApiValue) : Option Int :=
 Option.bind (α := Bool)
 (Option.bind (qj p1) fun r23 =>
 bif (!r23) then
 some true
 else
 bif (p1.Kind == (0 : Int)) then
 bif (!p0.xL) then
 some true
 else
 bif (p1.Kind != (0 : Int)) then
 some (p1.Kind != p0.Kind)
 else
 some false
 else
 bif (p1.Kind != (0 : Int)) then
 some (p1.Kind != p0.Kind)
 else
 some false)
 fun y20 =>
 bif y20 then
 some (8 : Int)
 else
 Option.bind (α := Bool)
 (bif (p1.Kind == (4 : Int)) then
 some (decide ((p1.S.length : Int) > p0.Max))
 else
 bif (p1.Kind == (5 : Int)) then
 some (decide ((p1.S.length : Int) > p0.Max))
 else
 some false)
 fun y24 =>
 bif y24 then
 some (7 : Int)
 else
 some (0 : Int)
theorem uN (p0 : ApiColumn) (p1 : ApiValue) (r : Int) (h0 : mW p0 p1 = some r) : aL Tryz.prog 62 [.d (eApiColumn p0), .d (eApiValue p1)] [] (.d (eI r)) [] := by
 unfold mW at h0
 refine fn0 [0, 1] Tryz.func62 rfl rfl rfl rfl rfl ?_
 refine sr (s1 (nH (k := 0) rfl rfl rfl) (s1 (nH (k := 1) rfl rfl rfl) (sa rfl (sn (sq (SC.bJ h0 (fun y => ⟨mk 46 [(2, .ref 0 0 0), (3, .ref 1 0 0), (29, .d (eB y))], [.box (.d (eApiColumn p0)), .box (.d (eApiValue p1))]⟩) ?_ ?_))))))
 ·intro YR h1
  obtain ⟨r23, abT, h1⟩ := ob h1
  refine SC.region (s1 (aS (v := .d (eApiValue p1)) rfl (aj d9 kD rfl rfl)) (c0 (Gs p1 _ abT) wf rfl rfl rfl amZ rfl (fun _ => rfl) (fun _ => rfl) (s1 (nt rfl) (sm rfl (sp h1 (fun h1 => ?_) (fun h1 => ?_))))))
  ·have q := si h1; subst q
   refine kw rfl (kw rfl (kw rfl (kw rfl (kw rfl (kw rfl (kw rfl (kw rfl (s1 (pkt rfl rfl) (sm rfl ?_)))))))))
   refine kw rfl (kw rfl (kw rfl (kw rfl (kw rfl (kw rfl (kw rfl (kw rfl (kw rfl (kw rfl ?_)))))))))
   exact s1 (pkt rfl rfl) (SO.nil ((wq rfl)))
  ·refine gw rfl (far (k := 0) rfl fH bO rfl) (gw rfl (aS rfl (aj bO dW rfl rfl)) (gw rfl (bi rfl rfl aP) (gw rfl (mv rfl) (sp h1 (fun h1 => ?_) (fun h1 => ?_)))))
   ·refine gw rfl (far (k := 3) rfl O8 jV rfl) (gw rfl (aS rfl (aj jV zD rfl rfl)) (gw rfl (nt rfl) (gw rfl (pkt rfl rfl) (s1 (dB rfl rfl) (sm rfl (sp h1 (fun h1 => ?_) (fun h1 => ?_)))))))
    ·have q := si h1; subst q
     refine kw rfl (kw rfl (kw rfl (kw rfl (kw rfl (kw rfl (kw rfl (kw rfl (kw rfl (kw rfl ?_)))))))))
     exact s1 (pkt rfl rfl) (SO.nil ((wq rfl)))
    ·refine gw rfl (far (k := 0) rfl fH bO rfl) (gw rfl (aS rfl (aj bO dW rfl rfl)) (gw rfl (bi rfl rfl bA) (gw rfl (mv rfl) (sp h1 (fun h1 => ?_) (fun h1 => ?_)))))
     ·have q := si h1; subst q
      exact gw rfl (far (k := 0) rfl fH bO rfl) (gw rfl (aS rfl (aj bO dW rfl rfl)) (gw rfl (far (k := 1) rfl ko bO rfl) (gw rfl (aS rfl (aj bO dW rfl rfl)) (gw rfl (bi rfl rfl bA) (gw rfl (pkt rfl rfl) (s1 (dB rfl rfl) (SO.nil ((wq rfl)))))))))
     ·have q := si h1; subst q
      exact kw rfl (kw rfl (kw rfl (kw rfl (kw rfl (gw rfl (dB rfl rfl) (s1 (dB rfl rfl) (SO.nil ((wq rfl)))))))))
   ·refine kw rfl (kw rfl (kw rfl (gw rfl (dB rfl rfl) (s1 (dB rfl rfl) (sm rfl (gw rfl (far (k := 0) rfl fH bO rfl) (gw rfl (aS rfl (aj bO dW rfl rfl)) (gw rfl (bi rfl rfl bA) (gw rfl (mv rfl) ?_)))))))))
    refine sp h1 (fun h1 => ?_) (fun h1 => ?_)
    ·have q := si h1; subst q
     exact gw rfl (far (k := 0) rfl fH bO rfl) (gw rfl (aS rfl (aj bO dW rfl rfl)) (gw rfl (far (k := 1) rfl ko bO rfl) (gw rfl (aS rfl (aj bO dW rfl rfl)) (gw rfl (bi rfl rfl bA) (gw rfl (pkt rfl rfl) (s1 (dB rfl rfl) (SO.nil ((wq rfl)))))))))
    ·have q := si h1; subst q
     exact kw rfl (kw rfl (kw rfl (kw rfl (kw rfl (gw rfl (dB rfl rfl) (s1 (dB rfl rfl) (SO.nil ((wq rfl)))))))))
 ·rintro y20 h0
  refine cB h0 rfl (fun h0 => ?_) (fun h0 => ?_)
  ·have q := si h0; subst q
   exact sr (sa rfl (sn (SC.ret (aV (wc (e' := [(4, .d (eI (8 : Int)))]) [] [] (by kernel_rfl) rfl (by kernel_rfl)) (aI rfl aG) rfl))))
  ·refine sk (sq (SC.bJ h0 (fun y => ⟨mk 46 [(45, .d (eB y))], []⟩) ?_ ?_))
   ·intro aeB h1
    refine SC.region (s1 (far (k := 0) rfl fH bO rfl) (s1 (aS rfl (aj bO dW rfl rfl)) (s1 (bi rfl rfl aP) (sm rfl (sp h1 (fun h1 => ?_) (fun h1 => ?_))))))
    ·have q := si h1; subst q
     refine kw rfl (kw rfl (kw rfl (s1 (pkt rfl rfl) (sm rfl (gw rfl (far (k := 2) rfl iO eT rfl) (gw rfl (aS rfl (aj eT jy rfl rfl)) (gw rfl (len rfl rfl rfl (fK l9)) (gw rfl (far (k := 2) rfl oZ bO rfl) (gw rfl (aS rfl (aj bO dW rfl rfl)) ?_)))))))))
     exact gw rfl (bi rfl rfl bP) (s1 (pkt rfl rfl) (SO.nil ((wc [] [] (by kernel_rfl) rfl (by kernel_rfl)))))
    ·refine gw rfl (far (k := 0) rfl fH bO rfl) (gw rfl (aS rfl (aj bO dW rfl rfl)) (gw rfl (bi rfl rfl aP) (s1 (dB rfl rfl) (sm rfl (sp h1 (fun h1 => ?_) (fun h1 => ?_))))))
     ·have q := si h1; subst q
      exact gw rfl (far (k := 2) rfl iO eT rfl) (gw rfl (aS rfl (aj eT jy rfl rfl)) (gw rfl (len rfl rfl rfl (fK l9)) (gw rfl (far (k := 2) rfl oZ bO rfl) (gw rfl (aS rfl (aj bO dW rfl rfl)) (gw rfl (bi rfl rfl bP) (s1 (pkt rfl rfl) (SO.nil ((wc [] [] (by kernel_rfl) rfl (by kernel_rfl))))))))))
     ·have q := si h1; subst q
      exact kw rfl (kw rfl (kw rfl (kw rfl (kw rfl (kw rfl (s1 (dB rfl rfl) (SO.nil ((wc [] [] (by kernel_rfl) rfl (by kernel_rfl))))))))))
   ·rintro y24 h0
    refine cB h0 rfl (fun h0 => ?_) (fun h0 => ?_)
    ·have q := si h0; subst q
     exact sr (sa rfl (sn (SC.ret (aV (Wk.refl _) (aI rfl aG) rfl))))
    ·have q := si h0; subst q
     exact sk (sr (sa rfl (sn (SC.ret (aV (Wk.refl _) (aI rfl aG) rfl)))))
noncomputable def lD (p0 : ApiColumn) : Option Int :=
 Option.bind (mV p0.Name) fun Kn =>
 bif (!Kn) then
 some (1 : Int)
 else
 Option.bind (α := Bool)
 (bif (decide (p0.Kind < (1 : Int))) then
 some true
 else
 some (decide (p0.Kind > (5 : Int))))
 fun y20 =>
 bif y20 then
 some (8 : Int)
 else
 Option.bind (α := Bool)
 (bif (decide (p0.Kind < (4 : Int))) then
 bif (p0.Max != (0 : Int)) then
 some true
 else
 bif (decide (p0.Kind > (3 : Int))) then
 bif (decide (p0.Max < (1 : Int))) then
 some true
 else
 some (decide (p0.Max > (64 : Int)))
 else
 some false
 else
 bif (decide (p0.Kind > (3 : Int))) then
 bif (decide (p0.Max < (1 : Int))) then
 some true
 else
 some (decide (p0.Max > (64 : Int)))
 else
 some false)
 fun y22 =>
 bif y22 then
 some (7 : Int)
 else
 Option.bind (mW p0 p0.Default) fun IQ =>
 some IQ
theorem xA (p0 : ApiColumn) (r : Int) (h0 : lD p0 = some r) : aL Tryz.prog 23 [.d (eApiColumn p0)] [] (.d (eI r)) [] := by
 unfold lD at h0
 refine fn0 [0] Tryz.func23 rfl rfl rfl rfl rfl ?_
 obtain ⟨Kn, OY, h0⟩ := ob h0
 refine sr (s1 (nH (k := 0) rfl rfl rfl) (sa rfl (sn (sq (sr (s1 (far (k := 0) rfl KP eT rfl) (s1 (aS rfl (aj eT jy rfl rfl)) (c0 (uL p0.Name _ OY) wf rfl rfl rfl acX rfl (fun _ => rfl) (fun _ => rfl) (s1 (nt rfl) ?_)))))))))
 refine sn (cB h0 rfl (fun h0 => ?_) (fun h0 => ?_))
 ·have q := si h0; subst q
  exact sr (sa rfl (sn (SC.ret (aV (wc (e' := [(2, .d (eI (1 : Int)))]) [] [] (by kernel_rfl) rfl (by kernel_rfl)) (aI rfl aG) rfl))))
 ·refine sk (sq (SC.bJ h0 (fun y => ⟨mk 42 [(1, .ref 0 0 0), (14, .d (eB y))], [.box (.d (eApiColumn p0))]⟩) ?_ ?_))
  ·intro YR h1
   refine SC.region (s1 (far (k := 1) rfl ko bO rfl) (s1 (aS rfl (aj bO dW rfl rfl)) (s1 (bi rfl rfl aQ) (sm rfl (sp h1 (fun h1 => ?_) (fun h1 => ?_))))))
   ·have q := si h1; subst q
    exact kw rfl (kw rfl (kw rfl (s1 (pkt rfl rfl) (SO.nil ((wq rfl))))))
   ·have q := si h1; subst q
    exact gw rfl (far (k := 1) rfl ko bO rfl) (gw rfl (aS rfl (aj bO dW rfl rfl)) (gw rfl (bi rfl rfl bP) (s1 (dB rfl rfl) (SO.nil ((wq rfl))))))
  ·rintro y20 h0
   refine cB h0 rfl (fun h0 => ?_) (fun h0 => ?_)
   ·have q := si h0; subst q
    exact sr (sa rfl (sn (SC.ret (aV (wc (e' := [(2, .d (eI (8 : Int)))]) [] [] (by kernel_rfl) rfl (by kernel_rfl)) (aI rfl aG) rfl))))
   ·refine sk (sq (SC.bJ h0 (fun y => ⟨mk 42 [(1, .ref 0 0 0), (37, .d (eB y))], [.box (.d (eApiColumn p0))]⟩) ?_ ?_))
    ·intro aeC h1
     refine SC.region (s1 (far (k := 1) rfl ko bO rfl) (s1 (aS rfl (aj bO dW rfl rfl)) (s1 (bi rfl rfl aQ) (sm rfl (sp h1 (fun h1 => ?_) (fun h1 => ?_))))))
     ·refine gw rfl (far (k := 2) rfl oZ bO rfl) (gw rfl (aS rfl (aj bO dW rfl rfl)) (gw rfl (bi rfl rfl bA) (s1 (pkt rfl rfl) (sm rfl (sp h1 (fun h1 => ?_) (fun h1 => ?_))))))
      ·have q := si h1; subst q
       refine kw rfl (kw rfl (kw rfl (kw rfl (kw rfl (kw rfl (kw rfl (kw rfl (kw rfl (kw rfl ?_)))))))))
       exact kw rfl (kw rfl (kw rfl (s1 (pkt rfl rfl) (SO.nil ((wq rfl))))))
      ·refine gw rfl (far (k := 1) rfl ko bO rfl) (gw rfl (aS rfl (aj bO dW rfl rfl)) (gw rfl (bi rfl rfl bP) (gw rfl (mv rfl) (sp h1 (fun h1 => ?_) (fun h1 => ?_)))))
       ·refine gw rfl (far (k := 2) rfl oZ bO rfl) (gw rfl (aS rfl (aj bO dW rfl rfl)) (gw rfl (bi rfl rfl aQ) (gw rfl (mv rfl) (sp h1 (fun h1 => ?_) (fun h1 => ?_)))))
        ·have q := si h1; subst q
         exact kw rfl (kw rfl (kw rfl (gw rfl (pkt rfl rfl) (gw rfl (pkt rfl rfl) (s1 (dB rfl rfl) (SO.nil ((wq rfl))))))))
        ·have q := si h1; subst q
         exact gw rfl (far (k := 2) rfl oZ bO rfl) (gw rfl (aS rfl (aj bO dW rfl rfl)) (gw rfl (bi rfl rfl bP) (gw rfl (dB rfl rfl) (gw rfl (pkt rfl rfl) (s1 (dB rfl rfl) (SO.nil ((wq rfl))))))))
       ·have q := si h1; subst q
        refine kw rfl (kw rfl (kw rfl (kw rfl (kw rfl (kw rfl (kw rfl (kw rfl (gw rfl (dB rfl rfl) (s1 (dB rfl rfl) ?_)))))))))
        exact SO.nil ((wq rfl))
     ·refine kw rfl (kw rfl (kw rfl (s1 (dB rfl rfl) (sm rfl (gw rfl (far (k := 1) rfl ko bO rfl) (gw rfl (aS rfl (aj bO dW rfl rfl)) (gw rfl (bi rfl rfl bP) (gw rfl (mv rfl) (sp h1 (fun h1 => ?_) (fun h1 => ?_))))))))))
      ·refine gw rfl (far (k := 2) rfl oZ bO rfl) (gw rfl (aS rfl (aj bO dW rfl rfl)) (gw rfl (bi rfl rfl aQ) (gw rfl (mv rfl) (sp h1 (fun h1 => ?_) (fun h1 => ?_)))))
       ·have q := si h1; subst q
        exact kw rfl (kw rfl (kw rfl (gw rfl (pkt rfl rfl) (gw rfl (pkt rfl rfl) (s1 (dB rfl rfl) (SO.nil ((wq rfl))))))))
       ·have q := si h1; subst q
        exact gw rfl (far (k := 2) rfl oZ bO rfl) (gw rfl (aS rfl (aj bO dW rfl rfl)) (gw rfl (bi rfl rfl bP) (gw rfl (dB rfl rfl) (gw rfl (pkt rfl rfl) (s1 (dB rfl rfl) (SO.nil ((wq rfl))))))))
      ·have q := si h1; subst q
       refine kw rfl (kw rfl (kw rfl (kw rfl (kw rfl (kw rfl (kw rfl (kw rfl (gw rfl (dB rfl rfl) (s1 (dB rfl rfl) ?_)))))))))
       exact SO.nil ((wq rfl))
    ·rintro y22 h0
     refine cB h0 rfl (fun h0 => ?_) (fun h0 => ?_)
     ·have q := si h0; subst q
      exact sr (sa rfl (sn (SC.ret (aV (wc (e' := [(2, .d (eI (7 : Int)))]) [] [] (by kernel_rfl) rfl (by kernel_rfl)) (aI rfl aG) rfl))))
     ·obtain ⟨IQ, Vn, h0⟩ := ob h0; have q := si h0; subst q
      exact sk (sr (s1 (aS (v := .d (eApiColumn p0)) rfl (aj jl yg rfl rfl)) (s1 (far (k := 4) rfl KO d9 rfl) (s1 (aS (v := .d (eApiValue p0.Default)) rfl (aj d9 kD rfl rfl)) (c0 (uN p0 p0.Default _ Vn) wf rfl rfl rfl acP rfl (fun _ => rfl) (fun _ => rfl) (sa rfl (sn (SC.ret (aV (wc (e' := [(2, .d (eI IQ))]) [] [] (by kernel_rfl) rfl (by kernel_rfl)) (aI rfl aG) rfl)))))))))
noncomputable def jX (p0 : List Int) (p1 : Int) : Option Bool :=
 eH (Y := Unit) (E := Bool)
 (Option.bind (α := Unit ⊕ Bool)
 (loop (Y := Int) (W := Unit ⊕ Bool) (fun QM =>
 bif (decide (QM < (p0.length : Int))) then
 Option.bind (bF p0 QM) fun v51 =>
 bif (v51 == p1) then
 some (Sum.inr (Sum.inr true))
 else
 some (Sum.inl (bD (QM + (1 : Int))))
 else
 some (Sum.inr (Sum.inl ()))) (0 : Int))
 (Sum.elim (fun e => some (Sum.inl e)) (fun e => some (Sum.inr e))))
 (fun _ =>
 some false)
 (fun e => some e)
theorem kZ (p0 : List Int) (p1 : Int) (r : Bool) (h0 : jX p0 p1 = some r) : aL Tryz.prog 52 [.d ((eL 1 eI) p0), .d (eI p1)] [] (.d (eB r)) [] := by
 unfold jX at h0
 refine fn0 [0, 1] Tryz.func52 rfl rfl rfl rfl rfl ?_
 refine sr (sa rfl (sn (SC.seqB h0 (fun y => ⟨mk 18 [], []⟩) ?_ ?_)))
 ·intro aez h1 h0
  obtain ⟨aev, h2, h1⟩ := ob h1
  refine sr (sa rfl (sn (SC.blk (SC.dH h2 (fun y => ⟨mk 18 [(0, .d ((eL 1 eI) p0)), (1, .d (eI p1)), (5, .d (eI y))], []⟩) (wq rfl) ?_))))
  intro n52
  rintro QM ad6 h3 hv3
  refine sq (sr (sm rfl (sm rfl (s1 (len rfl rfl rfl (aZ mO)) (s1 (bi rfl rfl aQ) (sn (cB h3 rfl (fun h3 => ?_) (fun h3 => ?_))))))))
  ·obtain ⟨v51, U4, h3⟩ := ob h3
   refine sk (sq (SC.blk (sr (sm rfl (sm rfl (s1 (j4 rfl rfl mO bO (ak U4).1 (aT (ak U4).2) rfl) (s1 (aS rfl (bK bO dW rfl)) (sm rfl (s1 (bi rfl rfl aP) ?_)))))))))
   refine sn (cB h3 rfl (fun h3 => ?_) (fun h3 => ?_))
   ·have q := si h3; subst q; have q : _ = _ := hv3; subst q; have q := si h1; subst q; have q := si h0; subst q
    exact sr (sa rfl (sn (SC.ret (aV (Wk.refl _) (aI rfl aG) rfl))))
   ·refine SC.skip ?_
    change SC _ _ _ _ _
    have q := si h3; subst q
    exact SC.region (sm rfl (s1 (bi rfl rfl aR) (sa rfl (SO.nil (lf (wq rfl))))))
  ·have q := si h3; subst q; have q : _ = _ := hv3; subst q; have q := si h1; subst q
   exact SC.exit (lf (wq rfl))
 ·intro _ h0
  have q := si h0; subst q
  exact sr (sa rfl (sn (SC.ret (aV (Wk.refl _) (aI rfl aG) rfl))))
noncomputable def jH (p0 : Int) (p1 : List Int) : Option Bool :=
 eH (Y := Unit) (E := Bool)
 (Option.bind (α := Unit ⊕ Bool)
 (loop (Y := Int) (W := Unit ⊕ Bool) (fun FK =>
 bif (decide (FK < (p1.length : Int))) then
 Option.bind (α := Bool)
 (Option.bind (bF p1 FK) fun aek =>
 bif (decide (aek < (0 : Int))) then
 some true
 else
 Option.bind (bF p1 FK) fun aej =>
 bif (decide (aej ≥ p0)) then
 some true
 else
 bif decide (0 ≤ FK ∧ FK ≤ (p1.length : Int)) then
 Option.bind (bF p1 FK) fun Oi =>
 Option.bind (jX (List.take FK.toNat p1) Oi) fun Dj =>
 some Dj
 else none)
 fun Tp =>
 bif Tp then
 some (Sum.inr (Sum.inr false))
 else
 some (Sum.inl (bD (FK + (1 : Int))))
 else
 some (Sum.inr (Sum.inl ()))) (0 : Int))
 (Sum.elim (fun e => some (Sum.inl e)) (fun e => some (Sum.inr e))))
 (fun _ =>
 some true)
 (fun e => some e)
theorem qG (p0 : Int) (p1 : List Int) (r : Bool) (h0 : jH p0 p1 = some r) : aL Tryz.prog 24 [.d (eI p0), .d ((eL 1 eI) p1)] [] (.d (eB r)) [] := by
 unfold jH at h0
 refine fn0 [0, 1] Tryz.func24 rfl rfl rfl rfl rfl ?_
 refine sr (sa rfl (sn (SC.seqB h0 (fun y => ⟨mk 35 [], []⟩) ?_ ?_)))
 ·intro aaW h1 h0
  obtain ⟨aky, h2, h1⟩ := ob h1
  refine sr (sa rfl (sn (SC.blk (SC.dH h2 (fun y => ⟨mk 35 [(0, .d (eI p0)), (1, .d ((eL 1 eI) p1)), (5, .d (eI y))], []⟩) (wq rfl) ?_))))
  intro n286
  rintro FK ajs h3 hv3
  refine sq (sr (sm rfl (sm rfl (s1 (len rfl rfl rfl (aZ mO)) (s1 (bi rfl rfl aQ) (sn (cB h3 rfl (fun h3 => ?_) (fun h3 => ?_))))))))
  ·refine sk (sq (SC.blk (SC.bJ h3 (fun y => ⟨mk 35 [(0, .d (eI p0)), (1, .d ((eL 1 eI) p1)), (5, .d (eI FK)), (34, .d (eB y))], []⟩) ?_ ?_)))
   ·intro akd h4
    obtain ⟨aek, ZE, h4⟩ := ob h4
    refine SC.draws (by kernel_rfl) (t1 ([], false) (mv rfl) rfl (t1 ([], false) (mv rfl) rfl (t1 ([], false) (j4 rfl rfl mO bO (ak ZE).1 (aT (ak ZE).2) rfl) rfl (t1 ([], false) (aS rfl (bK bO dW rfl)) rfl (t1 ([], false) (bi rfl rfl aQ) rfl (t1 ([], false) (mv rfl) rfl (tp h4 (fun h4 => ?_) (fun h4 => ?_))))))))
    ·have q := si h4; subst q
     refine jw rfl (jw rfl (jw rfl (jw rfl (jw rfl (jw rfl (t1 ([], false) (pkt rfl rfl) rfl (t1 ([], false) (mv rfl) rfl (jw rfl (jw rfl ?_)))))))))
     refine jw rfl (jw rfl (jw rfl (jw rfl (jw rfl (jw rfl (t1 ([], false) (pkt rfl rfl) rfl (ST.nil (And.intro (by decide +kernel) ?_))))))))
     exact (wq rfl)
    ·obtain ⟨aej, ZC, h4⟩ := ob h4
     refine u1 ([], false) (ww rfl) (mv rfl) rfl (u1 ([], false) (ww rfl) (mv rfl) rfl (u1 ([], false) (ww rfl) (j4 rfl rfl mO bO (ak ZC).1 (aT (ak ZC).2) rfl) rfl (u1 ([], false) (ww rfl) (aS rfl (bK bO dW rfl)) rfl (u1 ([], false) (ww rfl) (mv rfl) rfl (u1 ([], false) (ww rfl) (bi rfl rfl dU) rfl (t1 ([], false) (dB rfl rfl) rfl (t1 ([], false) (mv rfl) rfl (tp h4 (fun h4 => ?_) (fun h4 => ?_)))))))))
     ·have q := si h4; subst q
      refine jw rfl (jw rfl (jw rfl (jw rfl (jw rfl (jw rfl (jw rfl (jw rfl (t1 ([], false) (pkt rfl rfl) rfl (ST.nil (And.intro (by decide +kernel) ?_))))))))))
      exact (wq rfl)
     ·obtain ⟨aha, h4⟩ := gd h4; obtain ⟨Oi, MW, h4⟩ := ob h4; obtain ⟨Dj, Vl, h4⟩ := ob h4; have q := si h4; subst q
      refine u1 ([], false) (ww rfl) (mv rfl) rfl (u1 ([], false) (ww rfl) (mv rfl) rfl (u1 ([], false) (ww rfl) (SV rfl rfl rfl rfl (CX mO bO aha)) rfl (u1 ([], false) (ww rfl) (mv rfl) rfl (u1 ([], false) (ww rfl) (mv rfl) rfl (u1 ([], false) (ww rfl) (j4 rfl rfl mO bO (ak MW).1 (aT (ak MW).2) rfl) rfl (u1 ([], false) (ww rfl) (aS rfl (bK bO dW rfl)) rfl (Lj (kZ (List.take FK.toNat p1) Oi _ Vl) (ww rfl) rfl rfl rfl RH rfl (fun _ => rfl) (fun _ => rfl) (t1 ([], false) (dB rfl rfl) rfl (ST.nil (And.intro (by decide +kernel) ?_))))))))))
      exact (wq rfl)
   ·rintro Tp h3
    refine cB h3 rfl (fun h3 => ?_) (fun h3 => ?_)
    ·have q := si h3; subst q; have q : _ = _ := hv3; subst q; have q := si h1; subst q; have q := si h0; subst q
     exact sr (sa rfl (sn (SC.ret (aV (Wk.refl _) (aI rfl aG) rfl))))
    ·refine SC.skip ?_
     change SC _ _ _ _ _
     have q := si h3; subst q
     exact SC.region (sm rfl (s1 (bi rfl rfl aR) (sa rfl (SO.nil (lf (wq rfl))))))
  ·have q := si h3; subst q; have q : _ = _ := hv3; subst q; have q := si h1; subst q
   exact SC.exit (lf (wq rfl))
 ·intro _ h0
  have q := si h0; subst q
  exact sr (sa rfl (sn (SC.ret (aV (Wk.refl _) (aI rfl aG) rfl))))
end Lv
