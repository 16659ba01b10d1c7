/- Part of the proof of a law: functions and their walks. -/
import Derived.Test.YtjnpmmiacggffaaGreatDoorXPrims
namespace Lv
open Go Go.Proofs
set_option linter.unusedVariables false
set_option linter.unusedSimpArgs false
set_option linter.unusedSectionVars false
set_option maxRecDepth 100000
variable [bJ] [uO]
noncomputable def oQ (p0 : List UInt8) : Option ((List UInt8) × Bool) :=
 Option.bind (α := Nat)
 (Option.bind (α := Nat)
 (loop (Y := Nat) (W := Nat) (fun vP =>
 Option.bind (α := Bool)
 (bif (decide ((vP : Int) > (0 : Int))) then
 Option.bind (sD p0 0 vP (bF ((vP : Int) - (1 : Int)))) fun Y9 =>
 some (Y9 == (255 : UInt8))
 else
 some false)
 fun DL =>
 bif DL then
 bif decide (0 ≤ (bF ((vP : Int) - (1 : Int))) ∧ (bF ((vP : Int) - (1 : Int))) ≤ (vP : Int)) then
 some (Sum.inl ((bF ((vP : Int) - (1 : Int))).toNat))
 else none
 else
 some (Sum.inr vP)) p0.length)
 (fun e => some e))
 fun y113 =>
 bif ((y113 : Int) == (0 : Int)) then
 some (([] : List UInt8), false)
 else
 Option.bind (sD p0 0 y113 (bF ((y113 : Int) - (1 : Int)))) fun sN =>
 Option.bind (sD p0 0 y113 (bF ((y113 : Int) - (1 : Int)))) fun Ir =>
 bif decide (0 + y113 ≤ (List.set p0 ((bF ((y113 : Int) - (1 : Int))).toNat) (sN + (1 : UInt8))).length) then
 some ((List.take y113 (List.drop 0 (List.set p0 ((bF ((y113 : Int) - (1 : Int))).toNat) (sN + (1 : UInt8))))), true)
 else none
theorem Ew (p0 : List UInt8) (r : (List UInt8) × Bool) (h0 : oQ p0 = some r) : aO Tryz.prog 72 [.d (eS p0)] [] (.tuple [.d (eS r.1), .d (eB r.2)]) [] := by
 unfold oQ at h0
 refine fn0 [0] Tryz.func72 rfl rfl rfl rfl rfl ?_
 refine sr (s1 (lX (v := .d (eS ([] : List UInt8))) rfl) (sa rfl (sn (sr (sm rfl (s1 (cvs (s := p0) (k := 0) rfl uR iw TI Qu rfl) (sa rfl (sn (SC.bV h0 (fun y => ⟨mk 37 [(4, .slc 0 1 0 y none)], [.row 1 (List.map gH p0) true]⟩) ?_ ?_)))))))))
 ·intro aoG h1
  obtain ⟨an0, h2, h1⟩ := ob h1
  refine SC.blk (SC.dL h2 (fun y => ⟨mk 37 [(4, .slc 0 1 0 y none)], [.row 1 (List.map gH p0) true]⟩) (wq rfl) ?_)
  intro n134
  rintro vP amx h3 hv3
  refine sq (SC.bV h3 (fun y => ⟨mk 37 [(4, .slc 0 1 0 vP none), (18, .d (eB y))], [.row 1 (List.map gH p0) true]⟩) ?_ ?_)
  ·intro anu h4
   refine SC.region (sm rfl (s1 (len rfl rfl rfl (dP iw)) (s1 (bi rfl rfl bM) (sm rfl (sp h4 (fun h4 => ?_) (fun h4 => ?_))))))
   ·obtain ⟨Y9, ac1, h4⟩ := ob h4; have q := si h4; subst q
    exact gw rfl (mv rfl) (gw rfl (mv rfl) (gw rfl (len rfl rfl rfl (dP iw)) (gw rfl (bi rfl rfl dK) (gw rfl (JC rfl rfl iw Qu (eX ac1).1) (gw rfl (bg rfl (jr Qu ta5 rfl (aY (by have q := (eX ac1).2; simpa using q)) rfl)) (gw rfl (bi rfl rfl (Pf (b := (255 : UInt8)))) (s1 (pkt rfl rfl) (SO.nil ((wq rfl))))))))))
   ·have q := si h4; subst q
    exact kw rfl (kw rfl (kw rfl (kw rfl (kw rfl (kw rfl (kw rfl (s1 (dx rfl rfl) (SO.nil ((wq rfl))))))))))
  ·rintro DL h3
   refine cB h3 rfl (fun h3 => ?_) (fun h3 => ?_)
   ·obtain ⟨ajq, h3⟩ := gd h3; have q := si h3; subst q
    refine sk (SC.blk (SC.region (sm rfl (sm rfl (s1 (len rfl rfl rfl (dP iw)) (s1 (bi rfl rfl dK) (s1 (VU rfl rfl rfl rfl (sZ iw Qu ajq)) (sa rfl (SO.nil ?_)))))))))
    exact lf (wq rfl)
   ·have q := si h3; subst q; have q : _ = _ := hv3; subst q; have q := si h1; subst q
    exact SC.exit ((wq rfl))
 ·rintro y113 h0
  refine sq (sr (sm rfl (s1 (len rfl rfl rfl (dP iw)) (s1 (bi rfl rfl aM) (sn (cB h0 rfl (fun h0 => ?_) (fun h0 => ?_)))))))
  ·have q := si h0; subst q
   exact sr (s1 (lX (v := .d (eS ([] : List UInt8))) rfl) (sa rfl (sn (SC.ret (bQ (wc (e' := [(2, .d (eS ([] : List UInt8))), (3, .d (eB false))]) [] [] (by kernel_rfl) rfl (by kernel_rfl)) (aZ rfl (aZ rfl aX)) rfl)))))
  ·obtain ⟨sN, GD, h0⟩ := ob h0; obtain ⟨Ir, PL, h0⟩ := ob h0; obtain ⟨ajp, h0⟩ := gd h0; have q := si h0; subst q
   refine sk (sr (sm rfl (sm rfl (s1 (len rfl rfl rfl (dP iw)) (s1 (bi rfl rfl dK) (s1 (JC rfl rfl iw Qu (eX GD).1) (s1 (bg rfl (jr Qu ta5 rfl (aY (by have q := (eX GD).2; simpa using q)) rfl)) (s1 (bi rfl rfl (Pg (b := (1 : UInt8)))) (s1 (JC rfl rfl iw Qu (eX PL).1) ?_)))))))))
   exact s0 (jP (b := .d (gH (sN + (1 : UInt8)))) rfl rfl (sR (f := gH) (v := (sN + (1 : UInt8))) Qu rfl rfl rfl rfl (by have q := (eX PL).2; simpa using q) rfl rfl)) (sn (sr (sm rfl (s1 (Qw (v := .d (eS (List.take y113 (List.drop 0 (List.set p0 ((bF ((y113 : Int) - (1 : Int))).toNat) (sN + (1 : UInt8))))))) rfl (sU iw uR TI (afq (xs := (List.set p0 ((bF ((y113 : Int) - (1 : Int))).toNat) (sN + (1 : UInt8)))) rfl ajp) (fun _ hh => by cases hh))) (sa rfl (sa rfl (sn (SC.ret (bQ (wc (e' := [(2, .d (eS (List.take y113 (List.drop 0 (List.set p0 ((bF ((y113 : Int) - (1 : Int))).toNat) (sN + (1 : UInt8))))))), (3, .d (eB true))]) [] [] (by kernel_rfl) rfl (by kernel_rfl)) (aZ rfl (aZ rfl aX)) rfl)))))))))
noncomputable def oP (p0 : List UInt8) : Option aW :=
 Option.bind (oQ p0) fun (r9, M0) =>
 some (aW.mk p0 r9 (!M0))
theorem Ev (p0 : List UInt8) (r : aW) (h0 : oP p0 = some r) : aO Tryz.prog 42 [.d (eS p0)] [] (.d (bB r)) [.box (.d (bB r))] := by
 unfold oP at h0
 refine fn0 [0] Tryz.func42 rfl rfl rfl rfl rfl ?_
 obtain ⟨⟨r9, M0⟩, hq8, h0⟩ := ob h0; have q := si h0; subst q
 refine sr (s1 (yT (k := 0) Mk rfl) (sn (sr (sm rfl (c0 (Ew p0 _ hq8) wf rfl rfl rfl ajO rfl (fun _ => rfl) (fun _ => rfl) (sm rfl (s1 (ext rfl rfl) (s1 (ext rfl rfl) (sa rfl ?_)))))))))
 refine sa rfl (sn (sr (sm rfl (sm rfl (sm rfl (s1 (nt rfl) (s1 (xI rfl (J5 p0 r9 (!M0))) (s0 (jP rfl rfl (sB (d' := .d (bB (aW.mk p0 r9 (!M0)))) nE rfl rfl rfl rfl rfl rfl rfl)) (sn ?_)))))))))
 exact SC.ret (bQ (Wk.refl _) (Cr rfl (ah nE CG rfl rfl) aX) rfl)
noncomputable def fT (p0 : aA) : Option Int :=
 Option.bind (α := Bool)
 (bif (p0.Kind == (4 : Int)) then
 some (p0.Kind == (4 : Int))
 else
 some (p0.Kind == (5 : Int)))
 fun y6 =>
 bif y6 then
 some (2 : Int)
 else
 bif (p0.Kind == (6 : Int)) then
 some (1 : Int)
 else
 some (0 : Int)
theorem oo (p0 : aA) (r : Int) (h0 : fT p0 = some r) : aO Tryz.prog 57 [.d (aU p0)] [] (.d (eI r)) [] := by
 unfold fT at h0
 refine fn0 [0] Tryz.func57 rfl rfl rfl rfl rfl ?_
 refine sr (s1 (tH (k := 0) rfl rfl rfl) (sa rfl (sn (sq (sr (s1 (far (k := 0) rfl qH bD rfl) (s1 (bg rfl (ah bD dH rfl rfl)) (sn (SC.blk ?_)))))))))
 refine SC.bV h0 (fun y => ⟨mk 10 [(4, .d (eI p0.Kind)), (5, .d (eB y))], []⟩) ?_ ?_
 ·intro Zd h1
  refine sr (s1 (bi rfl rfl aM) (sa rfl (sn (cB h1 rfl (fun h1 => ?_) (fun h1 => ?_)))))
  ·have q := si h1; subst q
   exact SC.skip ((wc [] [] (by kernel_rfl) rfl (by kernel_rfl)))
  ·have q := si h1; subst q
   exact SC.region (s1 (bi rfl rfl aM) (sa rfl (SO.nil ((wc [] [] (by kernel_rfl) rfl (by kernel_rfl))))))
 ·rintro y6 h0
  refine cB h0 rfl (fun h0 => ?_) (fun h0 => ?_)
  ·have q := si h0; subst q
   exact sr (sa rfl (sn (SC.ret (bQ (Wk.refl _) (aZ rfl aX) rfl))))
  ·refine sr (s1 (bi rfl rfl aM) (sa rfl (sn (cB h0 rfl (fun h0 => ?_) (fun h0 => ?_)))))
   ·have q := si h0; subst q
    exact sr (sa rfl (sn (SC.ret (bQ (Wk.refl _) (aZ rfl aX) rfl))))
   ·refine SC.skip ?_
    change SC _ _ _ _ _
    have q := si h0; subst q
    exact sr (sa rfl (sn (SC.ret (bQ (Wk.refl _) (aZ rfl aX) rfl))))
noncomputable def gB : Nat → (List aA) → Int → Bool → Option ((List aA) × Int)
 | 0, _, _, _ => none
 | n + 1, p0, p1, p2 =>
  Option.bind (bG p0 p1) fun v229 =>
  Option.bind (α := Bool)
   (bif p2 then
    Option.bind (fT v229) fun Zw =>
    bif (Zw == (0 : Int)) then
     some true
    else
     bif p2 then
      some (v229.Kind == (4 : Int))
     else
      some false
   else
    bif p2 then
     some (v229.Kind == (4 : Int))
    else
     some false)
   fun wL =>
  Option.bind (α := (List aA) × Int)
   (Option.bind (fT v229) fun TY =>
   Option.bind (α := (List aA) × Int)
    (loop (Y := (List aA) × Int × Int) (W := (List aA) × Int) (fun (Mq, Qx, Tx) =>
     bif (decide (Tx < TY)) then
      Option.bind (gB n p0 Qx wL) fun (I6, Zu) =>
      bif decide ((I6.length + Mq.length) * 56 ≤ room) then
      some (Sum.inl ((I6 ++ Mq), Zu, (bF (Tx + (1 : Int)))))
      else none
     else
      some (Sum.inr (Mq, Qx))) (([] : List aA), (bF (p1 - (1 : Int))), (0 : Int)))
    (fun e => some e))
   fun (Ik, Tz) =>
  Option.bind (α := (List aA))
   (Option.bind (α := Bool)
    (bif wL then
     bif (v229.Kind == (2 : Int)) then
      some true
     else
      some (v229.Kind == (3 : Int))
    else
     some false)
    fun YX =>
   bif YX then
    bif decide ((Ik.length + [v229].length) * 56 ≤ room) then
    some (Ik ++ [v229])
    else none
   else
    some Ik)
   fun YZ =>
  some (YZ, Tz)
theorem vC : ∀ (n : Nat) (p0 : List aA) (p1 : Int) (p2 : Bool) (r : (List aA) × Int) (h0 : gB n p0 p1 p2 = some r), aO Tryz.prog 73 [.d ((eL 6 aU) p0), .d (eI p1), .d (eB p2)] [] (.tuple [.slc 0 6 0 r.1.length none, .d (eI r.2)]) [.row 6 (List.map aU r.1) true]
 | 0, _, _, _, _, h0 => by cases h0
 | n + 1, p0, p1, p2, r, h0 => by
  unfold gB at h0
  refine fn0 [0, 1, 2] Tryz.func73 rfl rfl rfl rfl rfl ?_
  obtain ⟨v229, acS, h0⟩ := ob h0
  refine sr (s1 (lX (v := .d .dn) rfl) (sa rfl (sn (sr (sm rfl (sm rfl (s1 (jo rfl rfl vR q9 (aj acS).1 (aY (aj acS).2) rfl) (s1 (bg (v := .d (aU v229)) rfl (bN q9 GZ rfl)) (s1 (yT (k := 0) YE rfl) ?_)))))))))
  refine s0 (jP rfl rfl (sB (d' := .d (aU v229)) q9 rfl rfl rfl rfl rfl rfl rfl)) (sn (SC.bV h0 (fun y => ⟨mk 64 [(0, .d ((eL 6 aU) p0)), (1, .d (eI p1)), (2, .d (eB y)), (8, .ref 0 0 0)], [.box (.d (aU v229))]⟩) ?_ ?_))
  ·intro aov h1
   refine SC.region (sm rfl (sm rfl (sp h1 (fun h1 => ?_) (fun h1 => ?_))))
   ·obtain ⟨Zw, aiE, h1⟩ := ob h1
    refine gw rfl (bg (v := .d (aU v229)) rfl (ah q9 GZ rfl rfl)) (c0 (oo v229 _ aiE) (ww rfl) rfl rfl rfl afy rfl (fun _ => rfl) (fun _ => rfl) (gw rfl (bi rfl rfl aM) (s1 (pkt rfl rfl) (sm rfl (sp h1 (fun h1 => ?_) (fun h1 => ?_))))))
    ·have q := si h1; subst q
     exact kw rfl (kw rfl (kw rfl (kw rfl (kw rfl (kw rfl (s1 (pkt rfl rfl) (sa rfl (SO.nil ((wq rfl))))))))))
    ·refine gw rfl (mv rfl) (gw rfl (mv rfl) (sp h1 (fun h1 => ?_) (fun h1 => ?_)))
     ·have q := si h1; subst q
      exact gw rfl (far (k := 0) rfl qH bD rfl) (gw rfl (bg rfl (ah bD dH rfl rfl)) (gw rfl (bi rfl rfl aM) (gw rfl (pkt rfl rfl) (s1 (dx rfl rfl) (sa rfl (SO.nil ((wq rfl))))))))
     ·have q := si h1; subst q
      exact kw rfl (kw rfl (kw rfl (gw rfl (dx rfl rfl) (s1 (dx rfl rfl) (sa rfl (SO.nil ((wq rfl))))))))
   ·refine kw rfl (kw rfl (kw rfl (s1 (dx rfl rfl) (sm rfl (gw rfl (mv rfl) (gw rfl (mv rfl) (sp h1 (fun h1 => ?_) (fun h1 => ?_))))))))
    ·have q := si h1; subst q
     exact gw rfl (far (k := 0) rfl qH bD rfl) (gw rfl (bg rfl (ah bD dH rfl rfl)) (gw rfl (bi rfl rfl aM) (gw rfl (pkt rfl rfl) (s1 (dx rfl rfl) (sa rfl (SO.nil ((wq rfl))))))))
    ·have q := si h1; subst q
     exact kw rfl (kw rfl (kw rfl (gw rfl (dx rfl rfl) (s1 (dx rfl rfl) (sa rfl (SO.nil ((wq rfl))))))))
  ·rintro wL h0
   refine sr (s1 (lX (v := .d .dn) rfl) (sn (sr (sm rfl (s1 (bi rfl rfl dK) (sa rfl (sn (SC.bV h0 (fun y => ⟨mk 64 [(2, .d (eB wL)), (8, .ref 0 0 0), (9, .slc 1 6 0 y.1.length none), (10, .d (eI y.2))], [.box (.d (aU v229)), .row 6 (List.map aU y.1) true]⟩) ?_ ?_))))))))
   ·intro aos h1
    obtain ⟨TY, aiz, h1⟩ := ob h1; obtain ⟨anP, h2, h1⟩ := ob h1
    refine sr (s1 (bg (v := .d (aU v229)) rfl (ah q9 GZ rfl rfl)) (c0 (oo v229 _ aiz) wf rfl rfl rfl afy rfl (fun _ => rfl) (fun _ => rfl) (sm rfl (sn (SC.blk (SC.dL h2 (fun y => ⟨mk 64 [(0, .d ((eL 6 aU) p0)), (2, .d (eB wL)), (8, .ref 0 0 0), (9, .slc 1 6 0 y.1.length none), (10, .d (eI y.2.1)), (33, .d (eI TY)), (34, .d (eI y.2.2))], [.box (.d (aU v229)), .row 6 (List.map aU y.1) true]⟩) (Wk.trans (Wk.mo (σ' := [.box (.d (aU v229)), .row 6 (List.map aU ([] : List aA)) true]) (.row 6 [] true) (fun _ hh => by cases hh) rfl) (Wk.trans (Wk.env (e' := [(0, .d ((eL 6 aU) p0)), (2, .d (eB wL)), (8, .ref 0 0 0), (9, .slc 1 6 0 (([] : List aA).length) none), (10, .d (eI (bF (p1 - (1 : Int))))), (33, .d (eI TY)), (34, .d (eI (0 : Int)))]) (EW.cons (AW.refl _) (EW.cons (AW.refl _) (EW.cons (AW.refl _) (EW.cons (AW.mg _ _ _) (EW.cons (AW.refl _) (EW.cons (AW.refl _) (EW.cons (AW.refl _) EW.nil)))))))) (wq rfl))) ?_))))))
    intro n284
    rintro ⟨Mq, Qx, Tx⟩ aml h3 hv3
    refine sr (s1 (bi rfl rfl aJ) (sn (sq (cB h3 rfl (fun h3 => ?_) (fun h3 => ?_)))))
    ·obtain ⟨⟨I6, Zu⟩, Xx, h3⟩ := ob h3; obtain ⟨ajh, h3⟩ := gd h3
     refine sk (sq (SC.blk (sr (s1 (lX (v := .d .dn) rfl) (sn (sr (sm rfl (sm rfl (sm rfl ?_)))))))))
     refine cq [] [2] (vC n p0 Qx wL _ Xx) wf rfl rfl rfl ajN rfl rfl rfl rfl rfl rfl rfl rfl (sm rfl (s1 (ext rfl rfl) (s1 (ext rfl rfl) (sa rfl (sa rfl (sn (SC.region (sm rfl (sm rfl ?_)))))))))
     refine s1 (app rfl rfl rfl rfl bc27 (aF (f := aU) (xs := I6) (k := 3) rfl vR ZT rfl (eY (xs := Mq) rfl) ajh rfl)) (sa rfl (SO.nil ?_))
     change SC _ _ _ _ _
     have q := si h3; subst q
     exact SC.region (s1 (bi rfl rfl aT) (sm rfl (SO.nil (lf (wc [0, 3] [0, 3] (by kernel_rfl) rfl (by kernel_rfl))))))
    ·have q := si h3; subst q; have q : _ = _ := hv3; subst q; have q := si h1; subst q
     exact SC.exit ((wq rfl))
   ·rintro ⟨Ik, Tz⟩ h0
    refine SC.bV h0 (fun y => ⟨mk 64 [(9, .slc 0 6 0 y.length none), (10, .d (eI Tz))], [.row 6 (List.map aU y) true]⟩) ?_ ?_
    ·intro aoo h1
     refine SC.bV h1 (fun y => ⟨mk 64 [(8, .ref 0 0 0), (9, .slc 1 6 0 Ik.length none), (10, .d (eI Tz)), (57, .d (eB y))], [.box (.d (aU v229)), .row 6 (List.map aU Ik) true]⟩) ?_ ?_
     ·intro anO h2
      refine SC.region (sm rfl (sm rfl (sp h2 (fun h2 => ?_) (fun h2 => ?_))))
      ·refine gw rfl (far (k := 0) rfl qH bD rfl) (gw rfl (bg rfl (ah bD dH rfl rfl)) (gw rfl (bi rfl rfl aM) (gw rfl (mv rfl) (sp h2 (fun h2 => ?_) (fun h2 => ?_)))))
       ·have q := si h2; subst q
        exact kw rfl (kw rfl (kw rfl (gw rfl (pkt rfl rfl) (s1 (pkt rfl rfl) (SO.nil ((wq rfl)))))))
       ·have q := si h2; subst q
        exact gw rfl (far (k := 0) rfl qH bD rfl) (gw rfl (bg rfl (ah bD dH rfl rfl)) (gw rfl (bi rfl rfl aM) (gw rfl (dx rfl rfl) (s1 (pkt rfl rfl) (SO.nil ((wq rfl)))))))
      ·have q := si h2; subst q
       refine kw rfl (kw rfl (kw rfl (kw rfl (kw rfl (kw rfl (kw rfl (kw rfl (s1 (dx rfl rfl) (SO.nil ?_)))))))))
       exact (wq rfl)
     ·rintro YX h1
      refine cB h1 rfl (fun h1 => ?_) (fun h1 => ?_)
      ·obtain ⟨ajg, h1⟩ := gd h1; have q := si h1; subst q
       exact SC.region (sm rfl (s1 (bg (v := .d (aU v229)) rfl (ah q9 GZ rfl rfl)) (s1 (sM (k := 2) (ds := List.map aU [v229]) (off := 0) (l' := [v229].length) rfl vR ZT rfl rfl (by rfl) rfl rfl rfl) (s1 (app rfl rfl rfl rfl bc27 (aF (f := aU) (xs := Ik) (k := 3) rfl vR ZT rfl (eY (xs := [v229]) rfl) ajg rfl)) (sa rfl (SO.nil ((wc [3] [3] (by kernel_rfl) rfl (by kernel_rfl)))))))))
      ·have q := si h1; subst q
       exact SC.skip ((wc [1] [1] (by kernel_rfl) rfl (by kernel_rfl)))
    ·rintro YZ h0
     have q := si h0; subst q
     exact sr (sm rfl (sm rfl (sa rfl (sa rfl (sn (SC.ret (bQ (Wk.refl _) (aZ rfl (aZ rfl aX)) rfl)))))))
noncomputable def lg (p0 : aA) (p1 : Int) : Option Bool :=
 Option.bind (α := Bool)
 (bif (p0.Col == p1) then
 bif (p0.Kind == (3 : Int)) then
 some true
 else
 some (p0.Op == (3 : Int))
 else
 some false)
 fun y6 =>
 some y6
theorem CS (p0 : aA) (p1 : Int) (r : Bool) (h0 : lg p0 p1 = some r) : aO Tryz.prog 76 [.d (aU p0), .d (eI p1)] [] (.d (eB r)) [] := by
 unfold lg at h0
 refine fn0 [0, 1] Tryz.func76 rfl rfl rfl rfl rfl ?_
 refine sr (s1 (tH (k := 0) rfl rfl rfl) (sa rfl (sn (SC.bV h0 (fun y => ⟨mk 19 [(4, .d (eB y))], []⟩) ?_ ?_))))
 ·intro Zd h1
  refine SC.region (s1 (far (k := 1) rfl yI bD rfl) (s1 (bg rfl (ah bD dH rfl rfl)) (sm rfl (s1 (bi rfl rfl aM) (sm rfl (sp h1 (fun h1 => ?_) (fun h1 => ?_)))))))
  ·refine gw rfl (far (k := 0) rfl qH bD rfl) (gw rfl (bg rfl (ah bD dH rfl rfl)) (gw rfl (bi rfl rfl aM) (gw rfl (mv rfl) (sp h1 (fun h1 => ?_) (fun h1 => ?_)))))
   ·have q := si h1; subst q
    exact kw rfl (kw rfl (kw rfl (gw rfl (pkt rfl rfl) (s1 (pkt rfl rfl) (sa rfl (SO.nil ((wc [] [] (by kernel_rfl) rfl (by kernel_rfl)))))))))
   ·have q := si h1; subst q
    exact gw rfl (far (k := 2) rfl qG bD rfl) (gw rfl (bg rfl (ah bD dH rfl rfl)) (gw rfl (bi rfl rfl aM) (gw rfl (dx rfl rfl) (s1 (pkt rfl rfl) (sa rfl (SO.nil ((wc [] [] (by kernel_rfl) rfl (by kernel_rfl)))))))))
  ·have q := si h1; subst q
   refine kw rfl (kw rfl (kw rfl (kw rfl (kw rfl (kw rfl (kw rfl (kw rfl (s1 (dx rfl rfl) (sa rfl ?_)))))))))
   exact SO.nil ((wc [] [] (by kernel_rfl) rfl (by kernel_rfl)))
 ·rintro y6 h0
  have q := si h0; subst q
  exact SC.ret (bQ (Wk.refl _) (aZ rfl aX) rfl)
noncomputable def qO (p0 : aA) (p1 : aI) : Option Bool :=
 Option.bind (lg p0 p1.Col) fun r7 =>
 some r7
theorem Fx (p0 : aA) (p1 : aI) (r : Bool) (h0 : qO p0 p1 = some r) : aO Tryz.prog 75 [.d (aU p0), .ref 0 0 0] [.box (.d (aR p1))] (.d (eB r)) [.box (.d (aR p1))] := by
 unfold qO at h0
 refine fn0 [0, 1] Tryz.func75 rfl rfl rfl rfl rfl ?_
 obtain ⟨r7, Hr, h0⟩ := ob h0; have q := si h0; subst q
 refine sr (s1 (tH (k := 1) rfl rfl rfl) (sa rfl (sn (sr (s1 (bg (v := .d (aU p0)) rfl (ah q9 GZ rfl rfl)) (s1 (far (k := 0) rfl wC bD rfl) (s1 (bg rfl (ah bD dH rfl rfl)) (c0 (CS p0 p1.Col _ Hr) wf rfl rfl rfl aqd rfl (fun _ => rfl) (fun _ => rfl) (sa rfl ?_)))))))))
 exact sn (SC.ret (bQ (wc (e' := [(3, .d (eB r7))]) [0] [0] (by kernel_rfl) rfl (by kernel_rfl)) (aZ rfl aX) rfl))
noncomputable def dh (p0 : List aA) (p1 : aI) : Option Int :=
 eu (Y := Unit) (E := Int)
 (Option.bind (α := Unit ⊕ Int)
 (loop (Y := Int) (W := Unit ⊕ Int) (fun uY =>
 bif (decide (uY < (p0.length : Int))) then
 Option.bind (bG p0 uY) fun v85 =>
 Option.bind (qO v85 p1) fun Hf =>
 bif Hf then
 some (Sum.inr (Sum.inr uY))
 else
 some (Sum.inl (bF (uY + (1 : Int))))
 else
 some (Sum.inr (Sum.inl ()))) (0 : Int))
 (Sum.elim (fun e => some (Sum.inl e)) (fun e => some (Sum.inr e))))
 (fun _ =>
 some (-1 : Int))
 (fun e => some e)
theorem lU (p0 : List aA) (p1 : aI) (r : Int) (h0 : dh p0 p1 = some r) : aO Tryz.prog 74 [.d ((eL 6 aU) p0), .fn (.func 75) [] [.ref 0 0 0]] [.box (.d (aR p1))] (.d (eI r)) [.box (.d (aR p1))] := by
 unfold dh at h0
 refine fn0 [0, 1] Tryz.func74 rfl rfl rfl rfl rfl ?_
 refine sr (sa rfl (sn (SC.seqB h0 (fun y => ⟨mk 19 [], [.box (.d (aR p1))]⟩) ?_ ?_)))
 ·intro OO h1 h0
  obtain ⟨Sw, h2, h1⟩ := ob h1
  refine sr (sm rfl (s1 (len rfl rfl rfl (bC vR)) (sm rfl (sn (SC.blk (SC.dL h2 (fun y => ⟨mk 19 [(0, .d ((eL 6 aU) p0)), (1, .fn (.func 75) [] [.ref 0 0 0]), (7, .d (eI (p0.length : Int))), (8, .d (eI y))], [.box (.d (aR p1))]⟩) (wq rfl) ?_))))))
  intro n88
  rintro uY Sj h3 hv3
  refine sr (s1 (bi rfl rfl aJ) (sn (sq (cB h3 rfl (fun h3 => ?_) (fun h3 => ?_)))))
  ·obtain ⟨v85, EC, h3⟩ := ob h3; obtain ⟨Hf, JD, h3⟩ := ob h3
   refine sk (sq (SC.blk (sr (sm rfl (sa rfl (sn (sr (sm rfl (sm rfl ?_)))))))))
   refine sm rfl (s1 (jo rfl rfl vR q9 (aj EC).1 (aY (aj EC).2) rfl) (s1 (bg (v := .d (aU v85)) rfl (bN q9 GZ rfl)) (cq [0] [] (Fx v85 p1 _ JD) wf rfl rfl rfl aqe rfl rfl rfl rfl rfl rfl rfl rfl (sn (cB h3 rfl (fun h3 => ?_) (fun h3 => ?_))))))
   ·have q := si h3; subst q; have q : _ = _ := hv3; subst q; have q := si h1; subst q; have q := si h0; subst q
    exact sr (sm rfl (sa rfl (sn (SC.ret (bQ (Wk.refl _) (aZ rfl aX) rfl)))))
   ·refine SC.skip ?_
    change SC _ _ _ _ _
    have q := si h3; subst q
    exact SC.region (s1 (bi rfl rfl aT) (sm rfl (SO.nil (lf (wq rfl)))))
  ·have q := si h3; subst q; have q : _ = _ := hv3; subst q; have q := si h1; subst q
   exact SC.exit (lf (wq rfl))
 ·intro _ h0
  have q := si h0; subst q
  exact sr (sa rfl (sn (SC.ret (bQ (Wk.refl _) (aZ rfl aX) rfl))))
noncomputable def j3 (p0 : ak) : Option Bool :=
 bif (p0.Kind == (0 : Int)) then
 some (dw p0 (ak.mk (0 : Int) (0 : UInt64) ([] : List UInt8)))
 else
 Option.bind (α := Bool)
 (bif (p0.Kind == (1 : Int)) then
 some (p0.Kind == (1 : Int))
 else
 some (p0.Kind == (2 : Int)))
 fun y26 =>
 bif y26 then
 some (p0.S == ([] : List UInt8))
 else
 bif (p0.Kind == (3 : Int)) then
 Option.bind (α := Bool)
 (bif (decide (p0.N ≤ (1 : UInt64))) then
 some (p0.S == ([] : List UInt8))
 else
 some false)
 fun y28 =>
 some y28
 else
 bif (p0.Kind == (4 : Int)) then
 Option.bind (α := Bool)
 (bif (p0.N == (0 : UInt64)) then
 some (decide ((p0.S.length : Int) ≤ (64 : Int)))
 else
 some false)
 fun BS =>
 some BS
 else
 bif (p0.Kind == (5 : Int)) then
 Option.bind (α := Bool)
 (bif (p0.N == (0 : UInt64)) then
 bif (decide ((p0.S.length : Int) ≤ (64 : Int))) then
 Option.bind (Ip p0.S) fun r37 =>
 some r37
 else
 some false
 else
 some false)
 fun y34 =>
 some y34
 else
 some false
theorem zM (p0 : ak) (r : Bool) (h0 : j3 p0 = some r) : aO Tryz.prog 66 [.d (bA p0)] [] (.d (eB r)) [] := by
 unfold j3 at h0
 refine fn0 [0] Tryz.func66 rfl rfl rfl rfl rfl ?_
 refine sr (s1 (tH (k := 0) rfl rfl rfl) (sa rfl (sn (sq (sr (s1 (far (k := 0) rfl kN bD rfl) (s1 (bg rfl (ah bD dH rfl rfl)) (sn (SC.blk ?_)))))))))
 refine sr (s1 (bi rfl rfl aM) (sa rfl (sn (cB h0 rfl (fun h0 => ?_) (fun h0 => ?_)))))
 ·have q := si h0; subst q
  exact sr (s1 (bg (v := .d (bA p0)) rfl (ah iC o8 rfl rfl)) (s1 (xI rfl (Cx )) (s1 (bi (v := .d (eB (dw p0 (ak.mk (0 : Int) (0 : UInt64) ([] : List UInt8))))) rfl rfl (fun X Y => vL X Y p0 (ak.mk (0 : Int) (0 : UInt64) ([] : List UInt8)))) (sa rfl (sn (SC.ret (bQ (wc (e' := [(2, .d (eB (dw p0 (ak.mk (0 : Int) (0 : UInt64) ([] : List UInt8)))))]) [] [] (by kernel_rfl) rfl (by kernel_rfl)) (aZ rfl aX) rfl)))))))
 ·refine SC.bV h0 (fun y => ⟨mk 53 [(1, .ref 0 0 0), (4, .d (eI p0.Kind)), (10, .d (eB y))], [.box (.d (bA p0))]⟩) ?_ ?_
  ·intro aqZ h1
   refine sr (s1 (bi rfl rfl aM) (sa rfl (sn (cB h1 rfl (fun h1 => ?_) (fun h1 => ?_)))))
   ·have q := si h1; subst q
    exact SC.skip ((wq rfl))
   ·have q := si h1; subst q
    exact SC.region (s1 (bi rfl rfl aM) (sa rfl (SO.nil ((wq rfl)))))
  ·rintro y26 h0
   refine cB h0 rfl (fun h0 => ?_) (fun h0 => ?_)
   ·have q := si h0; subst q
    exact sr (s1 (far (k := 2) rfl mO lY rfl) (s1 (bg rfl (ah lY xG rfl rfl)) (s1 (bi rfl rfl (qB (b := ([] : List UInt8)))) (sa rfl (sn (SC.ret (bQ (wc (e' := [(2, .d (eB (p0.S == ([] : List UInt8))))]) [] [] (by kernel_rfl) rfl (by kernel_rfl)) (aZ rfl aX) rfl)))))))
   ·refine sr (s1 (bi rfl rfl aM) (sa rfl (sn (cB h0 rfl (fun h0 => ?_) (fun h0 => ?_)))))
    ·refine SC.bV h0 (fun y => ⟨mk 53 [(2, .d (eB y))], []⟩) ?_ ?_
     ·intro aqY h1
      refine SC.region (s1 (far (k := 1) rfl qI rA rfl) (s1 (bg rfl (ah rA CF rfl rfl)) (s1 (bi rfl rfl (Ud (b := (1 : UInt64)))) (sm rfl (sp h1 (fun h1 => ?_) (fun h1 => ?_))))))
      ·have q := si h1; subst q
       exact gw rfl (far (k := 2) rfl mO lY rfl) (gw rfl (bg rfl (ah lY xG rfl rfl)) (gw rfl (bi rfl rfl (qB (b := ([] : List UInt8)))) (s1 (pkt rfl rfl) (sa rfl (SO.nil ((wc [] [] (by kernel_rfl) rfl (by kernel_rfl))))))))
      ·have q := si h1; subst q
       exact kw rfl (kw rfl (kw rfl (s1 (dx rfl rfl) (sa rfl (SO.nil ((wc [] [] (by kernel_rfl) rfl (by kernel_rfl))))))))
     ·rintro y28 h0
      have q := si h0; subst q
      exact SC.ret (bQ (Wk.refl _) (aZ rfl aX) rfl)
    ·refine sr (s1 (bi rfl rfl aM) (sa rfl (sn (cB h0 rfl (fun h0 => ?_) (fun h0 => ?_)))))
     ·refine SC.bV h0 (fun y => ⟨mk 53 [(2, .d (eB y))], []⟩) ?_ ?_
      ·intro ag3 h1
       refine SC.region (s1 (far (k := 1) rfl qI rA rfl) (s1 (bg rfl (ah rA CF rfl rfl)) (s1 (bi rfl rfl (xg (b := (0 : UInt64)))) (sm rfl (sp h1 (fun h1 => ?_) (fun h1 => ?_))))))
       ·have q := si h1; subst q
        exact gw rfl (far (k := 2) rfl mO lY rfl) (gw rfl (bg rfl (ah lY xG rfl rfl)) (gw rfl (len rfl rfl rfl (ny uR)) (gw rfl (bi rfl rfl xq) (s1 (pkt rfl rfl) (sa rfl (SO.nil ((wc [] [] (by kernel_rfl) rfl (by kernel_rfl)))))))))
       ·have q := si h1; subst q
        exact kw rfl (kw rfl (kw rfl (kw rfl (s1 (dx rfl rfl) (sa rfl (SO.nil ((wc [] [] (by kernel_rfl) rfl (by kernel_rfl)))))))))
      ·rintro BS h0
       have q := si h0; subst q
       exact SC.ret (bQ (Wk.refl _) (aZ rfl aX) rfl)
     ·refine sr (s1 (bi rfl rfl aM) (sa rfl (sn (cB h0 rfl (fun h0 => ?_) (fun h0 => ?_)))))
      ·refine SC.bV h0 (fun y => ⟨mk 53 [(2, .d (eB y))], []⟩) ?_ ?_
       ·intro ag1 h1
        refine SC.region (s1 (far (k := 1) rfl qI rA rfl) (s1 (bg rfl (ah rA CF rfl rfl)) (s1 (bi rfl rfl (xg (b := (0 : UInt64)))) (sm rfl (sp h1 (fun h1 => ?_) (fun h1 => ?_))))))
        ·refine gw rfl (far (k := 2) rfl mO lY rfl) (gw rfl (bg rfl (ah lY xG rfl rfl)) (gw rfl (len rfl rfl rfl (ny uR)) (gw rfl (bi rfl rfl xq) (s1 (pkt rfl rfl) (sm rfl (sp h1 (fun h1 => ?_) (fun h1 => ?_)))))))
         ·obtain ⟨r37, aeE, h1⟩ := ob h1; have q := si h1; subst q
          exact gw rfl (far (k := 2) rfl mO lY rfl) (gw rfl (bg rfl (ah lY xG rfl rfl)) (c0 (Vt p0.S _ aeE) (ww rfl) rfl rfl rfl aki rfl (fun _ => rfl) (fun _ => rfl) (s1 (pkt rfl rfl) (sa rfl (SO.nil ((wc [] [] (by kernel_rfl) rfl (by kernel_rfl))))))))
         ·have q := si h1; subst q
          exact kw rfl (kw rfl (kw rfl (s1 (dx rfl rfl) (sa rfl (SO.nil ((wc [] [] (by kernel_rfl) rfl (by kernel_rfl))))))))
        ·have q := si h1; subst q
         refine kw rfl (kw rfl (kw rfl (kw rfl (s1 (dx rfl rfl) (sm rfl (kw rfl (kw rfl (kw rfl (s1 (dx rfl rfl) ?_)))))))))
         exact sa rfl (SO.nil ((wc [] [] (by kernel_rfl) rfl (by kernel_rfl))))
       ·rintro y34 h0
        have q := si h0; subst q
        exact SC.ret (bQ (Wk.refl _) (aZ rfl aX) rfl)
      ·refine SC.skip ?_
       change SC _ _ _ _ _
       have q := si h0; subst q
       exact sr (sa rfl (sn (SC.ret (bQ (wc (e' := [(2, .d (eB false))]) [] [] (by kernel_rfl) rfl (by kernel_rfl)) (aZ rfl aX) rfl))))
noncomputable def kK (p0 : ak) : Option Bool :=
 Option.bind (j3 p0) fun r7 =>
 some (!r7)
theorem Hq (p0 : ak) (r : Bool) (h0 : kK p0 = some r) : aO Tryz.prog 126 [.d (bA p0)] [] (.d (eB r)) [] := by
 unfold kK at h0
 refine fn0 [0] Tryz.func126 rfl rfl rfl rfl rfl ?_
 obtain ⟨r7, Hr, h0⟩ := ob h0; have q := si h0; subst q
 refine sr (s1 (tH (k := 0) rfl rfl rfl) (sa rfl (sn (sr (s1 (bg (v := .d (bA p0)) rfl (ah iC o8 rfl rfl)) (c0 (zM p0 _ Hr) wf rfl rfl rfl ajQ rfl (fun _ => rfl) (fun _ => rfl) (s1 (nt rfl) (sa rfl (sn ?_)))))))))
 exact SC.ret (bQ (wc (e' := [(2, .d (eB (!r7)))]) [] [] (by kernel_rfl) rfl (by kernel_rfl)) (aZ rfl aX) rfl)
noncomputable def dI (p0 : List ak) : Option Int :=
 eu (Y := Unit) (E := Int)
 (Option.bind (α := Unit ⊕ Int)
 (loop (Y := Int) (W := Unit ⊕ Int) (fun uY =>
 bif (decide (uY < (p0.length : Int))) then
 Option.bind (bG p0 uY) fun v85 =>
 Option.bind (kK v85) fun Hf =>
 bif Hf then
 some (Sum.inr (Sum.inr uY))
 else
 some (Sum.inl (bF (uY + (1 : Int))))
 else
 some (Sum.inr (Sum.inl ()))) (0 : Int))
 (Sum.elim (fun e => some (Sum.inl e)) (fun e => some (Sum.inr e))))
 (fun _ =>
 some (-1 : Int))
 (fun e => some e)
theorem lV (p0 : List ak) (r : Int) (h0 : dI p0 = some r) : aO Tryz.prog 141 [.d ((eL 3 bA) p0), .fn (.func 126) [] []] [] (.d (eI r)) [] := by
 unfold dI at h0
 refine fn0 [0, 1] Tryz.func141 rfl rfl rfl rfl rfl ?_
 refine sr (sa rfl (sn (SC.seqB h0 (fun y => ⟨mk 19 [], []⟩) ?_ ?_)))
 ·intro OO h1 h0
  obtain ⟨Sw, h2, h1⟩ := ob h1
  refine sr (sm rfl (s1 (len rfl rfl rfl (bC ME)) (sm rfl (sn (SC.blk (SC.dL h2 (fun y => ⟨mk 19 [(0, .d ((eL 3 bA) p0)), (1, .fn (.func 126) [] []), (7, .d (eI (p0.length : Int))), (8, .d (eI y))], []⟩) (wq rfl) ?_))))))
  intro n88
  rintro uY Sj h3 hv3
  refine sr (s1 (bi rfl rfl aJ) (sn (sq (cB h3 rfl (fun h3 => ?_) (fun h3 => ?_)))))
  ·obtain ⟨v85, EC, h3⟩ := ob h3; obtain ⟨Hf, JD, h3⟩ := ob h3
   refine sk (sq (SC.blk (sr (sm rfl (sa rfl (sn (sr (sm rfl (sm rfl ?_)))))))))
   refine sm rfl (s1 (jo rfl rfl ME iC (aj EC).1 (aY (aj EC).2) rfl) (s1 (bg (v := .d (bA v85)) rfl (bN iC o8 rfl)) (c0 (Hq v85 _ JD) wf rfl rfl rfl akb rfl (fun _ => rfl) (fun _ => rfl) (sn (cB h3 rfl (fun h3 => ?_) (fun h3 => ?_))))))
   ·have q := si h3; subst q; have q : _ = _ := hv3; subst q; have q := si h1; subst q; have q := si h0; subst q
    exact sr (sm rfl (sa rfl (sn (SC.ret (bQ (Wk.refl _) (aZ rfl aX) rfl)))))
   ·refine SC.skip ?_
    change SC _ _ _ _ _
    have q := si h3; subst q
    exact SC.region (s1 (bi rfl rfl aT) (sm rfl (SO.nil (lf (wq rfl)))))
  ·have q := si h3; subst q; have q : _ = _ := hv3; subst q; have q := si h1; subst q
   exact SC.exit (lf (wq rfl))
 ·intro _ h0
  have q := si h0; subst q
  exact sr (sa rfl (sn (SC.ret (bQ (Wk.refl _) (aZ rfl aX) rfl))))
noncomputable def bX (p0 : List ak) : Option Bool :=
 Option.bind (dI p0) fun r7 =>
 some (decide (r7 ≥ (0 : Int)))
theorem ku (p0 : List ak) (r : Bool) (h0 : bX p0 = some r) : aO Tryz.prog 125 [.d ((eL 3 bA) p0), .fn (.func 126) [] []] [] (.d (eB r)) [] := by
 unfold bX at h0
 refine fn0 [0, 1] Tryz.func125 rfl rfl rfl rfl rfl ?_
 obtain ⟨r7, Hr, h0⟩ := ob h0; have q := si h0; subst q
 refine sr (sa rfl (sn (sr (sm rfl (sm rfl (c0 (lV p0 _ Hr) wf rfl rfl rfl aj5 rfl (fun _ => rfl) (fun _ => rfl) (s1 (bi rfl rfl dW) (sa rfl (sn ?_)))))))))
 exact SC.ret (bQ (Wk.refl _) (aZ rfl aX) rfl)
noncomputable def sQ (p0 : List UInt8) : Option Unit :=
 bif decide (p0.length * 1 ≤ room) then
 some ()
 else none
theorem y9 (p0 : List UInt8) (r : Unit) (h0 : sQ p0 = some r) : aO Tryz.prog 128 [.ref 0 0 0, .d ((eL 1 gH) p0)] [.box (.d (.agg [.dn]))] (.tuple []) [.box (.agg [.slc 1 1 0 p0.length none]), .row 1 (List.map gH p0) true] := by
 unfold sQ at h0
 refine fn0 [0, 1] Tryz.func128 rfl rfl rfl rfl rfl ?_
 obtain ⟨hg3, h0⟩ := gd h0; have q := si h0; subst q
 refine sr (sm rfl (s1 (bi (v := .d (eB true)) rfl rfl (fun _ _ => SN VN)) (sn (cT rfl (SC.region (sm rfl (sm rfl (s1 (K8 rfl) (s1 (far (k := 0) rfl EH j4 rfl) ?_)))))))))
 exact s1 (bg rfl (ah j4 DY rfl rfl)) (sm rfl (s1 (app rfl rfl rfl rfl bc156 (aN (f := gH) (k := 1) iw PW uH hg3 rfl)) (s1 (K8 rfl) (s1 (far (k := 0) rfl EH j4 rfl) (s0 (jP rfl rfl (sB (d' := .agg [.slc 1 1 0 p0.length none]) j4 rfl rfl rfl rfl rfl rfl rfl)) (SO.nil (EK (Wk.refl _) aX rfl)))))))
noncomputable def lF (p0 : Bool) : Option ((List UInt8)) :=
 bif p0 then
 Option.bind (sQ [(1 : UInt8)]) fun _ =>
 some [(1 : UInt8)]
 else
 Option.bind (sQ [(0 : UInt8)]) fun _ =>
 some [(0 : UInt8)]
theorem Fy (p0 : Bool) (r : (List UInt8)) (h0 : lF p0 = some r) : aO Tryz.prog 129 [.ref 0 0 0, .d (eB p0)] [.box (.d (.agg [.dn]))] (.tuple []) [.box (.agg [.slc 1 1 0 r.length none]), .row 1 (List.map gH r) true] := by
 unfold lF at h0
 refine fn0 [0, 1] Tryz.func129 rfl rfl rfl rfl rfl ?_
 refine sr (sm rfl (sn (cB h0 rfl (fun h0 => ?_) (fun h0 => ?_))))
 ·obtain ⟨_, Hr, h0⟩ := ob h0; have q := si h0; subst q
  exact SC.region (sm rfl (s1 (sM (k := 1) (ds := List.map gH [(1 : UInt8)]) (off := 0) (l' := [(1 : UInt8)].length) rfl iw PW rfl rfl (by rfl) rfl rfl rfl) (cq (args' := [.ref 0 0 0, .slc 1 1 0 ([(1 : UInt8)].length) none]) (lM := [.box (.d (.agg [.dn])), .row 1 (List.map gH [(1 : UInt8)]) true]) [0, 1] [2] (aO.mM (gQ.keep (gQ.mM (fF rfl rfl rfl) (gQ.nil _))) (fq [0] [2] (y9 [(1 : UInt8)] _ Hr) rfl rfl rfl rfl rfl rfl rfl rfl)) wf rfl rfl rfl Tf rfl rfl rfl rfl rfl rfl rfl rfl (SO.nil (EK (wc (e' := []) [0, 2] [0] (by kernel_rfl) rfl (by kernel_rfl)) aX rfl)))))
 ·obtain ⟨_, hq7, h0⟩ := ob h0; have q := si h0; subst q
  exact SC.region (sm rfl (s1 (sM (k := 1) (ds := List.map gH [(0 : UInt8)]) (off := 0) (l' := [(0 : UInt8)].length) rfl iw PW rfl rfl (by rfl) rfl rfl rfl) (cq (args' := [.ref 0 0 0, .slc 1 1 0 ([(0 : UInt8)].length) none]) (lM := [.box (.d (.agg [.dn])), .row 1 (List.map gH [(0 : UInt8)]) true]) [0, 1] [2] (aO.mM (gQ.keep (gQ.mM (fF rfl rfl rfl) (gQ.nil _))) (fq [0] [2] (y9 [(0 : UInt8)] _ hq7) rfl rfl rfl rfl rfl rfl rfl rfl)) wf rfl rfl rfl Tf rfl rfl rfl rfl rfl rfl rfl rfl (SO.nil (EK (wc (e' := []) [0, 2] [0] (by kernel_rfl) rfl (by kernel_rfl)) aX rfl)))))
noncomputable def jT (p0 : List UInt8) (p1 : List UInt8) : Option Unit :=
 bif decide ((p1.length + p0.length) * 1 ≤ room) then
 some ()
 else none
theorem vD (p0 : List UInt8) (p1 : List UInt8) (r : Unit) (h0 : jT p0 p1 = some r) : aO Tryz.prog 128 [.ref 0 0 0, .d ((eL 1 gH) p0)] [.box (.agg [.slc 1 1 0 p1.length none]), .row 1 (List.map gH p1) true] (.tuple []) [.box (.agg [.slc 2 1 0 ((p1 ++ p0).length) none]), .dead, .row 1 (List.map gH (p1 ++ p0)) true] := by
 unfold jT at h0
 refine fn0 [0, 1] Tryz.func128 rfl rfl rfl rfl rfl ?_
 obtain ⟨hg3, h0⟩ := gd h0; have q := si h0; subst q
 refine sr (sm rfl (s1 (bi (v := .d (eB true)) rfl rfl (fun _ _ => SN VN)) (sn (cT rfl (SC.region (sm rfl (sm rfl (s1 (K8 rfl) (s1 (far (k := 0) rfl EH j4 rfl) ?_)))))))))
 exact s1 (bg rfl (ah j4 DY rfl rfl)) (sm rfl (s1 (app rfl rfl rfl rfl bc156 (aF (f := gH) (xs := p1) (k := 2) rfl iw PW rfl uH hg3 rfl)) (s1 (K8 rfl) (s1 (far (k := 0) rfl EH j4 rfl) (s0 (jP rfl rfl (sB (d' := .agg [.slc 2 1 0 ((p1 ++ p0).length) none]) j4 rfl rfl rfl rfl rfl rfl rfl)) (SO.nil (EK (Wk.refl _) aX rfl)))))))
noncomputable def nu (p0 : UInt16) (p1 : List UInt8) : Option Unit :=
 Option.bind (jT [((eU p0 8).toUInt8), (p0.toUInt8)] p1) fun _ =>
 some ()
theorem zf (p0 : UInt16) (p1 : List UInt8) (r : Unit) (h0 : nu p0 p1 = some r) : aO Tryz.prog 145 [.ref 0 0 0, .d (Ut p0)] [.box (.agg [.slc 1 1 0 p1.length none]), .row 1 (List.map gH p1) true] (.tuple []) [.box (.agg [.slc 2 1 0 ((p1 ++ [((eU p0 8).toUInt8), (p0.toUInt8)]).length) none]), .dead, .row 1 (List.map gH (p1 ++ [((eU p0 8).toUInt8), (p0.toUInt8)])) true] := by
 unfold nu at h0
 refine fn0 [0, 1] Tryz.func145 rfl rfl rfl rfl rfl ?_
 obtain ⟨_, hq3, h0⟩ := ob h0; have q := si h0; subst q
 refine SC.region (sm rfl (sm rfl (s1 (bi (v := .d (Ut (eU p0 8))) rfl rfl (fun X Y => UF _ X Y p0 _ (by decide))) (s1 (Qw rfl (Md Sr TI (eU p0 8))) (sm rfl (s1 (Qw rfl (Md Sr TI p0)) (s1 (sM (k := 2) (ds := List.map gH [((eU p0 8).toUInt8), (p0.toUInt8)]) (off := 0) (l' := [((eU p0 8).toUInt8), (p0.toUInt8)].length) rfl iw PW rfl rfl (by rfl) rfl rfl rfl) (cq (args' := [.ref 0 0 0, .slc 1 1 0 ([((eU p0 8).toUInt8), (p0.toUInt8)].length) none]) (lM := [.box (.agg [.slc 2 1 0 p1.length none]), .row 1 (List.map gH [((eU p0 8).toUInt8), (p0.toUInt8)]) true, .row 1 (List.map gH p1) true]) [0, 2, 1] [3] (aO.mM (gQ.keep (gQ.mM (fF rfl rfl rfl) (gQ.nil _))) (fq [0, 2] [3] (vD [((eU p0 8).toUInt8), (p0.toUInt8)] p1 _ hq3) rfl rfl rfl rfl rfl rfl rfl rfl)) wf rfl rfl rfl Tf rfl rfl rfl rfl rfl rfl rfl rfl (SO.nil ?_)))))))))
 exact EK (wc (e' := []) [0, 1, 3] [0, 1] (by kernel_rfl) rfl (by kernel_rfl)) aX rfl
noncomputable def nk (p0 : UInt32) (p1 : List UInt8) : Option Unit :=
 Option.bind (nu ((fA p0 16).toUInt16) p1) fun _ =>
 Option.bind (nu (p0.toUInt16) (p1 ++ [((eU ((fA p0 16).toUInt16) 8).toUInt8), (((fA p0 16).toUInt16).toUInt8)])) fun _ =>
 some ()
theorem ze (p0 : UInt32) (p1 : List UInt8) (r : Unit) (h0 : nk p0 p1 = some r) : aO Tryz.prog 144 [.ref 0 0 0, .d (Us p0)] [.box (.agg [.slc 1 1 0 p1.length none]), .row 1 (List.map gH p1) true] (.tuple []) [.box (.agg [.slc 2 1 0 (((p1 ++ [((eU ((fA p0 16).toUInt16) 8).toUInt8), (((fA p0 16).toUInt16).toUInt8)]) ++ [((eU (p0.toUInt16) 8).toUInt8), ((p0.toUInt16).toUInt8)]).length) none]), .dead, .row 1 (List.map gH ((p1 ++ [((eU ((fA p0 16).toUInt16) 8).toUInt8), (((fA p0 16).toUInt16).toUInt8)]) ++ [((eU (p0.toUInt16) 8).toUInt8), ((p0.toUInt16).toUInt8)])) true] := by
 unfold nk at h0
 refine fn0 [0, 1] Tryz.func144 rfl rfl rfl rfl rfl ?_
 obtain ⟨_, hq5, h0⟩ := ob h0; obtain ⟨_, Hr, h0⟩ := ob h0; have q := si h0; subst q
 refine sr (sm rfl (sm rfl (s1 (bi (v := .d (Us (fA p0 16))) rfl rfl (fun X Y => UE _ X Y p0 _ (by decide))) (s1 (Qw rfl (JQ Sv Sr (fA p0 16))) (cq [0, 1] [2] (zf ((fA p0 16).toUInt16) p1 _ hq5) wf rfl rfl rfl ada rfl rfl rfl rfl rfl rfl rfl rfl (sn (SC.region (sm rfl (sm rfl ?_)))))))))
 exact s1 (Qw rfl (JQ Sv Sr p0)) (cq [0, 2] [3] (zf (p0.toUInt16) (p1 ++ [((eU ((fA p0 16).toUInt16) 8).toUInt8), (((fA p0 16).toUInt16).toUInt8)]) _ Hr) wf rfl rfl rfl ada rfl rfl rfl rfl rfl rfl rfl rfl (SO.nil (EK (wc (e' := []) [0, 1, 3] [0, 1] (by kernel_rfl) rfl (by kernel_rfl)) aX rfl)))
noncomputable def jF (p0 : UInt64) (p1 : List UInt8) : Option Unit :=
 Option.bind (nk ((dR p0 32).toUInt32) p1) fun _ =>
 Option.bind (nk (p0.toUInt32) ((p1 ++ [((eU ((fA ((dR p0 32).toUInt32) 16).toUInt16) 8).toUInt8), (((fA ((dR p0 32).toUInt32) 16).toUInt16).toUInt8)]) ++ [((eU (((dR p0 32).toUInt32).toUInt16) 8).toUInt8), ((((dR p0 32).toUInt32).toUInt16).toUInt8)])) fun _ =>
 some ()
theorem za (p0 : UInt64) (p1 : List UInt8) (r : Unit) (h0 : jF p0 p1 = some r) : aO Tryz.prog 130 [.ref 0 0 0, .d (jM p0)] [.box (.agg [.slc 1 1 0 p1.length none]), .row 1 (List.map gH p1) true] (.tuple []) [.box (.agg [.slc 2 1 0 (((((p1 ++ [((eU ((fA ((dR p0 32).toUInt32) 16).toUInt16) 8).toUInt8), (((fA ((dR p0 32).toUInt32) 16).toUInt16).toUInt8)]) ++ [((eU (((dR p0 32).toUInt32).toUInt16) 8).toUInt8), ((((dR p0 32).toUInt32).toUInt16).toUInt8)]) ++ [((eU ((fA (p0.toUInt32) 16).toUInt16) 8).toUInt8), (((fA (p0.toUInt32) 16).toUInt16).toUInt8)]) ++ [((eU ((p0.toUInt32).toUInt16) 8).toUInt8), (((p0.toUInt32).toUInt16).toUInt8)]).length) none]), .dead, .row 1 (List.map gH ((((p1 ++ [((eU ((fA ((dR p0 32).toUInt32) 16).toUInt16) 8).toUInt8), (((fA ((dR p0 32).toUInt32) 16).toUInt16).toUInt8)]) ++ [((eU (((dR p0 32).toUInt32).toUInt16) 8).toUInt8), ((((dR p0 32).toUInt32).toUInt16).toUInt8)]) ++ [((eU ((fA (p0.toUInt32) 16).toUInt16) 8).toUInt8), (((fA (p0.toUInt32) 16).toUInt16).toUInt8)]) ++ [((eU ((p0.toUInt32).toUInt16) 8).toUInt8), (((p0.toUInt32).toUInt16).toUInt8)])) true] := by
 unfold jF at h0
 refine fn0 [0, 1] Tryz.func130 rfl rfl rfl rfl rfl ?_
 obtain ⟨_, hq5, h0⟩ := ob h0; obtain ⟨_, Hr, h0⟩ := ob h0; have q := si h0; subst q
 refine sr (sm rfl (sm rfl (s1 (bi (v := .d (jM (dR p0 32))) rfl rfl (fun X Y => F8 _ X Y p0 _ (by decide))) (s1 (Qw rfl (JO QI Sv (dR p0 32))) (cq [0, 1] [2] (ze ((dR p0 32).toUInt32) p1 _ hq5) wf rfl rfl rfl adb rfl rfl rfl rfl rfl rfl rfl rfl (sn (SC.region (sm rfl (sm rfl ?_)))))))))
 exact s1 (Qw rfl (JO QI Sv p0)) (cq [0, 2] [3] (ze (p0.toUInt32) ((p1 ++ [((eU ((fA ((dR p0 32).toUInt32) 16).toUInt16) 8).toUInt8), (((fA ((dR p0 32).toUInt32) 16).toUInt16).toUInt8)]) ++ [((eU (((dR p0 32).toUInt32).toUInt16) 8).toUInt8), ((((dR p0 32).toUInt32).toUInt16).toUInt8)]) _ Hr) wf rfl rfl rfl adb rfl rfl rfl rfl rfl rfl rfl rfl (SO.nil (EK (wc (e' := []) [0, 1, 3] [0, 1] (by kernel_rfl) rfl (by kernel_rfl)) aX rfl)))
noncomputable def oM (p0 : UInt8) (p1 : List UInt8) : Option Unit :=
 Option.bind (jT [p0] p1) fun _ =>
 some ()
theorem Jh (p0 : UInt8) (p1 : List UInt8) (r : Unit) (h0 : oM p0 p1 = some r) : aO Tryz.prog 101 [.ref 0 0 0, .d (gH p0)] [.box (.agg [.slc 1 1 0 p1.length none]), .row 1 (List.map gH p1) true] (.tuple []) [.box (.agg [.slc 2 1 0 ((p1 ++ [p0]).length) none]), .dead, .row 1 (List.map gH (p1 ++ [p0])) true] := by
 unfold oM at h0
 refine fn0 [0, 1] Tryz.func101 rfl rfl rfl rfl rfl ?_
 obtain ⟨_, hq3, h0⟩ := ob h0; have q := si h0; subst q
 exact SC.region (sm rfl (sm rfl (s1 (sM (k := 2) (ds := List.map gH [p0]) (off := 0) (l' := [p0].length) rfl iw PW rfl rfl (by rfl) rfl rfl rfl) (cq (args' := [.ref 0 0 0, .slc 1 1 0 ([p0].length) none]) (lM := [.box (.agg [.slc 2 1 0 p1.length none]), .row 1 (List.map gH [p0]) true, .row 1 (List.map gH p1) true]) [0, 2, 1] [3] (aO.mM (gQ.keep (gQ.mM (fF rfl rfl rfl) (gQ.nil _))) (fq [0, 2] [3] (vD [p0] p1 _ hq3) rfl rfl rfl rfl rfl rfl rfl rfl)) wf rfl rfl rfl Tf rfl rfl rfl rfl rfl rfl rfl rfl (SO.nil (EK (wc (e' := []) [0, 1, 3] [0, 1] (by kernel_rfl) rfl (by kernel_rfl)) aX rfl))))))
noncomputable def jf (p0 : List UInt8) : Option Unit :=
 bif decide (p0.length * 1 ≤ room) then
 some ()
 else none
theorem El (p0 : List UInt8) (r : Unit) (h0 : jf p0 = some r) : aO Tryz.prog 103 [.ref 0 0 0] [.box (.agg [.slc 1 1 0 p0.length none]), .row 1 (List.map gH p0) true] (.slc 2 1 0 p0.length none) [.box (.agg [.slc 1 1 0 p0.length none]), .row 1 (List.map gH p0) true, .row 1 (List.map gH p0) true] := by
 unfold jf at h0
 refine fn0 [0] Tryz.func103 rfl rfl rfl rfl rfl ?_
 obtain ⟨hg3, h0⟩ := gd h0; have q := si h0; subst q
 refine sr (s1 (lX (v := .d .dn) rfl) (sn (sq (sr (sm rfl (s1 (bi (v := .d (eB false)) rfl rfl (fun _ _ => ZB VN)) (sn (cF rfl (sk ?_)))))))))
 exact sr (sm rfl (s1 (K8 rfl) (s1 (far (k := 0) rfl EH j4 rfl) (s1 (bg rfl (ah j4 DY rfl rfl)) (s1 (app rfl rfl rfl rfl bc156 (aN (f := gH) (k := 2) iw PW (eY (xs := p0) rfl) hg3 rfl)) (sa rfl (sn (SC.ret (bQ (Wk.refl _) (aZ rfl aX) rfl)))))))))
noncomputable def kJ (p0 : List UInt8) : Option ((List UInt8)) :=
 Option.bind (α := (List UInt8))
 (Option.bind (α := (List UInt8))
 (loop (Y := (List UInt8) × Int) (W := (List UInt8)) (fun (xJ, BQ) =>
 bif (decide (BQ < (p0.length : Int))) then
 Option.bind (bG xJ BQ) fun v83 =>
 Option.bind (bG xJ BQ) fun v84 =>
 some (Sum.inl ((List.set xJ BQ.toNat (~~~ v83)), (bF (BQ + (1 : Int)))))
 else
 some (Sum.inr xJ)) (p0, (0 : Int)))
 (fun e => some e))
 fun HV =>
 some HV
theorem Lb (p0 : List UInt8) (r : (List UInt8)) (h0 : kJ p0 = some r) : aO Tryz.prog 143 [.slc 0 1 0 p0.length none] [.row 1 (List.map gH p0) true] (.slc 0 1 0 r.length none) [.row 1 (List.map gH r) true] := by
 unfold kJ at h0
 refine fn0 [0] Tryz.func143 rfl rfl rfl rfl rfl ?_
 refine sr (s1 (lX (v := .d .dn) rfl) (sn (SC.bV h0 (fun y => ⟨mk 19 [(0, .slc 0 1 0 y.length none)], [.row 1 (List.map gH y) true]⟩) ?_ ?_)))
 ·intro Sz h1
  obtain ⟨Sy, h2, h1⟩ := ob h1
  refine sr (sm rfl (s1 (len rfl rfl rfl (dP iw)) (sm rfl (sn (SC.blk (SC.dL h2 (fun y => ⟨mk 19 [(0, .slc 0 1 0 y.1.length none), (5, .d (eI (p0.length : Int))), (6, .d (eI y.2))], [.row 1 (List.map gH y.1) true]⟩) (wq rfl) ?_))))))
  intro n85
  rintro ⟨xJ, BQ⟩ Sk h3 hv3
  refine sr (s1 (bi rfl rfl aJ) (sn (sq (cB h3 rfl (fun h3 => ?_) (fun h3 => ?_)))))
  ·obtain ⟨v83, AP, h3⟩ := ob h3; obtain ⟨v84, ahF, h3⟩ := ob h3
   refine sk (sq (SC.blk (sr (sm rfl (sa rfl (sn (SC.region (sm rfl (sm rfl ?_)))))))))
   refine sm rfl (sm rfl (s1 (JC rfl rfl iw Qu (iL AP)) (s1 (bg rfl (jr Qu ta5 rfl (aY (aj AP).2) rfl)) (s1 (uo rfl rfl (TH v83)) (s1 (JC rfl rfl iw Qu (iL ahF)) (s0 (jP (b := .d (gH (~~~ v83))) rfl rfl (sR (f := gH) (v := (~~~ v83)) Qu rfl rfl rfl rfl (aj ahF).2 rfl rfl)) (SO.nil ?_)))))))
   change SC _ _ _ _ _
   have q := si h3; subst q
   exact SC.region (s1 (bi rfl rfl aT) (sm rfl (SO.nil (lf (Wk.env (EW.cons (AW.slc rfl (by simp)) (EW.cons (AW.refl _) (EW.cons (AW.refl _) EW.nil))))))))
  ·have q := si h3; subst q; have q : _ = _ := hv3; subst q; have q := si h1; subst q
   exact SC.exit ((wq rfl))
 ·rintro HV h0
  have q := si h0; subst q
  exact sr (sm rfl (sa rfl (sn (SC.ret (bQ (Wk.refl _) (aZ rfl aX) rfl)))))
noncomputable def vH (p0 : ak) (p1 : Bool) : Option ((List UInt8)) :=
 Option.bind (lF (p0.Kind != (0 : Int))) fun HZ =>
 Option.bind (α := (List UInt8))
 (bif (p0.Kind == (1 : Int)) then
 Option.bind (jF (p0.N ^^^ (9223372036854775808 : UInt64)) HZ) fun _ =>
 some ((((HZ ++ [((eU ((fA ((dR (p0.N ^^^ (9223372036854775808 : UInt64)) 32).toUInt32) 16).toUInt16) 8).toUInt8), (((fA ((dR (p0.N ^^^ (9223372036854775808 : UInt64)) 32).toUInt32) 16).toUInt16).toUInt8)]) ++ [((eU (((dR (p0.N ^^^ (9223372036854775808 : UInt64)) 32).toUInt32).toUInt16) 8).toUInt8), ((((dR (p0.N ^^^ (9223372036854775808 : UInt64)) 32).toUInt32).toUInt16).toUInt8)]) ++ [((eU ((fA ((p0.N ^^^ (9223372036854775808 : UInt64)).toUInt32) 16).toUInt16) 8).toUInt8), (((fA ((p0.N ^^^ (9223372036854775808 : UInt64)).toUInt32) 16).toUInt16).toUInt8)]) ++ [((eU (((p0.N ^^^ (9223372036854775808 : UInt64)).toUInt32).toUInt16) 8).toUInt8), ((((p0.N ^^^ (9223372036854775808 : UInt64)).toUInt32).toUInt16).toUInt8)])
 else
 bif (p0.Kind == (2 : Int)) then
 Option.bind (jF p0.N HZ) fun _ =>
 some ((((HZ ++ [((eU ((fA ((dR p0.N 32).toUInt32) 16).toUInt16) 8).toUInt8), (((fA ((dR p0.N 32).toUInt32) 16).toUInt16).toUInt8)]) ++ [((eU (((dR p0.N 32).toUInt32).toUInt16) 8).toUInt8), ((((dR p0.N 32).toUInt32).toUInt16).toUInt8)]) ++ [((eU ((fA (p0.N.toUInt32) 16).toUInt16) 8).toUInt8), (((fA (p0.N.toUInt32) 16).toUInt16).toUInt8)]) ++ [((eU ((p0.N.toUInt32).toUInt16) 8).toUInt8), (((p0.N.toUInt32).toUInt16).toUInt8)])
 else
 bif (p0.Kind == (3 : Int)) then
 Option.bind (oM (p0.N.toUInt8) HZ) fun _ =>
 some (HZ ++ [(p0.N.toUInt8)])
 else
 some HZ)
 fun Oz =>
 Option.bind (jf Oz) fun _ =>
 Option.bind (α := (List UInt8))
 (Option.bind (α := Bool)
 (bif (p0.Kind == (4 : Int)) then
 some true
 else
 some (p0.Kind == (5 : Int)))
 fun xJ =>
 bif xJ then
 Option.bind (IJ p0.S ([0] : List UInt8) ([0, 255] : List UInt8)) fun Zp =>
 bif decide ((Oz.length + Zp.length) * 1 ≤ room) then
 bif decide (((Oz ++ Zp).length + [(0 : UInt8), (0 : UInt8)].length) * 1 ≤ room) then
 some ((Oz ++ Zp) ++ [(0 : UInt8), (0 : UInt8)])
 else none
 else none
 else
 some Oz)
 fun Kz =>
 bif p1 then
 Option.bind (kJ Kz) fun r82 =>
 some r82
 else
 some Kz
theorem Rb (p0 : ak) (p1 : Bool) (r : (List UInt8)) (h0 : vH p0 p1 = some r) : aO Tryz.prog 127 [.d (bA p0), .d (eB p1)] [] (.d ((eL 1 gH) r)) [] := by
 unfold vH at h0
 refine fn0 [0, 1] Tryz.func127 rfl rfl rfl rfl rfl ?_
 obtain ⟨HZ, ad2, h0⟩ := ob h0
 refine sr (s1 (tH (k := 0) rfl rfl rfl) (s1 (lX (v := .d .dn) rfl) (sn (sr (s1 (yT (k := 1) af2 rfl) (sn (sr (s1 (far (k := 0) rfl kN bD rfl) (s1 (bg rfl (ah bD dH rfl rfl)) ?_)))))))))
 refine s1 (bi rfl rfl bS) (cq [1] [2] (Fy (p0.Kind != (0 : Int)) _ ad2) wf rfl rfl rfl aj8 rfl rfl rfl rfl rfl rfl rfl rfl (sn (SC.bV h0 (fun y => ⟨mk 51 [(1, .d (eB p1)), (2, .ref 0 0 0), (5, .ref 1 0 0)], [.box (.d (bA p0)), .box (.agg [.slc 2 1 0 y.length none]), .row 1 (List.map gH y) true]⟩) ?_ ?_)))
 ·intro aqU h1
  refine sr (s1 (far (k := 0) rfl kN bD rfl) (s1 (bg rfl (ah bD dH rfl rfl)) (sn (SC.blk (sr (s1 (bi rfl rfl aM) (sa rfl (sn (cB h1 rfl (fun h1 => ?_) (fun h1 => ?_))))))))))
  ·obtain ⟨_, apn, h1⟩ := ob h1; have q := si h1; subst q
   exact SC.region (s1 (far (k := 1) rfl qI rA rfl) (s1 (bg rfl (ah rA CF rfl rfl)) (s1 (bi rfl rfl (LJ (b := (9223372036854775808 : UInt64)))) (cq [1, 2] [3] (za (p0.N ^^^ (9223372036854775808 : UInt64)) HZ _ apn) wf rfl rfl rfl ade rfl rfl rfl rfl rfl rfl rfl rfl (SO.nil ((wc [0, 1, 3] [0, 1] (by kernel_rfl) rfl (by kernel_rfl))))))))
  ·refine sr (s1 (bi rfl rfl aM) (sa rfl (sn (cB h1 rfl (fun h1 => ?_) (fun h1 => ?_)))))
   ·obtain ⟨_, apm, h1⟩ := ob h1; have q := si h1; subst q
    exact SC.region (s1 (far (k := 1) rfl qI rA rfl) (s1 (bg rfl (ah rA CF rfl rfl)) (cq [1, 2] [3] (za p0.N HZ _ apm) wf rfl rfl rfl ade rfl rfl rfl rfl rfl rfl rfl rfl (SO.nil ((wc [0, 1, 3] [0, 1] (by kernel_rfl) rfl (by kernel_rfl)))))))
   ·refine sr (s1 (bi rfl rfl aM) (sa rfl (sn (cB h1 rfl (fun h1 => ?_) (fun h1 => ?_)))))
    ·obtain ⟨_, apl, h1⟩ := ob h1; have q := si h1; subst q
     exact SC.region (s1 (far (k := 1) rfl qI rA rfl) (s1 (bg rfl (ah rA CF rfl rfl)) (s1 (Qw rfl (FZ QI TI p0.N)) (cq [1, 2] [3] (Jh (p0.N.toUInt8) HZ _ apl) wf rfl rfl rfl akk rfl rfl rfl rfl rfl rfl rfl rfl (SO.nil ((wc [0, 1, 3] [0, 1] (by kernel_rfl) rfl (by kernel_rfl))))))))
    ·have q := si h1; subst q
     exact SC.skip ((wq rfl))
 ·rintro Oz h0
  obtain ⟨_, apk, h0⟩ := ob h0
  refine sr (cq [1, 2] [3] (El Oz _ apk) wf rfl rfl rfl akj rfl rfl rfl rfl rfl rfl rfl rfl (sa rfl (sn (SC.bV h0 (fun y => ⟨mk 51 [(1, .d (eB p1)), (6, .slc 0 1 0 y.length none)], [.row 1 (List.map gH y) true]⟩) ?_ ?_))))
  ·intro OO h1
   refine SC.bV h1 (fun y => ⟨mk 51 [(1, .d (eB p1)), (2, .ref 0 0 0), (6, .slc 1 1 0 Oz.length none), (38, .d (eB y))], [.box (.d (bA p0)), .row 1 (List.map gH Oz) true]⟩) ?_ ?_
   ·intro aqP h2
    refine SC.region (s1 (far (k := 0) rfl kN bD rfl) (s1 (bg rfl (ah bD dH rfl rfl)) (s1 (bi rfl rfl aM) (sm rfl (sp h2 (fun h2 => ?_) (fun h2 => ?_))))))
    ·have q := si h2; subst q
     exact kw rfl (kw rfl (kw rfl (s1 (pkt rfl rfl) (SO.nil ((wc [0, 3] [0, 3] (by kernel_rfl) rfl (by kernel_rfl)))))))
    ·have q := si h2; subst q
     exact gw rfl (far (k := 0) rfl kN bD rfl) (gw rfl (bg rfl (ah bD dH rfl rfl)) (gw rfl (bi rfl rfl aM) (s1 (dx rfl rfl) (SO.nil ((wc [0, 3] [0, 3] (by kernel_rfl) rfl (by kernel_rfl)))))))
   ·rintro xJ h1
    refine cB h1 rfl (fun h1 => ?_) (fun h1 => ?_)
    ·obtain ⟨Zp, aph, h1⟩ := ob h1; obtain ⟨apK, h1⟩ := gd h1; obtain ⟨apJ, h1⟩ := gd h1; have q := si h1; subst q
     refine sr (sm rfl (s1 (far (k := 2) rfl mO lY rfl) (s1 (bg rfl (ah lY xG rfl rfl)) (c0 (Zl p0.S ([0] : List UInt8) ([0, 255] : List UInt8) _ aph) wf rfl rfl rfl aj4 rfl (fun _ => rfl) (fun _ => rfl) (s1 (app rfl rfl rfl rfl bc9 (aF (f := gH) (xs := Oz) (k := 2) rfl iw PW rfl afp apK rfl)) (sa rfl (sn (SC.region (sm rfl ?_)))))))))
     exact s1 (sM (k := 3) (ds := List.map gH [(0 : UInt8), (0 : UInt8)]) (off := 0) (l' := [(0 : UInt8), (0 : UInt8)].length) rfl iw PW rfl rfl (by rfl) rfl rfl rfl) (s1 (app rfl rfl rfl rfl bc156 (aF (f := gH) (xs := (Oz ++ Zp)) (k := 4) rfl iw PW rfl (eY (xs := [(0 : UInt8), (0 : UInt8)]) rfl) apJ rfl)) (sa rfl (SO.nil ((wc [4] [4] (by kernel_rfl) rfl (by kernel_rfl))))))
    ·have q := si h1; subst q
     exact SC.skip ((wc [1] [1] (by kernel_rfl) rfl (by kernel_rfl)))
  ·rintro Kz h0
   refine sq (sr (sm rfl (sn (cB h0 rfl (fun h0 => ?_) (fun h0 => ?_)))))
   ·obtain ⟨r82, apf, h0⟩ := ob h0; have q := si h0; subst q
    exact sr (sm rfl (cq [0] [] (Lb Kz _ apf) wf rfl rfl rfl aj3 rfl rfl rfl rfl rfl rfl rfl rfl (sa rfl (sn (SC.ret (bQ (Wk.trans (Wk.mM (i := 4) (x := .slc 0 1 0 r82.length none) rfl rfl (fF rfl rfl rfl)) (wc (e' := [(4, .d ((eL 1 gH) r82))]) [] [] (by kernel_rfl) rfl (by kernel_rfl))) (aZ rfl aX) rfl))))))
   ·have q := si h0; subst q
    exact sk (sr (sm rfl (sa rfl (sn (SC.ret (bQ (Wk.trans (Wk.mM (i := 4) (x := .slc 0 1 0 Kz.length none) rfl rfl (fF rfl rfl rfl)) (wc (e' := [(4, .d ((eL 1 gH) Kz))]) [] [] (by kernel_rfl) rfl (by kernel_rfl))) (aZ rfl aX) rfl))))))
noncomputable def oz (p0 : List ak) (p1 : List Bool) : Option ((List UInt8) × Int) :=
 bif ((p0.length : Int) != (p1.length : Int)) then
 some (([] : List UInt8), (1 : Int))
 else
 Option.bind (bX p0) fun Zx =>
 bif Zx then
 some (([] : List UInt8), (8 : Int))
 else
 Option.bind (α := (List UInt8))
 (Option.bind (α := (List UInt8))
 (loop (Y := (List UInt8) × Int) (W := (List UInt8)) (fun (DL, KG) =>
 bif (decide (KG < (p0.length : Int))) then
 Option.bind (bG p0 KG) fun v141 =>
 Option.bind (bG p1 KG) fun VF =>
 Option.bind (vH v141 VF) fun Ub =>
 bif decide ((DL.length + Ub.length) * 1 ≤ room) then
 some (Sum.inl ((DL ++ Ub), (bF (KG + (1 : Int)))))
 else none
 else
 some (Sum.inr DL)) (([] : List UInt8), (0 : Int)))
 (fun e => some e))
 fun tK =>
 bif (decide ((tK.length : Int) > (256 : Int))) then
 some (([] : List UInt8), (7 : Int))
 else
 some (tK, (0 : Int))
theorem Ld (p0 : List ak) (p1 : List Bool) (r : (List UInt8) × Int) (h0 : oz p0 p1 = some r) : aO Tryz.prog 100 [.d ((eL 3 bA) p0), .d ((eL 1 eB) p1)] [] (.tuple [.d (eS r.1), .d (eI r.2)]) [] := by
 unfold oz at h0
 refine fn0 [0, 1] Tryz.func100 rfl rfl rfl rfl rfl ?_
 refine sr (s1 (lX (v := .d (eS ([] : List UInt8))) rfl) (sa rfl (sn (sq (sr (sm rfl (s1 (len rfl rfl rfl (bC ME)) (sm rfl (s1 (len rfl rfl rfl (bC GX)) ?_)))))))))
 refine s1 (bi rfl rfl bS) (sn (cB h0 rfl (fun h0 => ?_) (fun h0 => ?_)))
 ·have q := si h0; subst q
  exact sr (s1 (lX (v := .d (eS ([] : List UInt8))) rfl) (sa rfl (sn (SC.ret (bQ (Wk.refl _) (aZ rfl (aZ rfl aX)) rfl)))))
 ·obtain ⟨Zx, apb, h0⟩ := ob h0
  refine sk (sq (sr (sm rfl (c0 (ku p0 _ apb) wf rfl rfl rfl akc rfl (fun _ => rfl) (fun _ => rfl) (sn (cB h0 rfl (fun h0 => ?_) (fun h0 => ?_)))))))
  ·have q := si h0; subst q
   exact sr (s1 (lX (v := .d (eS ([] : List UInt8))) rfl) (sa rfl (sn (SC.ret (bQ (Wk.refl _) (aZ rfl (aZ rfl aX)) rfl)))))
  ·refine sk (sr (s1 (lX (v := .d .dn) rfl) (sn (SC.bV h0 (fun y => ⟨mk 37 [(6, .slc 0 1 0 y.length none)], [.row 1 (List.map gH y) true]⟩) ?_ ?_))))
   ·intro aoF h1
    obtain ⟨anZ, h2, h1⟩ := ob h1
    refine sr (sm rfl (s1 (len rfl rfl rfl (bC ME)) (sm rfl (sn (SC.blk (SC.dL h2 (fun y => ⟨mk 37 [(1, .d ((eL 1 eB) p1)), (6, .slc 0 1 0 y.1.length none), (16, .d ((eL 3 bA) p0)), (17, .d (eI (p0.length : Int))), (18, .d (eI y.2))], [.row 1 (List.map gH y.1) true]⟩) (Wk.trans (Wk.mo (σ' := [.row 1 (List.map gH ([] : List UInt8)) true]) (.row 1 [] true) (fun _ hh => by cases hh) rfl) (Wk.trans (Wk.env (e' := [(1, .d ((eL 1 eB) p1)), (6, .slc 0 1 0 (([] : List UInt8).length) none), (16, .d ((eL 3 bA) p0)), (17, .d (eI (p0.length : Int))), (18, .d (eI (0 : Int)))]) (EW.cons (AW.refl _) (EW.cons (AW.mg _ _ _) (EW.cons (AW.refl _) (EW.cons (AW.refl _) (EW.cons (AW.refl _) EW.nil)))))) (wq rfl))) ?_))))))
    intro n146
    rintro ⟨DL, KG⟩ amw h3 hv3
    refine sr (s1 (bi rfl rfl aJ) (sn (sq (cB h3 rfl (fun h3 => ?_) (fun h3 => ?_)))))
    ·obtain ⟨v141, acZ, h3⟩ := ob h3; obtain ⟨VF, acY, h3⟩ := ob h3; obtain ⟨Ub, aiU, h3⟩ := ob h3; obtain ⟨ajn, h3⟩ := gd h3
     refine sk (sq (SC.blk (sr (sm rfl (s1 (jo rfl rfl ME iC (aj acZ).1 (aY (aj acZ).2) rfl) (s1 (bg (v := .d (bA v141)) rfl (bN iC o8 rfl)) (s1 (yT (k := 1) al1 rfl) (sa rfl (s0 (jP rfl rfl (sB (d' := .d (bA v141)) iC rfl rfl rfl rfl rfl rfl rfl)) ?_)))))))))
     refine sn (SC.draws (by kernel_rfl) (t1 ([], false) (mv rfl) rfl (t1 ([1], false) (bg (v := .d (bA v141)) rfl (ah iC o8 rfl rfl)) rfl (t1 ([], false) (mv rfl) rfl (t1 ([], false) (mv rfl) rfl (t1 ([], false) (jo rfl rfl GX jZ (aj acY).1 (aY (aj acY).2) rfl) rfl (t1 ([], false) (bg rfl (bN jZ wS rfl)) rfl (Fa (Rb v141 VF _ aiU) wf rfl rfl rfl aj9 rfl (fun _ => rfl) (fun _ => rfl) (t1 ([0, 2], true) (app rfl rfl rfl rfl bc156 (aF (f := gH) (xs := DL) (k := 2) rfl iw PW rfl uH ajn rfl)) rfl ?_)))))))))
     refine t1 ([], false) (lX rfl) rfl (ST.nil (And.intro (by decide +kernel) ?_))
     change SC _ _ _ _ _
     have q := si h3; subst q
     exact SC.region (s1 (bi rfl rfl aT) (sm rfl (SO.nil (lf (wc [2] [2] (by kernel_rfl) rfl (by kernel_rfl))))))
    ·have q := si h3; subst q; have q : _ = _ := hv3; subst q; have q := si h1; subst q
     exact SC.exit ((wq rfl))
   ·rintro tK h0
    refine sq (sr (sm rfl (s1 (len rfl rfl rfl (dP iw)) (s1 (bi rfl rfl bM) (sn (cB h0 rfl (fun h0 => ?_) (fun h0 => ?_)))))))
    ·have q := si h0; subst q
     exact sr (s1 (lX (v := .d (eS ([] : List UInt8))) rfl) (sa rfl (sn (SC.ret (bQ (wc (e' := [(4, .d (eS ([] : List UInt8))), (5, .d (eI (7 : Int)))]) [] [] (by kernel_rfl) rfl (by kernel_rfl)) (aZ rfl (aZ rfl aX)) rfl)))))
    ·have q := si h0; subst q
     exact sk (sr (sm rfl (s1 (Qw (v := .d (eS tK)) rfl (sU iw uR TI (eY (xs := tK) rfl) (fun _ hh => by cases hh))) (sa rfl (sa rfl (sn (SC.ret (bQ (wc (e' := [(4, .d (eS tK)), (5, .d (eI (0 : Int)))]) [] [] (by kernel_rfl) rfl (by kernel_rfl)) (aZ rfl (aZ rfl aX)) rfl))))))))
noncomputable def pred_one (p0 : ak) (p1 : Bool) : Option ((List UInt8)) :=
 Option.bind (oz [p0] [p1]) fun (r9, M0) =>
 some r9
theorem Gw (p0 : ak) (p1 : Bool) (r : (List UInt8)) (h0 : pred_one p0 p1 = some r) : aO Tryz.prog 77 [.d (bA p0), .d (eB p1)] [] (.d (eS r)) [] := by
 unfold pred_one at h0
 refine fn0 [0, 1] Tryz.func77 rfl rfl rfl rfl rfl ?_
 obtain ⟨⟨r9, M0⟩, hq8, h0⟩ := ob h0; have q := si h0; subst q
 refine sr (s1 (tH (k := 0) rfl rfl rfl) (s1 (lX (v := .d (eS ([] : List UInt8))) rfl) (sn (sr (s1 (bg (v := .d (bA p0)) rfl (ah iC o8 rfl rfl)) (s1 (sM (k := 1) (ds := List.map bA [p0]) (off := 0) (l' := [p0].length) rfl ME ajD rfl rfl (by rfl) rfl rfl rfl) (sm rfl (s1 (sM (k := 2) (ds := List.map eB [p1]) (off := 0) (l' := [p1].length) rfl GX ei4 rfl rfl (by rfl) rfl rfl rfl) (cq (args' := [.slc 0 3 0 ([p0].length) none, .slc 1 1 0 ([p1].length) none]) (lM := [.row 3 (List.map bA [p0]) true, .row 1 (List.map eB [p1]) true]) [1, 2] [] (aO.mM (gQ.mM (fF rfl rfl rfl) (gQ.mM (fF rfl rfl rfl) (gQ.nil _))) (fq [] [] (Ld [p0] [p1] _ hq8) rfl rfl rfl rfl rfl rfl rfl rfl)) wf rfl rfl rfl akl rfl rfl rfl rfl rfl rfl rfl rfl ?_)))))))))
 refine sm rfl (s1 (ext rfl rfl) (s1 (ext rfl rfl) (sa rfl (sa rfl (sn (sr (sm rfl (sa rfl (sn ?_)))))))))
 exact SC.ret (bQ (wc (e' := [(4, .d (eS r9))]) [] [] (by kernel_rfl) rfl (by kernel_rfl)) (aZ rfl aX) rfl)
noncomputable def nP (p0 : List UInt8) : Option ((List UInt8)) :=
 Option.bind (oQ p0) fun (r9, M0) =>
 some r9
theorem vB (p0 : List UInt8) (r : (List UInt8)) (h0 : nP p0 = some r) : aO Tryz.prog 117 [.d (eS p0)] [] (.d (eS r)) [] := by
 unfold nP at h0
 refine fn0 [0] Tryz.func117 rfl rfl rfl rfl rfl ?_
 obtain ⟨⟨r9, M0⟩, hq8, h0⟩ := ob h0; have q := si h0; subst q
 refine sr (s1 (lX (v := .d (eS ([] : List UInt8))) rfl) (sn (sr (sm rfl (c0 (Ew p0 _ hq8) wf rfl rfl rfl ajO rfl (fun _ => rfl) (fun _ => rfl) (sm rfl (s1 (ext rfl rfl) (s1 (ext rfl rfl) (sa rfl ?_)))))))))
 exact sa rfl (sn (sr (sm rfl (sa rfl (sn (SC.ret (bQ (Wk.refl _) (aZ rfl aX) rfl)))))))
noncomputable def kF (p0 : aI) (p1 : List aA) (p2 : List UInt8) : Option (Bool × aW) :=
 bif decide (p2.length + ([1] : List UInt8).length ≤ 9223372036854775807) then
 bif decide (p2.length + ([1] : List UInt8).length ≤ 9223372036854775807) then
 Option.bind (nP (p2 ++ ([1] : List UInt8))) fun TV =>
 Option.bind (α := aW)
 (bif p0.Down then
 bif decide (p2.length + ([254] : List UInt8).length ≤ 9223372036854775807) then
 Option.bind (nP (p2 ++ ([254] : List UInt8))) fun TU =>
 some (aW.mk p2 TU false)
 else none
 else
 some (aW.mk (p2 ++ ([1] : List UInt8)) TV false))
 fun YS =>
 Option.bind (α := Bool × aW)
 (Option.bind (α := Bool × aW)
 (loop (Y := Bool × Int × aW) (W := Bool × aW) (fun (zH, uP, iF) =>
 bif (decide (uP < (p1.length : Int))) then
 Option.bind (α := Bool × aW)
 (Option.bind (bG p1 uP) fun nW =>
 Option.bind (α := Bool)
 (bif (nW.Kind != (2 : Int)) then
 some true
 else
 bif (nW.Col != p0.Col) then
 some true
 else
 bif (nW.Op == (3 : Int)) then
 some true
 else
 some (nW.Op == (6 : Int)))
 fun YM =>
 bif YM then
 some (zH, iF)
 else
 Option.bind (pred_one nW.Val p0.Down) fun sj =>
 bif decide (p2.length + sj.length ≤ 9223372036854775807) then
 Option.bind (α := Bool)
 (bif (nW.Op == (4 : Int)) then
 some true
 else
 some (nW.Op == (5 : Int)))
 fun Ig =>
 Option.bind (α := Bool)
 (bif (Ig == p0.Down) then
 bif (nW.Op == (4 : Int)) then
 some true
 else
 some (nW.Op == (2 : Int))
 else
 some false)
 fun YL =>
 bif YL then
 Option.bind (nP (p2 ++ sj)) fun QV =>
 some (true, (aW.mk iF.Lo (minS iF.Hi QV) iF.Open))
 else
 bif (Ig == p0.Down) then
 some (true, (aW.mk iF.Lo (minS iF.Hi (p2 ++ sj)) iF.Open))
 else
 Option.bind (α := Bool)
 (bif (nW.Op == (4 : Int)) then
 some true
 else
 some (nW.Op == (2 : Int)))
 fun YK =>
 bif YK then
 some (true, (aW.mk (maxS iF.Lo (p2 ++ sj)) iF.Hi iF.Open))
 else
 Option.bind (nP (p2 ++ sj)) fun QU =>
 some (true, (aW.mk (maxS iF.Lo QU) iF.Hi iF.Open))
 else none)
 fun (YO, YN) =>
 some (Sum.inl (YO, (bF (uP + (1 : Int))), YN))
 else
 some (Sum.inr (zH, iF))) (false, (0 : Int), YS))
 (fun e => some e))
 fun (Vg, Tt) =>
 some (Vg, Tt)
 else none
 else none
theorem Hg (p0 : aI) (p1 : List aA) (p2 : List UInt8) (r : Bool × aW) (h0 : kF p0 p1 p2 = some r) : aO Tryz.prog 78 [.d (aR p0), .d ((eL 6 aU) p1), .d (eS p2)] [] (.tuple [.d (bB r.2), .d (eB r.1)]) [.box (.d (bB r.2))] := by
 unfold kF at h0
 refine fn0 [0, 1, 2] Tryz.func78 rfl rfl rfl rfl rfl ?_
 obtain ⟨aje, h0⟩ := gd h0; obtain ⟨ajd, h0⟩ := gd h0; obtain ⟨TV, ail, h0⟩ := ob h0
 refine sr (s1 (tH (k := 0) rfl rfl rfl) (s1 (yT (k := 1) Mk rfl) (sa rfl (sn (sr (sm rfl (s1 (bi (v := .d (eS (p2 ++ ([1] : List UInt8)))) rfl rfl (fun X Y => jY _ X Y p2 ([1] : List UInt8) aje)) (sm rfl (s1 (bi (v := .d (eS (p2 ++ ([1] : List UInt8)))) rfl rfl (fun X Y => jY _ X Y p2 ([1] : List UInt8) ajd)) ?_)))))))))
 refine c0 (vB (p2 ++ ([1] : List UInt8)) _ ail) wf rfl rfl rfl Tg rfl (fun _ => rfl) (fun _ => rfl) (s1 (xI rfl (J6 (p2 ++ ([1] : List UInt8)) TV)) (s1 (yT (k := 2) Mk rfl) (s0 (jP rfl rfl (sB (d' := .d (bB (aW.mk (p2 ++ ([1] : List UInt8)) TV false))) nE rfl rfl rfl rfl rfl rfl rfl)) (sn (SC.bV h0 (fun y => ⟨mk 122 [(1, .d ((eL 6 aU) p1)), (2, .d (eS p2)), (3, .ref 0 0 0), (6, .ref 1 0 0), (8, .ref 2 0 0)], [.box (.d (aR p0)), .box (.d (bB (aW.mk ([] : List UInt8) ([] : List UInt8) false))), .box (.d (bB y))]⟩) ?_ ?_)))))
 ·intro aoj h1
  refine sr (s1 (far (k := 1) rfl yJ jZ rfl) (s1 (bg rfl (ah jZ wS rfl rfl)) (sn (cB h1 rfl (fun h1 => ?_) (fun h1 => ?_)))))
  ·obtain ⟨ajc, h1⟩ := gd h1; obtain ⟨TU, aik, h1⟩ := ob h1; have q := si h1; subst q
   exact SC.region (sm rfl (sm rfl (s1 (bi (v := .d (eS (p2 ++ ([254] : List UInt8)))) rfl rfl (fun X Y => jY _ X Y p2 ([254] : List UInt8) ajc)) (c0 (vB (p2 ++ ([254] : List UInt8)) _ aik) wf rfl rfl rfl Tg rfl (fun _ => rfl) (fun _ => rfl) (s1 (xI rfl (J6 p2 TU)) (s0 (jP rfl rfl (sB (d' := .d (bB (aW.mk p2 TU false))) nE rfl rfl rfl rfl rfl rfl rfl)) (SO.nil ((wq rfl)))))))))
  ·have q := si h1; subst q
   exact SC.skip ((wq rfl))
 ·rintro YS h0
  refine sr (sa rfl (sn (SC.bV h0 (fun y => ⟨mk 122 [(6, .ref 0 0 0), (8, .ref 1 0 0), (9, .d (eB y.1))], [.box (.d (bB (aW.mk ([] : List UInt8) ([] : List UInt8) false))), .box (.d (bB y.2))]⟩) ?_ ?_)))
  ·intro aof h1
   obtain ⟨anE, h2, h1⟩ := ob h1
   refine sr (sm rfl (s1 (len rfl rfl rfl (bC vR)) (sm rfl (sn (SC.blk (SC.dL h2 (fun y => ⟨mk 122 [(2, .d (eS p2)), (3, .ref 0 0 0), (6, .ref 1 0 0), (8, .ref 2 0 0), (9, .d (eB y.1)), (27, .d ((eL 6 aU) p1)), (28, .d (eI (p1.length : Int))), (29, .d (eI y.2.1))], [.box (.d (aR p0)), .box (.d (bB (aW.mk ([] : List UInt8) ([] : List UInt8) false))), .box (.d (bB y.2.2))]⟩) (wq rfl) ?_))))))
   intro arF
   rintro ⟨zH, uP, iF⟩ amd h3 hv3
   refine sr (s1 (bi rfl rfl aJ) (sn (sq (cB h3 rfl (fun h3 => ?_) (fun h3 => ?_)))))
   ·refine sk (SC.bV h3 (fun y => ⟨mk 122 [(2, .d (eS p2)), (3, .ref 0 0 0), (6, .ref 1 0 0), (8, .ref 2 0 0), (9, .d (eB y.1)), (27, .d ((eL 6 aU) p1)), (28, .d (eI (p1.length : Int))), (29, .d (eI uP))], [.box (.d (aR p0)), .box (.d (bB (aW.mk ([] : List UInt8) ([] : List UInt8) false))), .box (.d (bB y.2))]⟩) ?_ ?_)
    ·intro anh h4
     obtain ⟨nW, acg, h4⟩ := ob h4
     refine SC.blk (sr (s1 (jo rfl rfl vR q9 (aj acg).1 (aY (aj acg).2) rfl) (s1 (bg (v := .d (aU nW)) rfl (bN q9 GZ rfl)) (s1 (yT (k := 3) YE rfl) (s0 (jP rfl rfl (sB (d' := .d (aU nW)) q9 rfl rfl rfl rfl rfl rfl rfl)) (sn (sq (SC.bV h4 (fun y => ⟨mk 122 [(2, .d (eS p2)), (3, .ref 0 0 0), (6, .ref 1 0 0), (8, .ref 2 0 0), (9, .d (eB zH)), (11, .ref 3 0 0), (27, .d ((eL 6 aU) p1)), (28, .d (eI (p1.length : Int))), (29, .d (eI uP)), (52, .d (eB y))], [.box (.d (aR p0)), .box (.d (bB (aW.mk ([] : List UInt8) ([] : List UInt8) false))), .box (.d (bB iF)), .box (.d (aU nW))]⟩) ?_ ?_))))))))
     ·intro am5 h5
      refine SC.region (s1 (far (k := 0) rfl qH bD rfl) (s1 (bg rfl (ah bD dH rfl rfl)) (s1 (bi rfl rfl bS) (sm rfl (sp h5 (fun h5 => ?_) (fun h5 => ?_))))))
      ·have q := si h5; subst q
       refine kw rfl (kw rfl (kw rfl (kw rfl (kw rfl (s1 (pkt rfl rfl) (sm rfl (kw rfl (kw rfl (kw rfl ?_)))))))))
       exact s1 (pkt rfl rfl) (sm rfl (kw rfl (kw rfl (kw rfl (s1 (pkt rfl rfl) (SO.nil ((wq rfl))))))))
      ·refine gw rfl (far (k := 1) rfl yI bD rfl) (gw rfl (bg rfl (ah bD dH rfl rfl)) (gw rfl (far (k := 0) rfl wC bD rfl) (gw rfl (bg rfl (ah bD dH rfl rfl)) (gw rfl (bi rfl rfl bS) (s1 (dx rfl rfl) (sm rfl (sp h5 (fun h5 => ?_) (fun h5 => ?_))))))))
       ·have q := si h5; subst q
        refine kw rfl (kw rfl (kw rfl (s1 (pkt rfl rfl) (sm rfl (kw rfl (kw rfl (kw rfl (s1 (pkt rfl rfl) (SO.nil ?_)))))))))
        exact (wq rfl)
       ·refine gw rfl (far (k := 2) rfl qG bD rfl) (gw rfl (bg rfl (ah bD dH rfl rfl)) (gw rfl (bi rfl rfl aM) (s1 (dx rfl rfl) (sm rfl (sp h5 (fun h5 => ?_) (fun h5 => ?_))))))
        ·have q := si h5; subst q
         exact kw rfl (kw rfl (kw rfl (s1 (pkt rfl rfl) (SO.nil ((wq rfl))))))
        ·have q := si h5; subst q
         exact gw rfl (far (k := 2) rfl qG bD rfl) (gw rfl (bg rfl (ah bD dH rfl rfl)) (gw rfl (bi rfl rfl aM) (s1 (dx rfl rfl) (SO.nil ((wq rfl))))))
     ·rintro YM h4
      refine cB h4 rfl (fun h4 => ?_) (fun h4 => ?_)
      ·have q := si h4; subst q
       exact SC.exit ((wc [0, 1, 2] [0, 1, 2] (by kernel_rfl) rfl (by kernel_rfl)))
      ·obtain ⟨sj, ah8, h4⟩ := ob h4; obtain ⟨ai9, h4⟩ := gd h4
       refine sk (sr (sa rfl (sn (sr (sm rfl (s1 (far (k := 3) rfl Dl iC rfl) (s1 (bg (v := .d (bA nW.Val)) rfl (ah iC o8 rfl rfl)) (s1 (far (k := 1) rfl yJ jZ rfl) (s1 (bg rfl (ah jZ wS rfl rfl)) ?_)))))))))
       refine c0 (Gw nW.Val p0.Down _ ah8) wf rfl rfl rfl ajM rfl (fun _ => rfl) (fun _ => rfl) (s1 (bi (v := .d (eS (p2 ++ sj))) rfl rfl (fun X Y => jY _ X Y p2 sj ai9)) (sa rfl (sn (SC.bV h4 (fun y => ⟨mk 122 [(2, .d (eS p2)), (3, .ref 0 0 0), (6, .ref 1 0 0), (8, .ref 2 0 0), (9, .d (eB true)), (11, .ref 3 0 0), (12, .d (eS (p2 ++ sj))), (13, .d (eB y)), (27, .d ((eL 6 aU) p1)), (28, .d (eI (p1.length : Int))), (29, .d (eI uP))], [.box (.d (aR p0)), .box (.d (bB (aW.mk ([] : List UInt8) ([] : List UInt8) false))), .box (.d (bB iF)), .box (.d (aU nW))]⟩) ?_ ?_))))
       ·intro am4 h5
        refine SC.region (s1 (far (k := 2) rfl qG bD rfl) (s1 (bg rfl (ah bD dH rfl rfl)) (s1 (bi rfl rfl aM) (sm rfl (sp h5 (fun h5 => ?_) (fun h5 => ?_))))))
        ·have q := si h5; subst q
         exact kw rfl (kw rfl (kw rfl (s1 (pkt rfl rfl) (sa rfl (SO.nil ((wq rfl)))))))
        ·have q := si h5; subst q
         exact gw rfl (far (k := 2) rfl qG bD rfl) (gw rfl (bg rfl (ah bD dH rfl rfl)) (gw rfl (bi rfl rfl aM) (s1 (dx rfl rfl) (sa rfl (SO.nil ((wq rfl)))))))
       ·rintro Ig h4
        refine SC.blk (SC.bV h4 (fun y => ⟨mk 122 [(2, .d (eS p2)), (3, .ref 0 0 0), (6, .ref 1 0 0), (8, .ref 2 0 0), (9, .d (eB true)), (11, .ref 3 0 0), (12, .d (eS (p2 ++ sj))), (13, .d (eB Ig)), (27, .d ((eL 6 aU) p1)), (28, .d (eI (p1.length : Int))), (29, .d (eI uP)), (74, .d (eB y))], [.box (.d (aR p0)), .box (.d (bB (aW.mk ([] : List UInt8) ([] : List UInt8) false))), .box (.d (bB iF)), .box (.d (aU nW))]⟩) ?_ ?_)
        ·intro am3 h5
         refine SC.region (sm rfl (s1 (far (k := 1) rfl yJ jZ rfl) (s1 (bg rfl (ah jZ wS rfl rfl)) (s1 (bi (v := .d (eB (Ig == p0.Down))) rfl rfl (fun X Y => J7 Yz X Y Ig p0.Down)) (sm rfl (sp h5 (fun h5 => ?_) (fun h5 => ?_)))))))
         ·refine gw rfl (far (k := 2) rfl qG bD rfl) (gw rfl (bg rfl (ah bD dH rfl rfl)) (gw rfl (bi rfl rfl aM) (gw rfl (mv rfl) (sp h5 (fun h5 => ?_) (fun h5 => ?_)))))
          ·have q := si h5; subst q
           exact kw rfl (kw rfl (kw rfl (gw rfl (pkt rfl rfl) (s1 (pkt rfl rfl) (sa rfl (SO.nil ((wq rfl))))))))
          ·have q := si h5; subst q
           exact gw rfl (far (k := 2) rfl qG bD rfl) (gw rfl (bg rfl (ah bD dH rfl rfl)) (gw rfl (bi rfl rfl aM) (gw rfl (dx rfl rfl) (s1 (pkt rfl rfl) (sa rfl (SO.nil ((wq rfl))))))))
         ·have q := si h5; subst q
          refine kw rfl (kw rfl (kw rfl (kw rfl (kw rfl (kw rfl (kw rfl (kw rfl (s1 (dx rfl rfl) (sa rfl ?_)))))))))
          exact SO.nil ((wq rfl))
        ·rintro YL h4
         refine cB h4 rfl (fun h4 => ?_) (fun h4 => ?_)
         ·obtain ⟨QV, ah7, h4⟩ := ob h4; have q := si h4; subst q
          refine SC.draws (by kernel_rfl) (t1 ([], false) (far (k := 1) rfl NG lY rfl) rfl (t1 ([2], false) (bg rfl (ah lY xG rfl rfl)) rfl (t1 ([], false) (mv rfl) rfl (Fa (vB (p2 ++ sj) _ ah7) wf rfl rfl rfl Tg rfl (fun _ => rfl) (fun _ => rfl) (t1 ([], true) (mno (v := .d (eS (minS iF.Hi QV))) rfl rfl rfl (JU uR iF.Hi QV)) rfl (t1 ([], false) (far (k := 1) rfl NG lY rfl) rfl (t0 ([2], true) (jP rfl rfl (sB (d' := .d (bB (aW.mk iF.Lo (minS iF.Hi QV) iF.Open))) lY rfl rfl rfl rfl rfl rfl rfl)) rfl (ST.nil (And.intro (by decide +kernel) ?_)))))))))
          exact (wc [0, 1, 2] [0, 1, 2] (by kernel_rfl) rfl (by kernel_rfl))
         ·refine sr (sm rfl (s1 (far (k := 1) rfl yJ jZ rfl) (s1 (bg rfl (ah jZ wS rfl rfl)) (s1 (bi (v := .d (eB (Ig == p0.Down))) rfl rfl (fun X Y => J7 Yz X Y Ig p0.Down)) (sa rfl (sn (cB h4 rfl (fun h4 => ?_) (fun h4 => ?_))))))))
          ·have q := si h4; subst q
           exact SC.region (s1 (far (k := 1) rfl NG lY rfl) (s1 (bg rfl (ah lY xG rfl rfl)) (sm rfl (s1 (mno (v := .d (eS (minS iF.Hi (p2 ++ sj)))) rfl rfl rfl (JU uR iF.Hi (p2 ++ sj))) (s1 (far (k := 1) rfl NG lY rfl) (s0 (jP rfl rfl (sB (d' := .d (bB (aW.mk iF.Lo (minS iF.Hi (p2 ++ sj)) iF.Open))) lY rfl rfl rfl rfl rfl rfl rfl)) (SO.nil ((wc [0, 1, 2] [0, 1, 2] (by kernel_rfl) rfl (by kernel_rfl))))))))))
          ·refine SC.bV h4 (fun y => ⟨mk 122 [(2, .d (eS p2)), (3, .ref 0 0 0), (6, .ref 1 0 0), (8, .ref 2 0 0), (9, .d (eB true)), (12, .d (eS (p2 ++ sj))), (27, .d ((eL 6 aU) p1)), (28, .d (eI (p1.length : Int))), (29, .d (eI uP)), (105, .d (eB y))], [.box (.d (aR p0)), .box (.d (bB (aW.mk ([] : List UInt8) ([] : List UInt8) false))), .box (.d (bB iF))]⟩) ?_ ?_
           ·intro am2 h5
            refine SC.region (s1 (far (k := 2) rfl qG bD rfl) (s1 (bg rfl (ah bD dH rfl rfl)) (s1 (bi rfl rfl aM) (sm rfl (sp h5 (fun h5 => ?_) (fun h5 => ?_))))))
            ·have q := si h5; subst q
             exact kw rfl (kw rfl (kw rfl (s1 (pkt rfl rfl) (sa rfl (SO.nil ((wc [0, 1, 2] [0, 1, 2] (by kernel_rfl) rfl (by kernel_rfl))))))))
            ·have q := si h5; subst q
             exact gw rfl (far (k := 2) rfl qG bD rfl) (gw rfl (bg rfl (ah bD dH rfl rfl)) (gw rfl (bi rfl rfl aM) (s1 (dx rfl rfl) (sa rfl (SO.nil ((wc [0, 1, 2] [0, 1, 2] (by kernel_rfl) rfl (by kernel_rfl))))))))
           ·rintro YK h4
            refine cB h4 rfl (fun h4 => ?_) (fun h4 => ?_)
            ·have q := si h4; subst q
             exact SC.region (s1 (far (k := 0) rfl NH lY rfl) (s1 (bg rfl (ah lY xG rfl rfl)) (sm rfl (s1 (mxo (v := .d (eS (maxS iF.Lo (p2 ++ sj)))) rfl rfl rfl (JV uR iF.Lo (p2 ++ sj))) (s1 (far (k := 0) rfl NH lY rfl) (s0 (jP rfl rfl (sB (d' := .d (bB (aW.mk (maxS iF.Lo (p2 ++ sj)) iF.Hi iF.Open))) lY rfl rfl rfl rfl rfl rfl rfl)) (SO.nil ((wq rfl)))))))))
            ·obtain ⟨QU, ah6, h4⟩ := ob h4; have q := si h4; subst q
             refine SC.draws (by kernel_rfl) (t1 ([], false) (far (k := 0) rfl NH lY rfl) rfl (t1 ([2], false) (bg rfl (ah lY xG rfl rfl)) rfl (t1 ([], false) (mv rfl) rfl (Fa (vB (p2 ++ sj) _ ah6) wf rfl rfl rfl Tg rfl (fun _ => rfl) (fun _ => rfl) (t1 ([], true) (mxo (v := .d (eS (maxS iF.Lo QU))) rfl rfl rfl (JV uR iF.Lo QU)) rfl (t1 ([], false) (far (k := 0) rfl NH lY rfl) rfl (t0 ([2], true) (jP rfl rfl (sB (d' := .d (bB (aW.mk (maxS iF.Lo QU) iF.Hi iF.Open))) lY rfl rfl rfl rfl rfl rfl rfl)) rfl (ST.nil (And.intro (by decide +kernel) ?_)))))))))
             exact (wq rfl)
    ·rintro ⟨YO, YN⟩ h3
     have q := si h3; subst q
     exact SC.region (s1 (bi rfl rfl aT) (sm rfl (SO.nil (lf (wq rfl)))))
   ·have q := si h3; subst q; have q : _ = _ := hv3; subst q; have q := si h1; subst q
    exact SC.exit ((wc [1, 2] [1, 2] (by kernel_rfl) rfl (by kernel_rfl)))
  ·rintro ⟨Vg, Tt⟩ h0
   have q := si h0; subst q
   exact sr (s1 (bg (v := .d (bB Tt)) rfl (ah nE CG rfl rfl)) (sm rfl (s0 (jP rfl rfl (sB (d' := .d (bB Tt)) nE rfl rfl rfl rfl rfl rfl rfl)) (sa rfl (sn (SC.ret (bQ (wc (e' := [(6, .ref 0 0 0), (7, .d (eB Vg))]) [0] [0] (by kernel_rfl) rfl (by kernel_rfl)) (Cr rfl (ah nE CG rfl rfl) (aZ rfl aX)) rfl)))))))
noncomputable def iX (p0 : List aI) (p1 : List aA) : Option (Int × Bool × aW) :=
 Option.bind (gB 1000 p1 (bF ((p1.length : Int) - (1 : Int))) true) fun (xY, ahu) =>
 Option.bind (α := (List UInt8) × Int)
 (Option.bind (α := (List UInt8) × Int)
 (loop (Y := (List UInt8) × Int) (W := (List UInt8) × Int) (fun (GU, GR) =>
 bif (decide (GR < (p0.length : Int))) then
 Option.bind (bG p0 GR) fun Iq =>
 Option.bind (dh xY Iq) fun Ua =>
 bif (decide (Ua < (0 : Int))) then
 some (Sum.inr (GU, GR))
 else
 Option.bind (bG xY Ua) fun TD =>
 Option.bind (pred_one TD.Val Iq.Down) fun I8 =>
 bif decide (GU.length + I8.length ≤ 9223372036854775807) then
 some (Sum.inl ((GU ++ I8), (bF (GR + (1 : Int)))))
 else none
 else
 some (Sum.inr (GU, GR))) (([] : List UInt8), (0 : Int)))
 (fun e => some e))
 fun (KF, Fj) =>
 eu (Y := Unit) (E := Int × Bool × aW)
 (bif (decide (Fj < (p0.length : Int))) then
 Option.bind (bG p0 Fj) fun QH =>
 Option.bind (kF QH xY KF) fun (QZ, QY) =>
 bif QZ then
 some (Sum.inr (Fj, true, QY))
 else
 some (Sum.inl ())
 else
 some (Sum.inl ()))
 (fun _ =>
 Option.bind (oP KF) fun Wj =>
 some (Fj, false, Wj))
 (fun e => some e)
theorem Al (p0 : List aI) (p1 : List aA) (r : Int × Bool × aW) (h0 : iX p0 p1 = some r) : aO Tryz.prog 43 [.d ((eL 2 aR) p0), .d ((eL 6 aU) p1)] [] (.tuple [.d (bB r.2.2), .d (eI r.1), .d (eB r.2.1)]) [.box (.d (bB r.2.2))] := by
 unfold iX at h0
 refine fn0 [0, 1] Tryz.func43 rfl rfl rfl rfl rfl ?_
 obtain ⟨⟨xY, ahu⟩, aiS, h0⟩ := ob h0
 refine sr (s1 (yT (k := 0) Mk rfl) (sa rfl (sa rfl (sn (sr (sm rfl (sm rfl (s1 (len rfl rfl rfl (bC vR)) (s1 (bi rfl rfl dK) ?_)))))))))
 refine cq [] [1] (vC 1000 p1 (bF ((p1.length : Int) - (1 : Int))) true _ aiS) wf rfl rfl rfl ajN rfl rfl rfl rfl rfl rfl rfl rfl (sm rfl (s1 (ext rfl rfl) (s1 (ext rfl rfl) (sa rfl (sa rfl (sn (sr (s1 (lX (v := .d (eS ([] : List UInt8))) rfl) (sa rfl ?_)))))))))
 refine sn (SC.bV h0 (fun y => ⟨mk 68 [(0, .d ((eL 2 aR) p0)), (4, .ref 0 0 0), (7, .slc 1 6 0 xY.length none), (9, .d (eS y.1)), (10, .d (eI y.2))], [.box (.d (bB (aW.mk ([] : List UInt8) ([] : List UInt8) false))), .row 6 (List.map aU xY) false]⟩) ?_ ?_)
 ·intro aoC h1
  obtain ⟨anV, h2, h1⟩ := ob h1
  refine SC.blk (SC.dL h2 (fun y => ⟨mk 68 [(0, .d ((eL 2 aR) p0)), (4, .ref 0 0 0), (7, .slc 1 6 0 xY.length none), (9, .d (eS y.1)), (10, .d (eI y.2))], [.box (.d (bB (aW.mk ([] : List UInt8) ([] : List UInt8) false))), .row 6 (List.map aU xY) false]⟩) (Wk.trans (wq (e' := [(0, .d ((eL 2 aR) p0)), (4, .ref 0 0 0), (7, .slc 1 6 0 xY.length none), (9, .d (eS ([] : List UInt8))), (10, .d (eI (0 : Int)))]) rfl) (fro 1 rfl rfl)) ?_)
  intro n211
  rintro ⟨GU, GR⟩ ams h3 hv3
  refine sq (sr (sm rfl (sm rfl (s1 (len rfl rfl rfl (bC jO)) (s1 (bi rfl rfl aJ) (sn (cB h3 rfl (fun h3 => ?_) (fun h3 => ?_))))))))
  ·obtain ⟨Iq, acW, h3⟩ := ob h3; obtain ⟨Ua, aiJ, h3⟩ := ob h3
   refine sk (SC.blk (sr (sm rfl (sm rfl (s1 (jo rfl rfl jO rz (aj acW).1 (aY (aj acW).2) rfl) (s1 (bg (v := .d (aR Iq)) rfl (bN rz OU rfl)) (s1 (yT (k := 2) YF rfl) (s0 (jP rfl rfl (sB (d' := .d (aR Iq)) rz rfl rfl rfl rfl rfl rfl rfl)) (sn ?_)))))))))
   refine sr (sm rfl (s1 (mkf rfl rfl) (cq (args' := [.slc 0 6 0 xY.length none, .fn (.func 75) [] [.ref 1 0 0]]) (lM := [.row 6 (List.map aU xY) false, .box (.d (aR Iq))]) [1, 2] [] (aO.mM (gQ.mM (fF rfl rfl rfl) (gQ.keep (gQ.nil _))) (fq [1] [] (lU xY Iq _ aiJ) rfl rfl rfl rfl rfl rfl rfl rfl)) wf rfl rfl rfl aqf rfl rfl rfl rfl rfl rfl rfl rfl (sa rfl (sn (sq (sr (sm rfl (s1 (bi rfl rfl aJ) ?_)))))))))
   refine sn (cB h3 rfl (fun h3 => ?_) (fun h3 => ?_))
   ·have q := si h3; subst q; have q : _ = _ := hv3; subst q; have q := si h1; subst q
    exact SC.exit ((wc [0, 1] [0, 1] (by kernel_rfl) rfl (by kernel_rfl)))
   ·obtain ⟨TD, acU, h3⟩ := ob h3; obtain ⟨I8, XA, h3⟩ := ob h3; obtain ⟨XF, h3⟩ := gd h3; have q := si h3; subst q
    refine sk (sd (by kernel_rfl) (t1 ([], false) (mv rfl) rfl (t1 ([], false) (mv rfl) rfl (t1 ([], false) (mv rfl) rfl (t1 ([], false) (JC rfl rfl vR q9 (iL acU)) rfl (t1 ([], false) (far (k := 3) rfl Dl iC rfl) rfl (t1 ([1], false) (bg (v := .d (bA TD.Val)) rfl (jr iC o8 rfl (aY (aj acU).2) rfl)) rfl (t1 ([], false) (far (k := 1) rfl yJ jZ rfl) rfl (t1 ([2], false) (bg rfl (ah jZ wS rfl rfl)) rfl ?_)))))))))
    exact Fa (Gw TD.Val Iq.Down _ XA) wf rfl rfl rfl ajM rfl (fun _ => rfl) (fun _ => rfl) (t1 ([], false) (bi (v := .d (eS (GU ++ I8))) rfl rfl (fun X Y => jY _ X Y GU I8 XF)) rfl (t1 ([], false) (lX rfl) rfl (tn (by decide +kernel) (SC.region (sm rfl (s1 (bi rfl rfl aT) (sa rfl (SO.nil (lf (wc [0, 1] [0, 1] (by kernel_rfl) rfl (by kernel_rfl)))))))))))
  ·have q := si h3; subst q; have q : _ = _ := hv3; subst q; have q := si h1; subst q
   exact SC.exit ((wq rfl))
 ·rintro ⟨KF, Fj⟩ h0
  refine SC.seqB h0 (fun y => ⟨mk 68 [(4, .ref 0 0 0), (9, .d (eS KF)), (10, .d (eI Fj))], [.box (.d (bB (aW.mk ([] : List UInt8) ([] : List UInt8) false)))]⟩) ?_ ?_
  ·intro aox h1 h0
   refine sr (sm rfl (sm rfl (s1 (len rfl rfl rfl (bC jO)) (s1 (bi rfl rfl aJ) (sn (cB h1 rfl (fun h1 => ?_) (fun h1 => ?_)))))))
   ·obtain ⟨QH, acT, h1⟩ := ob h1; obtain ⟨⟨QZ, QY⟩, Xz, h1⟩ := ob h1
    refine sr (sm rfl (sm rfl (s1 (jo rfl rfl jO rz (aj acT).1 (aY (aj acT).2) rfl) (s1 (bg (v := .d (aR QH)) rfl (bN rz OU rfl)) (sm rfl (sm rfl (cq (args' := [.d (aR QH), .slc 0 6 0 xY.length none, .d (eS KF)]) (lM := [.row 6 (List.map aU xY) false]) [1] [2] (aO.mM (gQ.keep (gQ.mM (fF rfl rfl rfl) (gQ.keep (gQ.nil _)))) (fq [] [1] (Hg QH xY KF _ Xz) rfl rfl rfl rfl rfl rfl rfl rfl)) wf rfl rfl rfl aqc rfl rfl rfl rfl rfl rfl rfl rfl (sm rfl (s1 (ext rfl rfl) ?_)))))))))
    refine s1 (ext rfl rfl) (s1 (yT (k := 3) Mk rfl) (s0 (jP rfl rfl (sB (d' := .d (bB QY)) nE rfl rfl rfl rfl rfl rfl rfl)) (sa rfl (sn (sr (sm rfl (sn (cB h1 rfl (fun h1 => ?_) (fun h1 => ?_)))))))))
    ·have q := si h1; subst q; have q := si h0; subst q
     exact sr (s1 (bg (v := .d (bB QY)) rfl (ah nE CG rfl rfl)) (sm rfl (s0 (jP rfl rfl (sB (d' := .d (bB QY)) nE rfl rfl rfl rfl rfl rfl rfl)) (sa rfl (sa rfl (sn (SC.ret (bQ (wc (e' := [(4, .ref 0 0 0), (5, .d (eI Fj)), (6, .d (eB true))]) [0] [0] (by kernel_rfl) rfl (by kernel_rfl)) (Cr rfl (ah nE CG rfl rfl) (aZ rfl (aZ rfl aX))) rfl))))))))
    ·have q := si h1; subst q
     exact SC.skip (lf (wc [0] [0] (by kernel_rfl) rfl (by kernel_rfl)))
   ·have q := si h1; subst q
    exact SC.skip (lf (wc [0] [0] (by kernel_rfl) rfl (by kernel_rfl)))
  ·intro _ h0
   obtain ⟨Wj, aiF, h0⟩ := ob h0; have q := si h0; subst q
   exact sr (sm rfl (cq [] [1] (Ev KF _ aiF) wf rfl rfl rfl ajU rfl rfl rfl rfl rfl rfl rfl rfl (sm rfl (s0 (jP rfl rfl (sB (d' := .d (bB Wj)) nE rfl rfl rfl rfl rfl rfl rfl)) (sa rfl (sa rfl (sn (SC.ret (bQ (wc (e' := [(4, .ref 0 0 0), (5, .d (eI Fj)), (6, .d (eB false))]) [0] [0] (by kernel_rfl) rfl (by kernel_rfl)) (Cr rfl (ah nE CG rfl rfl) (aZ rfl (aZ rfl aX))) rfl)))))))))
noncomputable def ni (p0 : aG) (p1 : Bool) : Option Int :=
 Option.bind (α := Int)
 (Option.bind (α := Int)
 (loop (Y := Int × Int) (W := Int) (fun (RQ, Yy) =>
 bif (decide (Yy < p0.Fixed)) then
 some (Sum.inl ((bF (Int.tdiv RQ (10 : Int))), (bF (Yy + (1 : Int)))))
 else
 some (Sum.inr RQ)) ((1000 : Int), (0 : Int)))
 (fun e => some e))
 fun RS =>
 Option.bind (α := Int)
 (bif p0.Bounded then
 some (bF (Int.tdiv RS (3 : Int)))
 else
 some RS)
 fun Yx =>
 bif p1 then
 some (1 : Int)
 else
 some (max Yx (1 : Int))
theorem yg (p0 : aG) (p1 : Bool) (r : Int) (h0 : ni p0 p1 = some r) : aO Tryz.prog 44 [.d (aQ p0), .d (eB p1)] [] (.d (eI r)) [] := by
 unfold ni at h0
 refine fn0 [0, 1] Tryz.func44 rfl rfl rfl rfl rfl ?_
 refine sr (s1 (tH (k := 0) rfl rfl rfl) (sa rfl (sn (sr (sa rfl (sn (SC.bV h0 (fun y => ⟨mk 20 [(1, .d (eB p1)), (2, .ref 0 0 0), (5, .d (eI y))], [.box (.d (aQ p0))]⟩) ?_ ?_)))))))
 ·intro ag0 h1
  obtain ⟨agX, h2, h1⟩ := ob h1
  refine sr (s1 (far (k := 4) rfl Dm bD rfl) (s1 (bg rfl (ah bD dH rfl rfl)) (sm rfl (sn (SC.blk (SC.dL h2 (fun y => ⟨mk 20 [(1, .d (eB p1)), (2, .ref 0 0 0), (5, .d (eI y.1)), (7, .d (eI p0.Fixed)), (8, .d (eI y.2))], [.box (.d (aQ p0))]⟩) (wq rfl) ?_))))))
  intro n53
  rintro ⟨RQ, Yy⟩ agx h3 hv3
  refine sr (s1 (bi rfl rfl aJ) (sn (sq (cB h3 rfl (fun h3 => ?_) (fun h3 => ?_)))))
  ·refine sk (sq (SC.blk (SC.region (sm rfl (s1 (bi (v := .d (eI (bF (Int.tdiv RQ (10 : Int))))) rfl rfl (fun X Y => xE _ X Y RQ (10 : Int) (by decide))) (sa rfl (SO.nil ?_)))))))
   change SC _ _ _ _ _
   have q := si h3; subst q
   exact SC.region (s1 (bi rfl rfl aT) (sm rfl (SO.nil (lf (wq rfl)))))
  ·have q := si h3; subst q; have q : _ = _ := hv3; subst q; have q := si h1; subst q
   exact SC.exit ((wq rfl))
 ·rintro RS h0
  refine SC.bV h0 (fun y => ⟨mk 20 [(1, .d (eB p1)), (5, .d (eI y))], []⟩) ?_ ?_
  ·intro agZ h1
   refine sr (s1 (far (k := 5) rfl JJ jZ rfl) (s1 (bg rfl (ah jZ wS rfl rfl)) (sn (cB h1 rfl (fun h1 => ?_) (fun h1 => ?_)))))
   ·have q := si h1; subst q
    exact SC.region (sm rfl (s1 (bi (v := .d (eI (bF (Int.tdiv RS (3 : Int))))) rfl rfl (fun X Y => xE _ X Y RS (3 : Int) (by decide))) (sa rfl (SO.nil ((wc [] [] (by kernel_rfl) rfl (by kernel_rfl)))))))
   ·have q := si h1; subst q
    exact SC.skip ((wc [] [] (by kernel_rfl) rfl (by kernel_rfl)))
  ·rintro Yx h0
   refine sq (sr (sm rfl (sn (cB h0 rfl (fun h0 => ?_) (fun h0 => ?_)))))
   ·have q := si h0; subst q
    exact sr (sa rfl (sn (SC.ret (bQ (Wk.refl _) (aZ rfl aX) rfl))))
   ·have q := si h0; subst q
    exact sk (sr (sm rfl (s1 (mxo (v := .d (eI (max Yx (1 : Int)))) rfl rfl rfl (JW QJ Yx (1 : Int))) (sa rfl (sn (SC.ret (bQ (Wk.refl _) (aZ rfl aX) rfl)))))))
noncomputable def qD (p0 : List aA) : Option ((List Int)) :=
 Option.bind (α := (List Int))
 (Option.bind (α := (List Int))
 (loop (Y := (List Int) × Int) (W := (List Int)) (fun (Fh, Fg) =>
 bif (decide (Fg < (p0.length : Int))) then
 Option.bind (α := (List Int))
 (Option.bind (bG p0 Fg) fun v233 =>
 Option.bind (α := Bool)
 (bif (v233.Kind == (2 : Int)) then
 some true
 else
 some (v233.Kind == (3 : Int)))
 fun zq =>
 bif zq then
 bif decide ((Fh.length + [v233.Col].length) * 8 ≤ room) then
 some (Fh ++ [v233.Col])
 else none
 else
 some Fh)
 fun Y0 =>
 some (Sum.inl (Y0, (bF (Fg + (1 : Int)))))
 else
 some (Sum.inr Fh)) (([] : List Int), (0 : Int)))
 (fun e => some e))
 fun zK =>
 Option.bind (wB zK) fun Wi =>
 Option.bind (jW Wi 0 zK.length) fun Wh =>
 some Wh
theorem M4 (p0 : List aA) (r : (List Int)) (h0 : qD p0 = some r) : aO Tryz.prog 49 [.d ((eL 6 aU) p0)] [] (.d ((eL 1 eI) r)) [] := by
 unfold qD at h0
 refine fn0 [0] Tryz.func49 rfl rfl rfl rfl rfl ?_
 refine sr (s1 (lX (v := .d .dn) rfl) (sn (sr (s1 (lX (v := .d .dn) rfl) (sn (SC.bV h0 (fun y => ⟨mk 30 [(3, .slc 0 1 0 y.length none)], [.row 1 (List.map eI y) true]⟩) ?_ ?_))))))
 ·intro aoz h1
  obtain ⟨anT, h2, h1⟩ := ob h1
  refine sr (sm rfl (s1 (len rfl rfl rfl (bC vR)) (sm rfl (sn (SC.blk (SC.dL h2 (fun y => ⟨mk 30 [(3, .slc 0 1 0 y.1.length none), (6, .d ((eL 6 aU) p0)), (7, .d (eI (p0.length : Int))), (8, .d (eI y.2))], [.row 1 (List.map eI y.1) true]⟩) (Wk.trans (Wk.mo (σ' := [.row 1 (List.map eI ([] : List Int)) true]) (.row 1 [] true) (fun _ hh => by cases hh) rfl) (Wk.trans (Wk.env (e' := [(3, .slc 0 1 0 (([] : List Int).length) none), (6, .d ((eL 6 aU) p0)), (7, .d (eI (p0.length : Int))), (8, .d (eI (0 : Int)))]) (EW.cons (AW.mg _ _ _) (EW.cons (AW.refl _) (EW.cons (AW.refl _) (EW.cons (AW.refl _) EW.nil))))) (wq rfl))) ?_))))))
  intro n237
  rintro ⟨Fh, Fg⟩ amq h3 hv3
  refine sr (s1 (bi rfl rfl aJ) (sn (sq (cB h3 rfl (fun h3 => ?_) (fun h3 => ?_)))))
  ·refine sk (SC.bV h3 (fun y => ⟨mk 30 [(3, .slc 0 1 0 y.length none), (6, .d ((eL 6 aU) p0)), (7, .d (eI (p0.length : Int))), (8, .d (eI Fg))], [.row 1 (List.map eI y) true]⟩) ?_ ?_)
   ·intro anq h4
    obtain ⟨v233, acR, h4⟩ := ob h4
    refine SC.blk (sr (s1 (jo rfl rfl vR q9 (aj acR).1 (aY (aj acR).2) rfl) (s1 (bg (v := .d (aU v233)) rfl (bN q9 GZ rfl)) (s1 (yT (k := 1) YE rfl) (s0 (jP rfl rfl (sB (d' := .d (aU v233)) q9 rfl rfl rfl rfl rfl rfl rfl)) (sn (SC.bV h4 (fun y => ⟨mk 30 [(3, .slc 0 1 0 Fh.length none), (5, .ref 1 0 0), (6, .d ((eL 6 aU) p0)), (7, .d (eI (p0.length : Int))), (8, .d (eI Fg)), (19, .d (eB y))], [.row 1 (List.map eI Fh) true, .box (.d (aU v233))]⟩) ?_ ?_)))))))
    ·intro am7 h5
     refine SC.region (s1 (far (k := 0) rfl qH bD rfl) (s1 (bg rfl (ah bD dH rfl rfl)) (s1 (bi rfl rfl aM) (sm rfl (sp h5 (fun h5 => ?_) (fun h5 => ?_))))))
     ·have q := si h5; subst q
      exact kw rfl (kw rfl (kw rfl (s1 (pkt rfl rfl) (SO.nil ((wq rfl))))))
     ·have q := si h5; subst q
      exact gw rfl (far (k := 0) rfl qH bD rfl) (gw rfl (bg rfl (ah bD dH rfl rfl)) (gw rfl (bi rfl rfl aM) (s1 (dx rfl rfl) (SO.nil ((wq rfl))))))
    ·rintro zq h4
     refine cB h4 rfl (fun h4 => ?_) (fun h4 => ?_)
     ·obtain ⟨ajk, h4⟩ := gd h4; have q := si h4; subst q
      exact SC.region (sm rfl (s1 (far (k := 1) rfl yI bD rfl) (s1 (bg rfl (ah bD dH rfl rfl)) (s1 (sM (k := 2) (ds := List.map eI [v233.Col]) (off := 0) (l' := [v233.Col].length) rfl bZ xH rfl rfl (by rfl) rfl rfl rfl) (s1 (app rfl rfl rfl rfl yR (aF (f := eI) (xs := Fh) (k := 3) rfl bZ xH rfl (eY (xs := [v233.Col]) rfl) ajk rfl)) (sa rfl (SO.nil ((wc [3] [3] (by kernel_rfl) rfl (by kernel_rfl))))))))))
     ·have q := si h4; subst q
      exact SC.skip ((wc [0] [0] (by kernel_rfl) rfl (by kernel_rfl)))
   ·rintro Y0 h3
    have q := si h3; subst q
    exact SC.region (s1 (bi rfl rfl aT) (sm rfl (SO.nil (lf (wq rfl)))))
  ·have q := si h3; subst q; have q : _ = _ := hv3; subst q; have q := si h1; subst q
   exact SC.exit ((wq rfl))
 ·rintro zK h0
  obtain ⟨Wi, aiD, h0⟩ := ob h0; obtain ⟨Wh, aiC, h0⟩ := ob h0; have q := si h0; subst q
  refine sr (sm rfl (cq [0] [] (Jy zK _ aiD) wf rfl rfl rfl afD rfl rfl rfl rfl rfl rfl rfl rfl (sn (sr (sm rfl (cq [0] [] (AO Wi 0 zK.length _ aiC) wf rfl rfl rfl afC rfl rfl rfl rfl rfl rfl rfl rfl (sa rfl (sn (SC.ret ?_)))))))))
  exact bQ (wc (e' := [(2, .d ((eL 1 eI) Wh))]) [] [] (by kernel_rfl) rfl (by kernel_rfl)) (aZ rfl aX) rfl
noncomputable def fD (p0 : bP) : Option ((List Int)) :=
 Option.bind (α := (List Int))
 (Option.bind (α := (List Int))
 (loop (Y := (List Int) × Int) (W := (List Int)) (fun (xJ, BQ) =>
 bif (decide (BQ < (p0.Order.length : Int))) then
 Option.bind (bG p0.Order BQ) fun v83 =>
 bif decide ((xJ.length + [v83.Col].length) * 8 ≤ room) then
 some (Sum.inl ((xJ ++ [v83.Col]), (bF (BQ + (1 : Int)))))
 else none
 else
 some (Sum.inr xJ)) (([] : List Int), (0 : Int)))
 (fun e => some e))
 fun HV =>
 some HV
theorem BL (p0 : bP) (r : (List Int)) (h0 : fD p0 = some r) : aO Tryz.prog 35 [.d (bY p0)] [] (.d ((eL 1 eI) r)) [] := by
 unfold fD at h0
 refine fn0 [0] Tryz.func35 rfl rfl rfl rfl rfl ?_
 refine sr (s1 (tH (k := 0) rfl rfl rfl) (s1 (lX (v := .d .dn) rfl) (sn (sr (s1 (lX (v := .d .dn) rfl) (sn (SC.bV h0 (fun y => ⟨mk 20 [(3, .slc 0 1 0 y.length none)], [.row 1 (List.map eI y) true]⟩) ?_ ?_)))))))
 ·intro Sz h1
  obtain ⟨Sy, h2, h1⟩ := ob h1
  refine sr (s1 (far (k := 2) rfl NI iG rfl) (s1 (bg rfl (ah iG rC rfl rfl)) (s1 (len rfl rfl rfl (bC jO)) (sm rfl (sn (SC.blk (SC.dL h2 (fun y => ⟨mk 20 [(3, .slc 0 1 0 y.1.length none), (7, .d ((eL 2 aR) p0.Order)), (8, .d (eI (p0.Order.length : Int))), (9, .d (eI y.2))], [.row 1 (List.map eI y.1) true]⟩) (Wk.trans (Wk.mo (σ' := [.box (.d (bY p0)), .row 1 (List.map eI ([] : List Int)) true]) (.row 1 [] true) (fun _ hh => by cases hh) rfl) (Wk.trans (Wk.env (e' := [(3, .slc 1 1 0 (([] : List Int).length) none), (7, .d ((eL 2 aR) p0.Order)), (8, .d (eI (p0.Order.length : Int))), (9, .d (eI (0 : Int)))]) (EW.cons (AW.mg _ _ _) (EW.cons (AW.refl _) (EW.cons (AW.refl _) (EW.cons (AW.refl _) EW.nil))))) (wc [1] [1] (by kernel_rfl) rfl (by kernel_rfl)))) ?_)))))))
  intro n85
  rintro ⟨xJ, BQ⟩ Sk h3 hv3
  refine sr (s1 (bi rfl rfl aJ) (sn (sq (cB h3 rfl (fun h3 => ?_) (fun h3 => ?_)))))
  ·obtain ⟨v83, AP, h3⟩ := ob h3; obtain ⟨Rh, h3⟩ := gd h3
   refine sk (sq (SC.blk (sr (s1 (jo rfl rfl jO rz (aj AP).1 (aY (aj AP).2) rfl) (s1 (bg (v := .d (aR v83)) rfl (bN rz OU rfl)) (s1 (yT (k := 1) YF rfl) (s0 (jP rfl rfl (sB (d' := .d (aR v83)) rz rfl rfl rfl rfl rfl rfl rfl)) (sn (SC.region ?_)))))))))
   refine sm rfl (s1 (far (k := 0) rfl wC bD rfl) (s1 (bg rfl (ah bD dH rfl rfl)) (s1 (sM (k := 2) (ds := List.map eI [v83.Col]) (off := 0) (l' := [v83.Col].length) rfl bZ xH rfl rfl (by rfl) rfl rfl rfl) (s1 (app rfl rfl rfl rfl yR (aF (f := eI) (xs := xJ) (k := 3) rfl bZ xH rfl (eY (xs := [v83.Col]) rfl) Rh rfl)) (sa rfl (SO.nil ?_))))))
   change SC _ _ _ _ _
   have q := si h3; subst q
   exact SC.region (s1 (bi rfl rfl aT) (sm rfl (SO.nil (lf (wc [3] [3] (by kernel_rfl) rfl (by kernel_rfl))))))
  ·have q := si h3; subst q; have q : _ = _ := hv3; subst q; have q := si h1; subst q
   exact SC.exit ((wq rfl))
 ·rintro HV h0
  have q := si h0; subst q
  exact sr (sm rfl (sa rfl (sn (SC.ret (bQ (Wk.trans (Wk.mM (i := 2) (x := .slc 0 1 0 HV.length none) rfl rfl (fF rfl rfl rfl)) (wc (e' := [(2, .d ((eL 1 eI) HV))]) [] [] (by kernel_rfl) rfl (by kernel_rfl))) (aZ rfl aX) rfl)))))
noncomputable def ig (p0 : Int) : Option Unit :=
 Option.bind (α := Unit)
 (bif (decide (p0 < (0 : Int))) then
 none
 else
 some ())
 fun _ =>
 Option.bind (α := Unit)
 (bif (decide ((bF (p0 - (bF ((0 : Int) - (0 : Int))))) > (0 : Int))) then
 bif decide ((0 : Int) = 0) then
 bif decide (0 < (bF (p0 - (bF ((0 : Int) - (0 : Int))))) ∧ (bF (p0 - (bF ((0 : Int) - (0 : Int))))) * 8 ≤ 140737488355328) then
 bif decide (0 ≤ (0 : Int) ∧ (0 : Int) ≤ (((bF (p0 - (bF ((0 : Int) - (0 : Int))))).toNat : Nat) : Int)) then
 some ()
 else none
 else none
 else none
 else
 some ())
 fun _ =>
 some ()
theorem xP (p0 : Int) (r : Unit) (h0 : ig p0 = some r) : aO Tryz.prog 87 [.d .dn, .d (eI p0)] [] (.slc 0 1 0 (([] : List Int).length) none) [.row 1 (List.map eI ([] : List Int)) true] := by
 unfold ig at h0
 refine fn0 [0, 1] Tryz.func87 rfl rfl rfl rfl rfl ?_
 refine sr (s1 (lX (v := .d .dn) rfl) (sn (SC.bV h0 (fun y => ⟨mk 27 [(0, .d .dn), (1, .d (eI p0))], []⟩) ?_ ?_)))
 ·intro ag4 h1
  refine sr (sm rfl (s1 (bi rfl rfl aJ) (sn (cB h1 rfl (fun h1 => ?_) (fun h1 => ?_)))))
  ·refine SC.region (s1 (mki (v := .d (eS ([99, 97, 110, 110, 111, 116, 32, 98, 101, 32, 110, 101, 103, 97, 116, 105, 118, 101] : List UInt8))) rfl ni9) ?_)
   cases h1
  ·have q := si h1; subst q
   exact SC.skip ((wq rfl))
 ·intro _ h0
  refine SC.bV h0 (fun y => ⟨mk 27 [(0, .slc 0 1 0 (([] : List Int).length) none)], [.row 1 (List.map eI ([] : List Int)) true]⟩) ?_ ?_
  ·intro abj h1
   refine sr (sm rfl (sm rfl (afI bZ wf rfl rfl rfl rfl (sm rfl (s1 (len rfl rfl rfl (len_nil bZ)) (s1 (bi rfl rfl dK) (s1 (bi rfl rfl dK) (sa rfl (sn ?_)))))))))
   refine sr (sm rfl (s1 (bi rfl rfl bM) (sn (cB h1 rfl (fun h1 => ?_) (fun h1 => ?_)))))
   ·obtain ⟨apN, h1⟩ := gd h1; obtain ⟨apM, h1⟩ := gd h1; obtain ⟨apL, h1⟩ := gd h1; have q := si h1; subst q
    refine SC.region (sm rfl (sm rfl (afI bZ wf rfl rfl rfl rfl (s1 (VU rfl rfl rfl rfl (TP bZ bD apN)) (sm rfl (aqJ (k := 0) bZ QJ xH apM wf rfl rfl rfl rfl rfl rfl rfl (sm rfl (s1 (len rfl rfl rfl (len_nil bZ)) (s1 (VU rfl rfl rfl rfl (sZ bZ bD apL)) ?_)))))))))
    exact sa rfl (SO.nil ((wq rfl)))
   ·have q := si h1; subst q
    exact SC.skip ((Wk.trans (Wk.mo (σ' := [.row 1 (List.map eI ([] : List Int)) true]) (.row 1 [] true) (fun _ hh => by cases hh) rfl) (Wk.trans (Wk.env (e' := [(0, .slc 0 1 0 (([] : List Int).length) none)]) (EW.cons (AW.mg _ _ _) EW.nil)) (wq rfl))))
  ·intro _ h0
   have q := si h0; subst q
   exact sr (sm rfl (sa rfl (sn (SC.ret (bQ (Wk.refl _) (aZ rfl aX) rfl)))))
noncomputable def fG (p0 : List (List Int)) : Option ((List Int)) :=
 Option.bind (α := Int)
 (Option.bind (α := Int)
 (loop (Y := Int × Int) (W := Int) (fun (OC, Ms) =>
 bif (decide (Ms < (p0.length : Int))) then
 Option.bind (α := Int)
 (Option.bind (bG p0 Ms) fun TF =>
 bif (decide ((bF (OC + (TF.length : Int))) < (0 : Int))) then
 none
 else
 some (bF (OC + (TF.length : Int))))
 fun Y3 =>
 some (Sum.inl (Y3, (bF (Ms + (1 : Int)))))
 else
 some (Sum.inr OC)) ((0 : Int), (0 : Int)))
 (fun e => some e))
 fun y159 =>
 Option.bind (ig y159) fun _ =>
 Option.bind (α := (List Int))
 (Option.bind (α := (List Int))
 (loop (Y := (List Int) × Int) (W := (List Int)) (fun (Mr, zK) =>
 bif (decide (zK < (p0.length : Int))) then
 Option.bind (bG p0 zK) fun v206 =>
 bif decide ((Mr.length + v206.length) * 8 ≤ room) then
 some (Sum.inl ((Mr ++ v206), (bF (zK + (1 : Int)))))
 else none
 else
 some (Sum.inr Mr)) (([] : List Int), (0 : Int)))
 (fun e => some e))
 fun Y1 =>
 some Y1
theorem vS (p0 : List (List Int)) (r : (List Int)) (h0 : fG p0 = some r) : aO Tryz.prog 48 [.d ((eL 1 (eL 1 eI)) p0)] [] (.slc 0 1 0 r.length none) [.row 1 (List.map eI r) true] := by
 unfold fG at h0
 refine fn0 [0] Tryz.func48 rfl rfl rfl rfl rfl ?_
 refine sr (s1 (lX (v := .d .dn) rfl) (sn (sr (sa rfl (sn (SC.bV h0 (fun y => ⟨mk 36 [(0, .d ((eL 1 (eL 1 eI)) p0)), (3, .d (eI y))], []⟩) ?_ ?_))))))
 ·intro aoE h1
  obtain ⟨anY, h2, h1⟩ := ob h1
  refine sr (sm rfl (s1 (len rfl rfl rfl (bC OM)) (sm rfl (sn (SC.blk (SC.dL h2 (fun y => ⟨mk 36 [(0, .d ((eL 1 (eL 1 eI)) p0)), (3, .d (eI y.1)), (9, .d ((eL 1 (eL 1 eI)) p0)), (10, .d (eI (p0.length : Int))), (11, .d (eI y.2))], []⟩) (wq rfl) ?_))))))
  intro n179
  rintro ⟨OC, Ms⟩ amv h3 hv3
  refine sr (s1 (bi rfl rfl aJ) (sn (sq (cB h3 rfl (fun h3 => ?_) (fun h3 => ?_)))))
  ·refine sk (SC.bV h3 (fun y => ⟨mk 36 [(0, .d ((eL 1 (eL 1 eI)) p0)), (3, .d (eI y)), (9, .d ((eL 1 (eL 1 eI)) p0)), (10, .d (eI (p0.length : Int))), (11, .d (eI Ms))], []⟩) ?_ ?_)
   ·intro ant h4
    obtain ⟨TF, acX, h4⟩ := ob h4
    refine SC.blk (sr (s1 (jo rfl rfl OM dQ (aj acX).1 (aY (aj acX).2) rfl) (s1 (bg rfl (bN dQ iZ rfl)) (sa rfl (sn (sr (sm rfl (sm rfl (s1 (len rfl rfl rfl (bC bZ)) ?_)))))))))
    refine s1 (bi rfl rfl aT) (sa rfl (sn (sr (sm rfl (s1 (bi rfl rfl aJ) (sn (cB h4 rfl (fun h4 => ?_) (fun h4 => ?_))))))))
    ·refine SC.region (s1 (mki (v := .d (eS ([108, 101, 110, 32, 111, 117, 116, 32, 111, 102, 32, 114, 97, 110, 103, 101] : List UInt8))) rfl ni9) ?_)
     cases h4
    ·have q := si h4; subst q
     exact SC.skip ((wq rfl))
   ·rintro Y3 h3
    have q := si h3; subst q
    exact SC.region (s1 (bi rfl rfl aT) (sm rfl (SO.nil (lf (wq rfl)))))
  ·have q := si h3; subst q; have q : _ = _ := hv3; subst q; have q := si h1; subst q
   exact SC.exit ((wq rfl))
 ·rintro y159 h0
  obtain ⟨_, aiR, h0⟩ := ob h0
  refine sr (sm rfl (cq [] [0] (xP y159 _ aiR) wf rfl rfl rfl ap7 rfl rfl rfl rfl rfl rfl rfl rfl (sa rfl (sn (SC.bV h0 (fun y => ⟨mk 36 [(6, .slc 0 1 0 y.length none)], [.row 1 (List.map eI y) true]⟩) ?_ ?_)))))
  ·intro aoA h1
   obtain ⟨anU, h2, h1⟩ := ob h1
   refine sr (sm rfl (s1 (len rfl rfl rfl (bC OM)) (sm rfl (sn (SC.blk (SC.dL h2 (fun y => ⟨mk 36 [(6, .slc 0 1 0 y.1.length none), (25, .d ((eL 1 (eL 1 eI)) p0)), (26, .d (eI (p0.length : Int))), (27, .d (eI y.2))], [.row 1 (List.map eI y.1) true]⟩) (wq rfl) ?_))))))
   intro n208
   rintro ⟨Mr, zK⟩ amr h3 hv3
   refine sr (s1 (bi rfl rfl aJ) (sn (sq (cB h3 rfl (fun h3 => ?_) (fun h3 => ?_)))))
   ·obtain ⟨v206, acV, h3⟩ := ob h3; obtain ⟨ajl, h3⟩ := gd h3
    refine sk (sq (SC.blk (sr (s1 (jo rfl rfl OM dQ (aj acV).1 (aY (aj acV).2) rfl) (s1 (bg rfl (bN dQ iZ rfl)) (sa rfl (sn (SC.region (sm rfl ?_)))))))))
    refine sm rfl (s1 (app rfl rfl rfl rfl yR (aF (f := eI) (xs := Mr) (k := 1) rfl bZ xH rfl uH ajl rfl)) (sa rfl (SO.nil ?_)))
    change SC _ _ _ _ _
    have q := si h3; subst q
    exact SC.region (s1 (bi rfl rfl aT) (sm rfl (SO.nil (lf (wc [1] [1] (by kernel_rfl) rfl (by kernel_rfl))))))
   ·have q := si h3; subst q; have q : _ = _ := hv3; subst q; have q := si h1; subst q
    exact SC.exit ((wq rfl))
  ·rintro Y1 h0
   have q := si h0; subst q
   exact sr (sm rfl (sa rfl (sn (SC.ret (bQ (Wk.refl _) (aZ rfl aX) rfl)))))
noncomputable def kI (p0 : bP) : Option ((List Int)) :=
 Option.bind (qD p0.Pred) fun QX =>
 Option.bind (fD p0) fun T9 =>
 Option.bind (fG [QX, p0.aV, T9]) fun TW =>
 Option.bind (wB TW) fun r29 =>
 Option.bind (jW r29 0 TW.length) fun r31 =>
 some r31
theorem wh (p0 : bP) (r : (List Int)) (h0 : kI p0 = some r) : aO Tryz.prog 16 [.d (bY p0)] [] (.d ((eL 1 eI) r)) [] := by
 unfold kI at h0
 refine fn0 [0] Tryz.func16 rfl rfl rfl rfl rfl ?_
 obtain ⟨QX, Xy, h0⟩ := ob h0; obtain ⟨T9, aeL, h0⟩ := ob h0; obtain ⟨TW, aeG, h0⟩ := ob h0; obtain ⟨r29, apw, h0⟩ := ob h0; obtain ⟨r31, apv, h0⟩ := ob h0; have q := si h0; subst q
 refine sr (s1 (tH (k := 0) rfl rfl rfl) (s1 (lX (v := .d .dn) rfl) (sn (sd (by kernel_rfl) (t1 ([], false) (far (k := 0) rfl yL zy rfl) rfl (t1 ([0], false) (bg rfl (ah zy MK rfl rfl)) rfl (Fa (M4 p0.Pred _ Xy) wf rfl rfl rfl aql rfl (fun _ => rfl) (fun _ => rfl) (t1 ([], false) (far (k := 1) rfl NJ dQ rfl) rfl (t1 ([0], false) (bg rfl (ah dQ iZ rfl rfl)) rfl ?_)))))))))
 refine t1 ([0], false) (bg (v := .d (bY p0)) rfl (ah Iw KJ rfl rfl)) rfl (Fa (BL p0 _ aeL) wf rfl rfl rfl ajV rfl (fun _ => rfl) (fun _ => rfl) (t1 ([1], true) (sM (k := 1) (ds := List.map (eL 1 eI) [QX, p0.aV, T9]) (off := 0) (l' := [QX, p0.aV, T9].length) rfl OM apX rfl rfl (by rfl) rfl rfl rfl) rfl (tq (args' := [.slc 0 1 0 ([QX, p0.aV, T9].length) none]) (lM := [.row 1 (List.map (eL 1 eI) [QX, p0.aV, T9]) true]) [1] [2] ([1, 2], true) (aO.mM (gQ.mM (fF rfl rfl rfl) (gQ.nil _)) (fq [] [1] (vS [QX, p0.aV, T9] _ aeG) rfl rfl rfl rfl rfl rfl rfl rfl)) wf rfl rfl rfl aqm rfl rfl rfl rfl rfl rfl rfl rfl rfl (t1 ([], false) (lX rfl) rfl (tn (by decide +kernel) (sr (sm rfl (cq [2] [] (Jy TW _ apw) wf rfl rfl rfl afD rfl rfl rfl rfl rfl rfl rfl rfl (sn ?_)))))))))
 exact sr (sm rfl (cq [2] [] (AO r29 0 TW.length _ apv) wf rfl rfl rfl afC rfl rfl rfl rfl rfl rfl rfl rfl (sa rfl (sn (SC.ret (bQ (wc (e' := [(2, .d ((eL 1 eI) r31))]) [] [] (by kernel_rfl) rfl (by kernel_rfl)) (aZ rfl aX) rfl))))))
noncomputable def pW (p0 : aI) (p1 : Int) : Option Unit :=
 some ()
theorem Ed (p0 : aI) (p1 : Int) (r : Unit) (h0 : pW p0 p1 = some r) : aO Tryz.prog 81 [.d (aR p0), .ref 0 0 0] [.box (.d (eI p1))] (.d (eB (p0.Col == p1))) [.box (.d (eI p1))] := by
 unfold pW at h0
 refine fn0 [0, 1] Tryz.func81 rfl rfl rfl rfl rfl ?_
 have q := si h0; subst q
 refine sr (s1 (tH (k := 1) rfl rfl rfl) (sa rfl (sn (sr (s1 (far (k := 0) rfl wC bD rfl) (s1 (bg rfl (ah bD dH rfl rfl)) (s1 (bg rfl (ah bD dH rfl rfl)) (s1 (bi rfl rfl aM) (sa rfl ?_)))))))))
 exact sn (SC.ret (bQ (wc (e' := [(3, .d (eB (p0.Col == p1)))]) [0] [0] (by kernel_rfl) rfl (by kernel_rfl)) (aZ rfl aX) rfl))
noncomputable def dJ (p0 : List aI) (p1 : Int) : Option Int :=
 eu (Y := Unit) (E := Int)
 (Option.bind (α := Unit ⊕ Int)
 (loop (Y := Int) (W := Unit ⊕ Int) (fun KA =>
 bif (decide (KA < (p0.length : Int))) then
 Option.bind (bG p0 KA) fun v68 =>
 Option.bind (pW v68 p1) fun _ =>
 bif (v68.Col == p1) then
 some (Sum.inr (Sum.inr KA))
 else
 some (Sum.inl (bF (KA + (1 : Int))))
 else
 some (Sum.inr (Sum.inl ()))) (0 : Int))
 (Sum.elim (fun e => some (Sum.inl e)) (fun e => some (Sum.inr e))))
 (fun _ =>
 some (-1 : Int))
 (fun e => some e)
theorem lW (p0 : List aI) (p1 : Int) (r : Int) (h0 : dJ p0 p1 = some r) : aO Tryz.prog 118 [.d ((eL 2 aR) p0), .fn (.func 81) [] [.ref 0 0 0]] [.box (.d (eI p1))] (.d (eI r)) [.box (.d (eI p1))] := by
 unfold dJ at h0
 refine fn0 [0, 1] Tryz.func118 rfl rfl rfl rfl rfl ?_
 refine sr (sa rfl (sn (SC.seqB h0 (fun y => ⟨mk 19 [], [.box (.d (eI p1))]⟩) ?_ ?_)))
 ·intro agY h1 h0
  obtain ⟨agW, h2, h1⟩ := ob h1
  refine sr (sm rfl (s1 (len rfl rfl rfl (bC jO)) (sm rfl (sn (SC.blk (SC.dL h2 (fun y => ⟨mk 19 [(0, .d ((eL 2 aR) p0)), (1, .fn (.func 81) [] [.ref 0 0 0]), (7, .d (eI (p0.length : Int))), (8, .d (eI y))], [.box (.d (eI p1))]⟩) (wq rfl) ?_))))))
  intro n70
  rintro KA agw h3 hv3
  refine sr (s1 (bi rfl rfl aJ) (sn (sq (cB h3 rfl (fun h3 => ?_) (fun h3 => ?_)))))
  ·obtain ⟨v68, WH, h3⟩ := ob h3; obtain ⟨_, apj, h3⟩ := ob h3
   refine sk (sq (SC.blk (sr (sm rfl (sa rfl (sn (sr (sm rfl (sm rfl ?_)))))))))
   refine sm rfl (s1 (jo rfl rfl jO rz (aj WH).1 (aY (aj WH).2) rfl) (s1 (bg (v := .d (aR v68)) rfl (bN rz OU rfl)) (cq [0] [] (Ed v68 p1 _ apj) wf rfl rfl rfl ap9 rfl rfl rfl rfl rfl rfl rfl rfl (sn (cB h3 rfl (fun h3 => ?_) (fun h3 => ?_))))))
   ·have q := si h3; subst q; have q : _ = _ := hv3; subst q; have q := si h1; subst q; have q := si h0; subst q
    exact sr (sm rfl (sa rfl (sn (SC.ret (bQ (Wk.refl _) (aZ rfl aX) rfl)))))
   ·refine SC.skip ?_
    change SC _ _ _ _ _
    have q := si h3; subst q
    exact SC.region (s1 (bi rfl rfl aT) (sm rfl (SO.nil (lf (wq rfl)))))
  ·have q := si h3; subst q; have q : _ = _ := hv3; subst q; have q := si h1; subst q
   exact SC.exit (lf (wq rfl))
 ·intro _ h0
  have q := si h0; subst q
  exact sr (sa rfl (sn (SC.ret (bQ (Wk.refl _) (aZ rfl aX) rfl))))
noncomputable def dA (p0 : List aI) (p1 : Int) : Option Bool :=
 Option.bind (dJ p0 p1) fun r7 =>
 some (decide (r7 ≥ (0 : Int)))
theorem kC (p0 : List aI) (p1 : Int) (r : Bool) (h0 : dA p0 p1 = some r) : aO Tryz.prog 80 [.d ((eL 2 aR) p0), .fn (.func 81) [] [.ref 0 0 0]] [.box (.d (eI p1))] (.d (eB r)) [.box (.d (eI p1))] := by
 unfold dA at h0
 refine fn0 [0, 1] Tryz.func80 rfl rfl rfl rfl rfl ?_
 obtain ⟨r7, Hr, h0⟩ := ob h0; have q := si h0; subst q
 refine sr (sa rfl (sn (sr (sm rfl (sm rfl (cq [0] [] (lW p0 p1 _ Hr) wf rfl rfl rfl akf rfl rfl rfl rfl rfl rfl rfl rfl (s1 (bi rfl rfl dW) (sa rfl (sn ?_)))))))))
 exact SC.ret (bQ (Wk.refl _) (aZ rfl aX) rfl)
noncomputable def gL (p0 : List Int) (p1 : Int) : Option Int :=
 eu (Y := Unit) (E := Int)
 (Option.bind (α := Unit ⊕ Int)
 (loop (Y := Int) (W := Unit ⊕ Int) (fun KC =>
 bif (decide (KC < (p0.length : Int))) then
 Option.bind (bG p0 KC) fun v51 =>
 bif (p1 == v51) then
 some (Sum.inr (Sum.inr KC))
 else
 some (Sum.inl (bF (KC + (1 : Int))))
 else
 some (Sum.inr (Sum.inl ()))) (0 : Int))
 (Sum.elim (fun e => some (Sum.inl e)) (fun e => some (Sum.inr e))))
 (fun _ =>
 some (-1 : Int))
 (fun e => some e)
theorem wU (p0 : List Int) (p1 : Int) (r : Int) (h0 : gL p0 p1 = some r) : aO Tryz.prog 119 [.d ((eL 1 eI) p0), .d (eI p1)] [] (.d (eI r)) [] := by
 unfold gL at h0
 refine fn0 [0, 1] Tryz.func119 rfl rfl rfl rfl rfl ?_
 refine sr (sa rfl (sn (SC.seqB h0 (fun y => ⟨mk 19 [], []⟩) ?_ ?_)))
 ·intro abg h1 h0
  obtain ⟨abf, h2, h1⟩ := ob h1
  refine sr (sm rfl (s1 (len rfl rfl rfl (bC bZ)) (sm rfl (sn (SC.blk (SC.dL h2 (fun y => ⟨mk 19 [(0, .d ((eL 1 eI) p0)), (1, .d (eI p1)), (7, .d (eI (p0.length : Int))), (8, .d (eI y))], []⟩) (wq rfl) ?_))))))
  intro n52
  rintro KC aaR h3 hv3
  refine sr (s1 (bi rfl rfl aJ) (sn (sq (cB h3 rfl (fun h3 => ?_) (fun h3 => ?_)))))
  ·obtain ⟨v51, PK, h3⟩ := ob h3
   refine sk (sq (SC.blk (sr (sm rfl (sa rfl (sn (sr (sm rfl (sm rfl ?_)))))))))
   refine sm rfl (s1 (jo rfl rfl bZ bD (aj PK).1 (aY (aj PK).2) rfl) (s1 (bg rfl (bN bD dH rfl)) (s1 (bi rfl rfl aM) (sn (cB h3 rfl (fun h3 => ?_) (fun h3 => ?_))))))
   ·have q := si h3; subst q; have q : _ = _ := hv3; subst q; have q := si h1; subst q; have q := si h0; subst q
    exact sr (sm rfl (sa rfl (sn (SC.ret (bQ (Wk.refl _) (aZ rfl aX) rfl)))))
   ·refine SC.skip ?_
    change SC _ _ _ _ _
    have q := si h3; subst q
    exact SC.region (s1 (bi rfl rfl aT) (sm rfl (SO.nil (lf (wq rfl)))))
  ·have q := si h3; subst q; have q : _ = _ := hv3; subst q; have q := si h1; subst q
   exact SC.exit (lf (wq rfl))
 ·intro _ h0
  have q := si h0; subst q
  exact sr (sa rfl (sn (SC.ret (bQ (Wk.refl _) (aZ rfl aX) rfl))))
noncomputable def dS (p0 : List Int) (p1 : Int) : Option Bool :=
 Option.bind (gL p0 p1) fun r7 =>
 some (decide (r7 ≥ (0 : Int)))
theorem l9 (p0 : List Int) (p1 : Int) (r : Bool) (h0 : dS p0 p1 = some r) : aO Tryz.prog 82 [.d ((eL 1 eI) p0), .d (eI p1)] [] (.d (eB r)) [] := by
 unfold dS at h0
 refine fn0 [0, 1] Tryz.func82 rfl rfl rfl rfl rfl ?_
 obtain ⟨r7, Hr, h0⟩ := ob h0; have q := si h0; subst q
 refine sr (sa rfl (sn (sr (sm rfl (sm rfl (c0 (wU p0 p1 _ Hr) wf rfl rfl rfl ake rfl (fun _ => rfl) (fun _ => rfl) (s1 (bi rfl rfl dW) (sa rfl (sn ?_)))))))))
 exact SC.ret (bQ (Wk.refl _) (aZ rfl aX) rfl)
noncomputable def kG (p0 : Int) (p1 : bE) (p2 : aP) : Option Bool :=
 Option.bind (dA p1.Parts p0) fun TW =>
 Option.bind (α := Bool)
 (bif (!TW) then
 Option.bind (dS p1.Extra p0) fun r35 =>
 bif (!r35) then
 Option.bind (dS p2.aH p0) fun r37 =>
 some (!r37)
 else
 some false
 else
 some false)
 fun y32 =>
 some y32
theorem Hl (p0 : Int) (p1 : bE) (p2 : aP) (r : Bool) (h0 : kG p0 p1 p2 = some r) : aO Tryz.prog 79 [.d (eI p0), .ref 0 0 0, .ref 1 0 0] [.box (.d (bH p1)), .box (.d (aK p2))] (.d (eB r)) [.box (.d (bH p1)), .box (.d (aK p2))] := by
 unfold kG at h0
 refine fn0 [0, 1, 2] Tryz.func79 rfl rfl rfl rfl rfl ?_
 obtain ⟨TW, aeG, h0⟩ := ob h0
 refine sr (s1 (tH (k := 2) rfl rfl rfl) (sa rfl (sn (sr (s1 (far (k := 1) rfl lI iG rfl) (s1 (bg rfl (ah iG rC rfl rfl)) (s1 (mkf rfl rfl) (cq [2] [] (kC p1.Parts p0 _ aeG) wf rfl rfl rfl aqa rfl rfl rfl rfl rfl rfl rfl rfl (sa rfl ?_)))))))))
 refine sn (SC.bV h0 (fun y => ⟨mk 26 [(4, .d (eB y))], [.box (.d (bH p1)), .box (.d (aK p2))]⟩) ?_ ?_)
 ·intro ag2 h1
  refine SC.region (sm rfl (s1 (nt rfl) (sm rfl (sp h1 (fun h1 => ?_) (fun h1 => ?_)))))
  ·obtain ⟨r35, apu, h1⟩ := ob h1
   refine gw rfl (far (k := 2) rfl wE dQ rfl) (gw rfl (bg rfl (ah dQ iZ rfl rfl)) (gw rfl (bg rfl (ah bD dH rfl rfl)) (c0 (l9 p1.Extra p0 _ apu) (ww rfl) rfl rfl rfl ajL rfl (fun _ => rfl) (fun _ => rfl) (gw rfl (nt rfl) (s1 (pkt rfl rfl) (sm rfl (sp h1 (fun h1 => ?_) (fun h1 => ?_))))))))
   ·obtain ⟨r37, aeE, h1⟩ := ob h1; have q := si h1; subst q
    exact gw rfl (far (k := 2) rfl nI dQ rfl) (gw rfl (bg rfl (ah dQ iZ rfl rfl)) (gw rfl (bg rfl (ah bD dH rfl rfl)) (c0 (l9 p2.aH p0 _ aeE) (ww rfl) rfl rfl rfl ajL rfl (fun _ => rfl) (fun _ => rfl) (gw rfl (nt rfl) (s1 (pkt rfl rfl) (sa rfl (SO.nil ((wc [0, 1] [0, 1] (by kernel_rfl) rfl (by kernel_rfl))))))))))
   ·have q := si h1; subst q
    exact kw rfl (kw rfl (kw rfl (kw rfl (kw rfl (s1 (dx rfl rfl) (sa rfl (SO.nil ((wc [0, 1] [0, 1] (by kernel_rfl) rfl (by kernel_rfl))))))))))
  ·have q := si h1; subst q
   refine kw rfl (kw rfl (kw rfl (kw rfl (kw rfl (s1 (dx rfl rfl) (sm rfl (kw rfl (kw rfl (kw rfl ?_)))))))))
   exact kw rfl (kw rfl (s1 (dx rfl rfl) (sa rfl (SO.nil ((wc [0, 1] [0, 1] (by kernel_rfl) rfl (by kernel_rfl)))))))
 ·rintro y32 h0
  have q := si h0; subst q
  exact SC.ret (bQ (Wk.refl _) (aZ rfl aX) rfl)
noncomputable def eP (p0 : List Int) (p1 : bE) (p2 : aP) : Option Int :=
 eu (Y := Unit) (E := Int)
 (Option.bind (α := Unit ⊕ Int)
 (loop (Y := Int) (W := Unit ⊕ Int) (fun uY =>
 bif (decide (uY < (p0.length : Int))) then
 Option.bind (bG p0 uY) fun v85 =>
 Option.bind (kG v85 p1 p2) fun Hf =>
 bif Hf then
 some (Sum.inr (Sum.inr uY))
 else
 some (Sum.inl (bF (uY + (1 : Int))))
 else
 some (Sum.inr (Sum.inl ()))) (0 : Int))
 (Sum.elim (fun e => some (Sum.inl e)) (fun e => some (Sum.inr e))))
 (fun _ =>
 some (-1 : Int))
 (fun e => some e)
theorem rE (p0 : List Int) (p1 : bE) (p2 : aP) (r : Int) (h0 : eP p0 p1 p2 = some r) : aO Tryz.prog 67 [.d ((eL 1 eI) p0), .fn (.func 79) [] [.ref 0 0 0, .ref 1 0 0]] [.box (.d (bH p1)), .box (.d (aK p2))] (.d (eI r)) [.box (.d (bH p1)), .box (.d (aK p2))] := by
 unfold eP at h0
 refine fn0 [0, 1] Tryz.func67 rfl rfl rfl rfl rfl ?_
 refine sr (sa rfl (sn (SC.seqB h0 (fun y => ⟨mk 19 [], [.box (.d (bH p1)), .box (.d (aK p2))]⟩) ?_ ?_)))
 ·intro OO h1 h0
  obtain ⟨Sw, h2, h1⟩ := ob h1
  refine sr (sm rfl (s1 (len rfl rfl rfl (bC bZ)) (sm rfl (sn (SC.blk (SC.dL h2 (fun y => ⟨mk 19 [(0, .d ((eL 1 eI) p0)), (1, .fn (.func 79) [] [.ref 0 0 0, .ref 1 0 0]), (7, .d (eI (p0.length : Int))), (8, .d (eI y))], [.box (.d (bH p1)), .box (.d (aK p2))]⟩) (wq rfl) ?_))))))
  intro n88
  rintro uY Sj h3 hv3
  refine sr (s1 (bi rfl rfl aJ) (sn (sq (cB h3 rfl (fun h3 => ?_) (fun h3 => ?_)))))
  ·obtain ⟨v85, EC, h3⟩ := ob h3; obtain ⟨Hf, JD, h3⟩ := ob h3
   refine sk (sq (SC.blk (sr (sm rfl (sa rfl (sn (sr (sm rfl (sm rfl ?_)))))))))
   refine sm rfl (s1 (jo rfl rfl bZ bD (aj EC).1 (aY (aj EC).2) rfl) (s1 (bg rfl (bN bD dH rfl)) (cq [0, 1] [] (Hl v85 p1 p2 _ JD) wf rfl rfl rfl aqb rfl rfl rfl rfl rfl rfl rfl rfl (sn (cB h3 rfl (fun h3 => ?_) (fun h3 => ?_))))))
   ·have q := si h3; subst q; have q : _ = _ := hv3; subst q; have q := si h1; subst q; have q := si h0; subst q
    exact sr (sm rfl (sa rfl (sn (SC.ret (bQ (Wk.refl _) (aZ rfl aX) rfl)))))
   ·refine SC.skip ?_
    change SC _ _ _ _ _
    have q := si h3; subst q
    exact SC.region (s1 (bi rfl rfl aT) (sm rfl (SO.nil (lf (wq rfl)))))
  ·have q := si h3; subst q; have q : _ = _ := hv3; subst q; have q := si h1; subst q
   exact SC.exit (lf (wq rfl))
 ·intro _ h0
  have q := si h0; subst q
  exact sr (sa rfl (sn (SC.ret (bQ (Wk.refl _) (aZ rfl aX) rfl))))
noncomputable def dU (p0 : List Int) (p1 : bE) (p2 : aP) : Option Bool :=
 Option.bind (eP p0 p1 p2) fun r7 =>
 some (decide (r7 ≥ (0 : Int)))
theorem pI (p0 : List Int) (p1 : bE) (p2 : aP) (r : Bool) (h0 : dU p0 p1 p2 = some r) : aO Tryz.prog 36 [.d ((eL 1 eI) p0), .fn (.func 79) [] [.ref 0 0 0, .ref 1 0 0]] [.box (.d (bH p1)), .box (.d (aK p2))] (.d (eB r)) [.box (.d (bH p1)), .box (.d (aK p2))] := by
 unfold dU at h0
 refine fn0 [0, 1] Tryz.func36 rfl rfl rfl rfl rfl ?_
 obtain ⟨r7, Hr, h0⟩ := ob h0; have q := si h0; subst q
 refine sr (sa rfl (sn (sr (sm rfl (sm rfl (cq [0, 1] [] (rE p0 p1 p2 _ Hr) wf rfl rfl rfl afx rfl rfl rfl rfl rfl rfl rfl rfl (s1 (bi rfl rfl dW) (sa rfl (sn ?_)))))))))
 exact SC.ret (bQ (Wk.refl _) (aZ rfl aX) rfl)
noncomputable def ou (p0 : aP) (p1 : bE) (p2 : List Int) : Option Bool :=
 Option.bind (dU p2 p1 p0) fun r7 =>
 some (!r7)
theorem K3 (p0 : aP) (p1 : bE) (p2 : List Int) (r : Bool) (h0 : ou p0 p1 p2 = some r) : aO Tryz.prog 45 [.d (aK p0), .d (bH p1), .d ((eL 1 eI) p2)] [] (.d (eB r)) [] := by
 unfold ou at h0
 refine fn0 [0, 1, 2] Tryz.func45 rfl rfl rfl rfl rfl ?_
 obtain ⟨r7, Hr, h0⟩ := ob h0; have q := si h0; subst q
 refine sr (s1 (tH (k := 0) rfl rfl rfl) (s1 (tH (k := 1) rfl rfl rfl) (sa rfl (sn (sr (sm rfl (s1 (mkf rfl rfl) (cq [1, 0] [] (pI p2 p1 p0 _ Hr) wf rfl rfl rfl afE rfl rfl rfl rfl rfl rfl rfl rfl (s1 (nt rfl) ?_)))))))))
 exact sa rfl (sn (SC.ret (bQ (wc (e' := [(6, .d (eB (!r7)))]) [] [] (by kernel_rfl) rfl (by kernel_rfl)) (aZ rfl aX) rfl)))
end Lv
