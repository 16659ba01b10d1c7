/- Part of the proof of a law: functions and their walks. -/
import Derived.Test.YtddopjhkmkoicaaGreatDoorXPrims
namespace Lv
open Go Go.Proofs
set_option linter.unusedVariables false
set_option linter.unusedSimpArgs false
set_option linter.unusedSectionVars false
set_option maxRecDepth 100000
variable [BaseTab] [TabOk]
noncomputable def schema_up (p0 : List Int) : Option ((List ApiPart)) :=
 Option.bind (α := (List ApiPart))
 (Option.bind (α := (List ApiPart))
 (loop (Y := (List ApiPart) × Int) (W := (List ApiPart)) (fun (y75, y76) =>
 bif (decide (y76 < (p0.length : Int))) then
 Option.bind (getI p0 y76) fun v83 =>
 bif decide ((y75.length + [(ApiPart.mk v83 false)].length) * 16 ≤ room) then
 some (Sum.inl ((y75 ++ [(ApiPart.mk v83 false)]), (w64 (y76 + (1 : Int)))))
 else none
 else
 some (Sum.inr y75)) (([] : List ApiPart), (0 : Int)))
 (fun e => some e))
 fun y71 =>
 some y71
theorem schema_up_ok (p0 : List Int) (r : (List ApiPart)) (h0 : schema_up p0 = some r) : CallAt Tryz.prog 78 [.d ((eL 1 eI) p0)] [] (.d ((eL 2 eApiPart) r)) [] := by
 unfold schema_up at h0
 refine fn0 [0] Tryz.func78 rfl rfl rfl rfl rfl ?_
 refine sr (s1 (asg (v := .d .nils) rfl) (sn (sr (s1 (asg (v := .d .nils) rfl) (sn (SC.seqP h0 (fun y => ⟨mk 19 [(3, .slc 0 2 0 y.length none)], [.row 2 (List.map eApiPart y) true]⟩) ?_ ?_))))))
 ·intro u1_72 h1
  obtain ⟨u2_82, h2, h1⟩ := ob h1
  refine sr (sm rfl (s1 (len rfl rfl rfl (len_lst un23)) (sm rfl (sn (SC.blk (SC.loopB h2 (fun y => ⟨mk 19 [(3, .slc 0 2 0 y.1.length none), (6, .d ((eL 1 eI) p0)), (7, .d (eI (p0.length : Int))), (8, .d (eI y.2))], [.row 2 (List.map eApiPart y.1) true]⟩) (Wk.trans (Wk.pushE (σ' := [.row 2 (List.map eApiPart ([] : List ApiPart)) true]) (.row 2 [] true) (fun _ hh => by cases hh) rfl) (Wk.trans (Wk.env (e' := [(3, .slc 0 2 0 (([] : List ApiPart).length) none), (6, .d ((eL 1 eI) p0)), (7, .d (eI (p0.length : Int))), (8, .d (eI (0 : Int)))]) (EW.cons (AW.slcn _ _ _) (EW.cons (AW.refl _) (EW.cons (AW.refl _) (EW.cons (AW.refl _) EW.nil))))) (wq rfl))) ?_))))))
  intro n85
  rintro ⟨y75, y76⟩ w2_81 h3 hv3
  refine sr (s1 (bi rfl rfl q_i64_lss) (sn (sq (cB h3 rfl (fun h3 => ?_) (fun h3 => ?_)))))
  ·obtain ⟨v83, hv83, h3⟩ := ob h3; obtain ⟨hg84, h3⟩ := gd h3
   refine sk (sq (SC.blk (sr (s1 (ial rfl rfl un23 ts3 (getI_some hv83).1 (map_get (getI_some hv83).2) rfl) (s1 (lod rfl (ld_rop ts3 ta3 rfl)) (sa rfl (sn (SC.region (sm rfl ?_)))))))))
   refine sm rfl (s1 (bld rfl (bd79_0 v83)) (s1 (bsn (k := 1) (ds := List.map eApiPart [(ApiPart.mk v83 false)]) (off := 0) (l' := [(ApiPart.mk v83 false)].length) rfl un80 ei79 rfl rfl (by rfl) rfl rfl rfl) (s1 (app rfl rfl rfl rfl bc80 (aF (f := eApiPart) (xs := y75) (k := 2) rfl un80 ei79 rfl (el_full (xs := [(ApiPart.mk v83 false)]) rfl) hg84 rfl)) (sa rfl (SO.nil ?_)))))
   change SC _ _ _ _ _
   have q := si h3; subst q
   exact SC.region (s1 (bi rfl rfl q_i64_add) (sm rfl (SO.nil (lf (wc [2] [2] (by kernel_rfl) rfl (by kernel_rfl))))))
  ·have q := si h3; subst q; have q : _ = _ := hv3; subst q; have q := si h1; subst q
   exact SC.exit ((wq rfl))
 ·rintro y71 h0
  have q := si h0; subst q
  exact sr (sm rfl (sa rfl (sn (SC.ret (finR (Wk.trans (Wk.frz (i := 2) (x := .slc 0 2 0 y71.length none) rfl rfl (fF rfl rfl rfl)) (wc (e' := [(2, .d ((eL 2 eApiPart) y71))]) [] [] (by kernel_rfl) rfl (by kernel_rfl))) (lresT rfl lresN) rfl)))))
noncomputable def value_Name (p0 : List UInt8) : Option Bool :=
 Option.bind (α := Bool)
 (bif (p0 == ([] : List UInt8)) then
 some true
 else
 some (decide ((p0.length : Int) > (16 : Int))))
 fun y88 =>
 bif y88 then
 some false
 else
 bindE (Y := Unit) (E := Bool)
 (Option.bind (α := Unit ⊕ Bool)
 (loop (Y := Int) (W := Unit ⊕ Bool) (fun y116 =>
 bif (decide (y116 < (p0.length : Int))) then
 Option.bind (getI p0 y116) fun v125 =>
 Option.bind (α := Bool)
 (bif (decide ((97 : UInt8) ≤ v125)) then
 some (decide (v125 ≤ (122 : UInt8)))
 else
 some false)
 fun y126 =>
 Option.bind (α := Bool)
 (bif (!y126) then
 bif (y116 == (0 : Int)) then
 some true
 else
 bif (v125 != (95 : UInt8)) then
 bif (decide (v125 < (48 : UInt8))) then
 some true
 else
 some (decide ((57 : UInt8) < v125))
 else
 some false
 else
 some false)
 fun y128 =>
 bif y128 then
 some (Sum.inr (Sum.inr false))
 else
 some (Sum.inl (w64 (y116 + (1 : Int))))
 else
 some (Sum.inr (Sum.inl ()))) (0 : Int))
 (Sum.elim (fun e => some (Sum.inl e)) (fun e => some (Sum.inr e))))
 (fun _ =>
 some true)
 (fun e => some e)
theorem value_Name_ok (p0 : List UInt8) (r : Bool) (h0 : value_Name p0 = some r) : CallAt Tryz.prog 113 [.d (eS p0)] [] (.d (eB r)) [] := by
 unfold value_Name at h0
 refine fn0 [0] Tryz.func113 rfl rfl rfl rfl rfl ?_
 refine sr (sa rfl (sn (sq (SC.seqP h0 (fun y => ⟨mk 46 [(0, .d (eS p0)), (12, .d (eB y))], []⟩) ?_ ?_))))
 ·intro u1_89 h1
  refine SC.region (sm rfl (s1 (bi rfl rfl (q_str_eql (b := ([] : List UInt8)))) (sm rfl (sp h1 (fun h1 => ?_) (fun h1 => ?_)))))
  ·have q := si h1; subst q
   exact kw rfl (kw rfl (kw rfl (s1 (pkt rfl rfl) (SO.nil ((wq rfl))))))
  ·have q := si h1; subst q
   exact gw rfl (mv rfl) (gw rfl (len rfl rfl rfl (len_str un9)) (gw rfl (bi rfl rfl q_i64_gtr) (s1 (pkf rfl rfl) (SO.nil ((wq rfl))))))
 ·rintro y88 h0
  refine cB h0 rfl (fun h0 => ?_) (fun h0 => ?_)
  ·have q := si h0; subst q
   exact sr (sa rfl (sn (SC.ret (finR (Wk.refl _) (lresT rfl lresN) rfl))))
  ·refine sk (SC.seqB h0 (fun y => ⟨mk 46 [], []⟩) ?_ ?_)
   ·intro u1_110 h1 h0
    obtain ⟨u2_124, h2, h1⟩ := ob h1
    refine sr (sm rfl (s1 (len rfl rfl rfl (len_str un9)) (sm rfl (sn (SC.blk (SC.loopB h2 (fun y => ⟨mk 46 [(0, .d (eS p0)), (14, .d (eI (p0.length : Int))), (15, .d (eI y))], []⟩) (wq rfl) ?_))))))
    intro n130
    rintro y116 w2_123 h3 hv3
    refine sr (s1 (bi rfl rfl q_i64_lss) (sn (sq (cB h3 rfl (fun h3 => ?_) (fun h3 => ?_)))))
    ·obtain ⟨v125, hv125, h3⟩ := ob h3
     refine sk (sq (SC.blk (sr (sm rfl (sa rfl (sn (sr (sm rfl (sm rfl ?_)))))))))
     refine s1 (ixs rfl rfl rfl rfl (ix_str un9 (getI_some hv125).1 (getI_some hv125).2)) (sa rfl (sn (SC.seqP h3 (fun y => ⟨mk 46 [(0, .d (eS p0)), (3, .d (eI y116)), (4, .d (eU8 v125)), (5, .d (eB y)), (14, .d (eI (p0.length : Int))), (15, .d (eI y116))], []⟩) ?_ ?_)))
     ·intro u4_127 h4
      refine SC.region (sm rfl (s1 (bi rfl rfl (q_u8_geq (b := (97 : UInt8)))) (sm rfl (sp h4 (fun h4 => ?_) (fun h4 => ?_)))))
      ·have q := si h4; subst q
       exact gw rfl (mv rfl) (gw rfl (bi rfl rfl (q_u8_leq (b := (122 : UInt8)))) (s1 (pkt rfl rfl) (sa rfl (SO.nil ((wq rfl))))))
      ·have q := si h4; subst q
       exact kw rfl (kw rfl (s1 (pkf rfl rfl) (sa rfl (SO.nil ((wq rfl))))))
     ·rintro y126 h3
      refine SC.seqP h3 (fun y => ⟨mk 46 [(0, .d (eS p0)), (14, .d (eI (p0.length : Int))), (15, .d (eI y116)), (44, .d (eB y))], []⟩) ?_ ?_
      ·intro u4_129 h4
       refine SC.region (sm rfl (s1 (nt rfl) (sm rfl (sp h4 (fun h4 => ?_) (fun h4 => ?_)))))
       ·refine gw rfl (mv rfl) (gw rfl (bi rfl rfl q_i64_eql) (gw rfl (mv rfl) (sp h4 (fun h4 => ?_) (fun h4 => ?_))))
        ·have q := si h4; subst q
         refine kw rfl (kw rfl (kw rfl (kw rfl (kw rfl (kw rfl (kw rfl (kw rfl (kw rfl (kw rfl ?_)))))))))
         exact gw rfl (pkt rfl rfl) (s1 (pkt rfl rfl) (SO.nil ((wq rfl))))
        ·refine gw rfl (mv rfl) (gw rfl (bi rfl rfl (q_u8_neq (b := (95 : UInt8)))) (gw rfl (mv rfl) (sp h4 (fun h4 => ?_) (fun h4 => ?_))))
         ·refine gw rfl (mv rfl) (gw rfl (bi rfl rfl (q_u8_lss (b := (48 : UInt8)))) (gw rfl (mv rfl) (sp h4 (fun h4 => ?_) (fun h4 => ?_))))
          ·have q := si h4; subst q
           exact kw rfl (kw rfl (gw rfl (pkt rfl rfl) (gw rfl (pkt rfl rfl) (gw rfl (pkf rfl rfl) (s1 (pkt rfl rfl) (SO.nil ((wq rfl))))))))
          ·have q := si h4; subst q
           exact gw rfl (mv rfl) (gw rfl (bi rfl rfl (q_u8_gtr (b := (57 : UInt8)))) (gw rfl (pkf rfl rfl) (gw rfl (pkt rfl rfl) (gw rfl (pkf rfl rfl) (s1 (pkt rfl rfl) (SO.nil ((wq rfl))))))))
         ·have q := si h4; subst q
          refine kw rfl (kw rfl (kw rfl (kw rfl (kw rfl (kw rfl (gw rfl (pkf rfl rfl) (gw rfl (pkf rfl rfl) (s1 (pkt rfl rfl) (SO.nil ?_)))))))))
          exact (wq rfl)
       ·have q := si h4; subst q
        refine kw rfl (kw rfl (kw rfl (kw rfl (kw rfl (kw rfl (kw rfl (kw rfl (kw rfl (kw rfl ?_)))))))))
        exact kw rfl (kw rfl (kw rfl (kw rfl (s1 (pkf rfl rfl) (SO.nil ((wq rfl)))))))
      ·rintro y128 h3
       refine cB h3 rfl (fun h3 => ?_) (fun h3 => ?_)
       ·have q := si h3; subst q; have q : _ = _ := hv3; subst q; have q := si h1; subst q; have q := si h0; subst q
        exact sr (sa rfl (sn (SC.ret (finR (Wk.refl _) (lresT rfl lresN) rfl))))
       ·refine SC.skip ?_
        change SC _ _ _ _ _
        have q := si h3; subst q
        exact SC.region (s1 (bi rfl rfl q_i64_add) (sm rfl (SO.nil (lf (wq rfl)))))
    ·have q := si h3; subst q; have q : _ = _ := hv3; subst q; have q := si h1; subst q
     exact SC.exit (lf (wq rfl))
   ·intro _ h0
    have q := si h0; subst q
    exact sr (sa rfl (sn (SC.ret (finR (Wk.refl _) (lresT rfl lresN) rfl))))
noncomputable def value_long (p0 : Int) : Option Bool :=
 Option.bind (α := Bool)
 (bif (p0 == (4 : Int)) then
 some true
 else
 some (p0 == (5 : Int)))
 fun y6 =>
 some y6
theorem value_long_ok (p0 : Int) (r : Bool) (h0 : value_long p0 = some r) : CallAt Tryz.prog 114 [.d (eI p0)] [] (.d (eB r)) [] := by
 unfold value_long at h0
 refine fn0 [0] Tryz.func114 rfl rfl rfl rfl rfl ?_
 refine sr (sa rfl (sn (SC.seqP h0 (fun y => ⟨mk 9 [(2, .d (eB y))], []⟩) ?_ ?_)))
 ·intro u1_7 h1
  refine SC.region (sm rfl (s1 (bi rfl rfl q_i64_eql) (sm rfl (sp h1 (fun h1 => ?_) (fun h1 => ?_)))))
  ·have q := si h1; subst q
   exact kw rfl (kw rfl (s1 (pkt rfl rfl) (sa rfl (SO.nil ((wq rfl))))))
  ·have q := si h1; subst q
   exact gw rfl (mv rfl) (gw rfl (bi rfl rfl q_i64_eql) (s1 (pkf rfl rfl) (sa rfl (SO.nil ((wq rfl))))))
 ·rintro y6 h0
  have q := si h0; subst q
  exact SC.ret (finR (Wk.refl _) (lresT rfl lresN) rfl)
noncomputable def value_Valid (p0 : ApiValue) : Option Bool :=
 bif (p0.Kind == (0 : Int)) then
 some (eqApiValue p0 (ApiValue.mk (0 : Int) (0 : UInt64) ([] : List UInt8)))
 else
 Option.bind (α := Bool)
 (bif (p0.Kind == (1 : Int)) then
 some (p0.Kind == (1 : Int))
 else
 some (p0.Kind == (2 : Int)))
 fun y26 =>
 bif y26 then
 some (p0.S == ([] : List UInt8))
 else
 bif (p0.Kind == (3 : Int)) then
 Option.bind (α := Bool)
 (bif (decide (p0.N ≤ (1 : UInt64))) then
 some (p0.S == ([] : List UInt8))
 else
 some false)
 fun y28 =>
 some y28
 else
 bif (p0.Kind == (4 : Int)) then
 Option.bind (α := Bool)
 (bif (p0.N == (0 : UInt64)) then
 some (decide ((p0.S.length : Int) ≤ (64 : Int)))
 else
 some false)
 fun y30 =>
 some y30
 else
 bif (p0.Kind == (5 : Int)) then
 Option.bind (α := Bool)
 (bif (p0.N == (0 : UInt64)) then
 bif (decide ((p0.S.length : Int) ≤ (64 : Int))) then
 Option.bind (validF p0.S) fun r37 =>
 some r37
 else
 some false
 else
 some false)
 fun y34 =>
 some y34
 else
 some false
theorem value_Valid_ok (p0 : ApiValue) (r : Bool) (h0 : value_Valid p0 = some r) : CallAt Tryz.prog 119 [.d (eApiValue p0)] [] (.d (eB r)) [] := by
 unfold value_Valid at h0
 refine fn0 [0] Tryz.func119 rfl rfl rfl rfl rfl ?_
 refine sr (s1 (bxo (k := 0) rfl rfl rfl) (sa rfl (sn (sq (sr (s1 (far (k := 0) rfl fo68_0 ts3 rfl) (s1 (lod rfl (ld_box ts3 ta3 rfl rfl)) (sn (SC.blk ?_)))))))))
 refine sr (s1 (bi rfl rfl q_i64_eql) (sa rfl (sn (cB h0 rfl (fun h0 => ?_) (fun h0 => ?_)))))
 ·have q := si h0; subst q
  exact sr (s1 (lod (v := .d (eApiValue p0)) rfl (ld_box ts68 ta68 rfl rfl)) (s1 (bld rfl (bd68_ )) (s1 (bi (v := .d (eB (eqApiValue p0 (ApiValue.mk (0 : Int) (0 : UInt64) ([] : List UInt8))))) rfl rfl (fun X Y => eqApiValue_eql_68 X Y p0 (ApiValue.mk (0 : Int) (0 : UInt64) ([] : List UInt8)))) (sa rfl (sn (SC.ret (finR (wc (e' := [(2, .d (eB (eqApiValue p0 (ApiValue.mk (0 : Int) (0 : UInt64) ([] : List UInt8)))))]) [] [] (by kernel_rfl) rfl (by kernel_rfl)) (lresT rfl lresN) rfl)))))))
 ·refine SC.seqP h0 (fun y => ⟨mk 53 [(1, .ref 0 0 0), (4, .d (eI p0.Kind)), (10, .d (eB y))], [.box (.d (eApiValue p0))]⟩) ?_ ?_
  ·intro u1_27 h1
   refine sr (s1 (bi rfl rfl q_i64_eql) (sa rfl (sn (cB h1 rfl (fun h1 => ?_) (fun h1 => ?_)))))
   ·have q := si h1; subst q
    exact SC.skip ((wq rfl))
   ·have q := si h1; subst q
    exact SC.region (s1 (bi rfl rfl q_i64_eql) (sa rfl (SO.nil ((wq rfl)))))
  ·rintro y26 h0
   refine cB h0 rfl (fun h0 => ?_) (fun h0 => ?_)
   ·have q := si h0; subst q
    exact sr (s1 (far (k := 2) rfl fo68_2 ts9 rfl) (s1 (lod rfl (ld_box ts9 ta9 rfl rfl)) (s1 (bi rfl rfl (q_str_eql (b := ([] : List UInt8)))) (sa rfl (sn (SC.ret (finR (wc (e' := [(2, .d (eB (p0.S == ([] : List UInt8))))]) [] [] (by kernel_rfl) rfl (by kernel_rfl)) (lresT rfl lresN) rfl)))))))
   ·refine sr (s1 (bi rfl rfl q_i64_eql) (sa rfl (sn (cB h0 rfl (fun h0 => ?_) (fun h0 => ?_)))))
    ·refine SC.seqP h0 (fun y => ⟨mk 53 [(2, .d (eB y))], []⟩) ?_ ?_
     ·intro u1_29 h1
      refine SC.region (s1 (far (k := 1) rfl fo68_1 ts54 rfl) (s1 (lod rfl (ld_box ts54 ta54 rfl rfl)) (s1 (bi rfl rfl (q_u64_leq (b := (1 : UInt64)))) (sm rfl (sp h1 (fun h1 => ?_) (fun h1 => ?_))))))
      ·have q := si h1; subst q
       exact gw rfl (far (k := 2) rfl fo68_2 ts9 rfl) (gw rfl (lod rfl (ld_box ts9 ta9 rfl rfl)) (gw rfl (bi rfl rfl (q_str_eql (b := ([] : List UInt8)))) (s1 (pkt rfl rfl) (sa rfl (SO.nil ((wc [] [] (by kernel_rfl) rfl (by kernel_rfl))))))))
      ·have q := si h1; subst q
       exact kw rfl (kw rfl (kw rfl (s1 (pkf rfl rfl) (sa rfl (SO.nil ((wc [] [] (by kernel_rfl) rfl (by kernel_rfl))))))))
     ·rintro y28 h0
      have q := si h0; subst q
      exact SC.ret (finR (Wk.refl _) (lresT rfl lresN) rfl)
    ·refine sr (s1 (bi rfl rfl q_i64_eql) (sa rfl (sn (cB h0 rfl (fun h0 => ?_) (fun h0 => ?_)))))
     ·refine SC.seqP h0 (fun y => ⟨mk 53 [(2, .d (eB y))], []⟩) ?_ ?_
      ·intro u1_31 h1
       refine SC.region (s1 (far (k := 1) rfl fo68_1 ts54 rfl) (s1 (lod rfl (ld_box ts54 ta54 rfl rfl)) (s1 (bi rfl rfl (q_u64_eql (b := (0 : UInt64)))) (sm rfl (sp h1 (fun h1 => ?_) (fun h1 => ?_))))))
       ·have q := si h1; subst q
        exact gw rfl (far (k := 2) rfl fo68_2 ts9 rfl) (gw rfl (lod rfl (ld_box ts9 ta9 rfl rfl)) (gw rfl (len rfl rfl rfl (len_str un9)) (gw rfl (bi rfl rfl q_i64_leq) (s1 (pkt rfl rfl) (sa rfl (SO.nil ((wc [] [] (by kernel_rfl) rfl (by kernel_rfl)))))))))
       ·have q := si h1; subst q
        exact kw rfl (kw rfl (kw rfl (kw rfl (s1 (pkf rfl rfl) (sa rfl (SO.nil ((wc [] [] (by kernel_rfl) rfl (by kernel_rfl)))))))))
      ·rintro y30 h0
       have q := si h0; subst q
       exact SC.ret (finR (Wk.refl _) (lresT rfl lresN) rfl)
     ·refine sr (s1 (bi rfl rfl q_i64_eql) (sa rfl (sn (cB h0 rfl (fun h0 => ?_) (fun h0 => ?_)))))
      ·refine SC.seqP h0 (fun y => ⟨mk 53 [(2, .d (eB y))], []⟩) ?_ ?_
       ·intro u1_35 h1
        refine SC.region (s1 (far (k := 1) rfl fo68_1 ts54 rfl) (s1 (lod rfl (ld_box ts54 ta54 rfl rfl)) (s1 (bi rfl rfl (q_u64_eql (b := (0 : UInt64)))) (sm rfl (sp h1 (fun h1 => ?_) (fun h1 => ?_))))))
        ·refine gw rfl (far (k := 2) rfl fo68_2 ts9 rfl) (gw rfl (lod rfl (ld_box ts9 ta9 rfl rfl)) (gw rfl (len rfl rfl rfl (len_str un9)) (gw rfl (bi rfl rfl q_i64_leq) (s1 (pkt rfl rfl) (sm rfl (sp h1 (fun h1 => ?_) (fun h1 => ?_)))))))
         ·obtain ⟨r37, hq36, h1⟩ := ob h1; have q := si h1; subst q
          exact gw rfl (far (k := 2) rfl fo68_2 ts9 rfl) (gw rfl (lod rfl (ld_box ts9 ta9 rfl rfl)) (c0 (valid_ok p0.S _ hq36) (ww rfl) rfl rfl rfl cb130 rfl (fun _ => rfl) (fun _ => rfl) (s1 (pkt rfl rfl) (sa rfl (SO.nil ((wc [] [] (by kernel_rfl) rfl (by kernel_rfl))))))))
         ·have q := si h1; subst q
          exact kw rfl (kw rfl (kw rfl (s1 (pkf rfl rfl) (sa rfl (SO.nil ((wc [] [] (by kernel_rfl) rfl (by kernel_rfl))))))))
        ·have q := si h1; subst q
         refine kw rfl (kw rfl (kw rfl (kw rfl (s1 (pkf rfl rfl) (sm rfl (kw rfl (kw rfl (kw rfl (s1 (pkf rfl rfl) ?_)))))))))
         exact sa rfl (SO.nil ((wc [] [] (by kernel_rfl) rfl (by kernel_rfl))))
       ·rintro y34 h0
        have q := si h0; subst q
        exact SC.ret (finR (Wk.refl _) (lresT rfl lresN) rfl)
      ·refine SC.skip ?_
       change SC _ _ _ _ _
       have q := si h0; subst q
       exact sr (sa rfl (sn (SC.ret (finR (wc (e' := [(2, .d (eB false))]) [] [] (by kernel_rfl) rfl (by kernel_rfl)) (lresT rfl lresN) rfl))))
noncomputable def value_Fits (p0 : ApiColumn) (p1 : ApiValue) : Option Int :=
 Option.bind (value_Valid p1) fun r19 =>
 bif (!r19) then
 some (8 : Int)
 else
 bif (p1.Kind == (0 : Int)) then
 bif p0.Nulls then
 some (0 : Int)
 else
 some (8 : Int)
 else
 bif (p1.Kind != p0.Kind) then
 some (8 : Int)
 else
 Option.bind (α := Bool)
 (Option.bind (value_long p1.Kind) fun r25 =>
 bif r25 then
 some (decide ((p1.S.length : Int) > p0.Max))
 else
 some false)
 fun y22 =>
 bif y22 then
 some (7 : Int)
 else
 some (0 : Int)
theorem value_Fits_ok (p0 : ApiColumn) (p1 : ApiValue) (r : Int) (h0 : value_Fits p0 p1 = some r) : CallAt Tryz.prog 96 [.d (eApiColumn p0), .d (eApiValue p1)] [] (.d (eI r)) [] := by
 unfold value_Fits at h0
 refine fn0 [0, 1] Tryz.func96 rfl rfl rfl rfl rfl ?_
 obtain ⟨r19, hq18, h0⟩ := ob h0
 refine sr (s1 (bxo (k := 0) rfl rfl rfl) (s1 (bxo (k := 1) rfl rfl rfl) (sa rfl (sn (sq (SC.blk (sr (s1 (lod (v := .d (eApiValue p1)) rfl (ld_box ts68 ta68 rfl rfl)) (c0 (value_Valid_ok p1 _ hq18) wf rfl rfl rfl cb119 rfl (fun _ => rfl) (fun _ => rfl) ?_)))))))))
 refine s1 (nt rfl) (sa rfl (sn (cB h0 rfl (fun h0 => ?_) (fun h0 => ?_))))
 ·have q := si h0; subst q
  exact sr (sa rfl (sn (SC.ret (finR (wc (e' := [(4, .d (eI (8 : Int)))]) [] [] (by kernel_rfl) rfl (by kernel_rfl)) (lresT rfl lresN) rfl))))
 ·refine sr (s1 (far (k := 0) rfl fo68_0 ts3 rfl) (s1 (lod rfl (ld_box ts3 ta3 rfl rfl)) (s1 (bi rfl rfl q_i64_eql) (sa rfl (sn (cB h0 rfl (fun h0 => ?_) (fun h0 => ?_)))))))
  ·refine sq (sr (s1 (far (k := 3) rfl fo77_3 ts4 rfl) (s1 (lod rfl (ld_box ts4 ta4 rfl rfl)) (sn (cB h0 rfl (fun h0 => ?_) (fun h0 => ?_))))))
   ·have q := si h0; subst q
    exact sr (sa rfl (sn (SC.ret (finR (wc (e' := [(4, .d (eI (0 : Int)))]) [] [] (by kernel_rfl) rfl (by kernel_rfl)) (lresT rfl lresN) rfl))))
   ·have q := si h0; subst q
    exact sk (sr (sa rfl (sn (SC.ret (finR (wc (e' := [(4, .d (eI (8 : Int)))]) [] [] (by kernel_rfl) rfl (by kernel_rfl)) (lresT rfl lresN) rfl)))))
  ·refine sr (s1 (far (k := 0) rfl fo68_0 ts3 rfl) (s1 (lod rfl (ld_box ts3 ta3 rfl rfl)) (s1 (far (k := 1) rfl fo77_1 ts3 rfl) (s1 (lod rfl (ld_box ts3 ta3 rfl rfl)) (s1 (bi rfl rfl q_i64_neq) (sa rfl (sn (cB h0 rfl (fun h0 => ?_) (fun h0 => ?_)))))))))
   ·have q := si h0; subst q
    exact sr (sa rfl (sn (SC.ret (finR (wc (e' := [(4, .d (eI (8 : Int)))]) [] [] (by kernel_rfl) rfl (by kernel_rfl)) (lresT rfl lresN) rfl))))
   ·refine SC.seqP h0 (fun y => ⟨mk 33 [(21, .d (eB y))], []⟩) ?_ ?_
    ·intro u1_23 h1
     obtain ⟨r25, hq24, h1⟩ := ob h1
     refine SC.region (s1 (far (k := 0) rfl fo68_0 ts3 rfl) (s1 (lod rfl (ld_box ts3 ta3 rfl rfl)) (c0 (value_long_ok p1.Kind _ hq24) wf rfl rfl rfl cb114 rfl (fun _ => rfl) (fun _ => rfl) (sm rfl (sp h1 (fun h1 => ?_) (fun h1 => ?_))))))
     ·have q := si h1; subst q
      exact gw rfl (far (k := 2) rfl fo68_2 ts9 rfl) (gw rfl (lod rfl (ld_box ts9 ta9 rfl rfl)) (gw rfl (len rfl rfl rfl (len_str un9)) (gw rfl (far (k := 2) rfl fo77_2 ts3 rfl) (gw rfl (lod rfl (ld_box ts3 ta3 rfl rfl)) (gw rfl (bi rfl rfl q_i64_gtr) (s1 (pkt rfl rfl) (sa rfl (SO.nil ((wc [] [] (by kernel_rfl) rfl (by kernel_rfl)))))))))))
     ·have q := si h1; subst q
      exact kw rfl (kw rfl (kw rfl (kw rfl (kw rfl (kw rfl (s1 (pkf rfl rfl) (sa rfl (SO.nil ((wc [] [] (by kernel_rfl) rfl (by kernel_rfl)))))))))))
    ·rintro y22 h0
     refine cB h0 rfl (fun h0 => ?_) (fun h0 => ?_)
     ·have q := si h0; subst q
      exact sr (sa rfl (sn (SC.ret (finR (Wk.refl _) (lresT rfl lresN) rfl))))
     ·refine SC.skip ?_
      change SC _ _ _ _ _
      have q := si h0; subst q
      exact sr (sa rfl (sn (SC.ret (finR (Wk.refl _) (lresT rfl lresN) rfl))))
noncomputable def value_Column (p0 : ApiColumn) : Option Int :=
 Option.bind (value_Name p0.Name) fun r43 =>
 bif (!r43) then
 some (1 : Int)
 else
 Option.bind (α := Bool)
 (bif (decide (p0.Kind < (1 : Int))) then
 some true
 else
 some (decide (p0.Kind > (5 : Int))))
 fun y44 =>
 bif y44 then
 some (8 : Int)
 else
 Option.bind (α := Bool)
 (Option.bind (value_long p0.Kind) fun r55 =>
 bif r55 then
 bif (decide (p0.Max < (1 : Int))) then
 some true
 else
 bif (decide (p0.Max > (64 : Int))) then
 some true
 else
 Option.bind (value_long p0.Kind) fun r57 =>
 bif (!r57) then
 some (p0.Max != (0 : Int))
 else
 some false
 else
 Option.bind (value_long p0.Kind) fun r59 =>
 bif (!r59) then
 some (p0.Max != (0 : Int))
 else
 some false)
 fun y52 =>
 bif y52 then
 some (7 : Int)
 else
 Option.bind (value_Fits p0 p0.Default) fun r61 =>
 some r61
theorem value_Column_ok (p0 : ApiColumn) (r : Int) (h0 : value_Column p0 = some r) : CallAt Tryz.prog 90 [.d (eApiColumn p0)] [] (.d (eI r)) [] := by
 unfold value_Column at h0
 refine fn0 [0] Tryz.func90 rfl rfl rfl rfl rfl ?_
 obtain ⟨r43, hq42, h0⟩ := ob h0
 refine sr (s1 (bxo (k := 0) rfl rfl rfl) (sa rfl (sn (sq (SC.blk (sr (s1 (far (k := 0) rfl fo77_0 ts9 rfl) (s1 (lod rfl (ld_box ts9 ta9 rfl rfl)) (c0 (value_Name_ok p0.Name _ hq42) wf rfl rfl rfl cb113 rfl (fun _ => rfl) (fun _ => rfl) ?_)))))))))
 refine s1 (nt rfl) (sa rfl (sn (cB h0 rfl (fun h0 => ?_) (fun h0 => ?_))))
 ·have q := si h0; subst q
  exact sr (sa rfl (sn (SC.ret (finR (wc (e' := [(2, .d (eI (1 : Int)))]) [] [] (by kernel_rfl) rfl (by kernel_rfl)) (lresT rfl lresN) rfl))))
 ·refine SC.seqP h0 (fun y => ⟨mk 46 [(1, .ref 0 0 0), (8, .d (eB y))], [.box (.d (eApiColumn p0))]⟩) ?_ ?_
  ·intro u1_45 h1
   refine SC.region (s1 (far (k := 1) rfl fo77_1 ts3 rfl) (s1 (lod rfl (ld_box ts3 ta3 rfl rfl)) (s1 (bi rfl rfl q_i64_lss) (sm rfl (sp h1 (fun h1 => ?_) (fun h1 => ?_))))))
   ·have q := si h1; subst q
    exact kw rfl (kw rfl (kw rfl (s1 (pkt rfl rfl) (sa rfl (SO.nil ((wq rfl)))))))
   ·have q := si h1; subst q
    exact gw rfl (far (k := 1) rfl fo77_1 ts3 rfl) (gw rfl (lod rfl (ld_box ts3 ta3 rfl rfl)) (gw rfl (bi rfl rfl q_i64_gtr) (s1 (pkf rfl rfl) (sa rfl (SO.nil ((wq rfl)))))))
  ·rintro y44 h0
   refine cB h0 rfl (fun h0 => ?_) (fun h0 => ?_)
   ·have q := si h0; subst q
    exact sr (sa rfl (sn (SC.ret (finR (wc (e' := [(2, .d (eI (8 : Int)))]) [] [] (by kernel_rfl) rfl (by kernel_rfl)) (lresT rfl lresN) rfl))))
   ·refine SC.seqP h0 (fun y => ⟨mk 46 [(1, .ref 0 0 0), (17, .d (eB y))], [.box (.d (eApiColumn p0))]⟩) ?_ ?_
    ·intro u1_53 h1
     obtain ⟨r55, hq54, h1⟩ := ob h1
     refine SC.region (s1 (far (k := 1) rfl fo77_1 ts3 rfl) (s1 (lod rfl (ld_box ts3 ta3 rfl rfl)) (c0 (value_long_ok p0.Kind _ hq54) wf rfl rfl rfl cb114 rfl (fun _ => rfl) (fun _ => rfl) (sm rfl (sp h1 (fun h1 => ?_) (fun h1 => ?_))))))
     ·refine gw rfl (far (k := 2) rfl fo77_2 ts3 rfl) (gw rfl (lod rfl (ld_box ts3 ta3 rfl rfl)) (gw rfl (bi rfl rfl q_i64_lss) (gw rfl (mv rfl) (sp h1 (fun h1 => ?_) (fun h1 => ?_)))))
      ·have q := si h1; subst q
       refine kw rfl (kw rfl (kw rfl (gw rfl (pkt rfl rfl) (s1 (pkt rfl rfl) (sm rfl (kw rfl (kw rfl (kw rfl (kw rfl ?_)))))))))
       exact kw rfl (kw rfl (kw rfl (kw rfl (kw rfl (s1 (pkt rfl rfl) (sa rfl (SO.nil ((wq rfl)))))))))
      ·refine gw rfl (far (k := 2) rfl fo77_2 ts3 rfl) (gw rfl (lod rfl (ld_box ts3 ta3 rfl rfl)) (gw rfl (bi rfl rfl q_i64_gtr) (gw rfl (pkf rfl rfl) (s1 (pkt rfl rfl) (sm rfl (sp h1 (fun h1 => ?_) (fun h1 => ?_)))))))
       ·have q := si h1; subst q
        refine kw rfl (kw rfl (kw rfl (kw rfl (kw rfl (kw rfl (kw rfl (kw rfl (kw rfl (s1 (pkt rfl rfl) ?_)))))))))
        exact sa rfl (SO.nil ((wq rfl)))
       ·obtain ⟨r57, hq56, h1⟩ := ob h1
        refine gw rfl (far (k := 1) rfl fo77_1 ts3 rfl) (gw rfl (lod rfl (ld_box ts3 ta3 rfl rfl)) (c0 (value_long_ok p0.Kind _ hq56) (ww rfl) rfl rfl rfl cb114 rfl (fun _ => rfl) (fun _ => rfl) (gw rfl (nt rfl) (gw rfl (mv rfl) (sp h1 (fun h1 => ?_) (fun h1 => ?_))))))
        ·have q := si h1; subst q
         exact gw rfl (far (k := 2) rfl fo77_2 ts3 rfl) (gw rfl (lod rfl (ld_box ts3 ta3 rfl rfl)) (gw rfl (bi rfl rfl q_i64_neq) (gw rfl (pkt rfl rfl) (s1 (pkf rfl rfl) (sa rfl (SO.nil ((wq rfl))))))))
        ·have q := si h1; subst q
         exact kw rfl (kw rfl (kw rfl (gw rfl (pkf rfl rfl) (s1 (pkf rfl rfl) (sa rfl (SO.nil ((wq rfl))))))))
     ·obtain ⟨r59, hq58, h1⟩ := ob h1
      refine kw rfl (kw rfl (kw rfl (kw rfl (kw rfl (kw rfl (kw rfl (kw rfl (s1 (pkf rfl rfl) (sm rfl ?_)))))))))
      refine gw rfl (far (k := 1) rfl fo77_1 ts3 rfl) (gw rfl (lod rfl (ld_box ts3 ta3 rfl rfl)) (c0 (value_long_ok p0.Kind _ hq58) (ww rfl) rfl rfl rfl cb114 rfl (fun _ => rfl) (fun _ => rfl) (gw rfl (nt rfl) (gw rfl (mv rfl) (sp h1 (fun h1 => ?_) (fun h1 => ?_))))))
      ·have q := si h1; subst q
       exact gw rfl (far (k := 2) rfl fo77_2 ts3 rfl) (gw rfl (lod rfl (ld_box ts3 ta3 rfl rfl)) (gw rfl (bi rfl rfl q_i64_neq) (gw rfl (pkt rfl rfl) (s1 (pkf rfl rfl) (sa rfl (SO.nil ((wq rfl))))))))
      ·have q := si h1; subst q
       exact kw rfl (kw rfl (kw rfl (gw rfl (pkf rfl rfl) (s1 (pkf rfl rfl) (sa rfl (SO.nil ((wq rfl))))))))
    ·rintro y52 h0
     refine cB h0 rfl (fun h0 => ?_) (fun h0 => ?_)
     ·have q := si h0; subst q
      exact sr (sa rfl (sn (SC.ret (finR (wc (e' := [(2, .d (eI (7 : Int)))]) [] [] (by kernel_rfl) rfl (by kernel_rfl)) (lresT rfl lresN) rfl))))
     ·refine SC.skip ?_
      change SC _ _ _ _ _
      obtain ⟨r61, hq60, h0⟩ := ob h0; have q := si h0; subst q
      exact sr (s1 (lod (v := .d (eApiColumn p0)) rfl (ld_box ts77 ta77 rfl rfl)) (s1 (far (k := 4) rfl fo77_4 ts68 rfl) (s1 (lod (v := .d (eApiValue p0.Default)) rfl (ld_box ts68 ta68 rfl rfl)) (c0 (value_Fits_ok p0 p0.Default _ hq60) wf rfl rfl rfl cb96 rfl (fun _ => rfl) (fun _ => rfl) (sa rfl (sn (SC.ret (finR (wc (e' := [(2, .d (eI r61))]) [] [] (by kernel_rfl) rfl (by kernel_rfl)) (lresT rfl lresN) rfl))))))))
noncomputable def row_columns_1 (p0 : ApiColumn) : Option Bool :=
 Option.bind (value_Column p0) fun r7 =>
 some (r7 != (0 : Int))
theorem row_columns_1_ok (p0 : ApiColumn) (r : Bool) (h0 : row_columns_1 p0 = some r) : CallAt Tryz.prog 89 [.d (eApiColumn p0)] [] (.d (eB r)) [] := by
 unfold row_columns_1 at h0
 refine fn0 [0] Tryz.func89 rfl rfl rfl rfl rfl ?_
 obtain ⟨r7, hq6, h0⟩ := ob h0; have q := si h0; subst q
 refine sr (s1 (bxo (k := 0) rfl rfl rfl) (sa rfl (sn (sr (s1 (lod (v := .d (eApiColumn p0)) rfl (ld_box ts77 ta77 rfl rfl)) (c0 (value_Column_ok p0 _ hq6) wf rfl rfl rfl cb90 rfl (fun _ => rfl) (fun _ => rfl) (s1 (bi rfl rfl q_i64_neq) (sa rfl (sn ?_)))))))))
 exact SC.ret (finR (wc (e' := [(2, .d (eB (r7 != (0 : Int))))]) [] [] (by kernel_rfl) rfl (by kernel_rfl)) (lresT rfl lresN) rfl)
noncomputable def slices_IndexFunc_api_Column_api_Column (p0 : List ApiColumn) : Option Int :=
 bindE (Y := Unit) (E := Int)
 (Option.bind (α := Unit ⊕ Int)
 (loop (Y := Int) (W := Unit ⊕ Int) (fun y78 =>
 bif (decide (y78 < (p0.length : Int))) then
 Option.bind (getI p0 y78) fun v85 =>
 Option.bind (row_columns_1 v85) fun r87 =>
 bif r87 then
 some (Sum.inr (Sum.inr y78))
 else
 some (Sum.inl (w64 (y78 + (1 : Int))))
 else
 some (Sum.inr (Sum.inl ()))) (0 : Int))
 (Sum.elim (fun e => some (Sum.inl e)) (fun e => some (Sum.inr e))))
 (fun _ =>
 some (-1 : Int))
 (fun e => some e)
theorem slices_IndexFunc_api_Column_api_Column_ok (p0 : List ApiColumn) (r : Int) (h0 : slices_IndexFunc_api_Column_api_Column p0 = some r) : CallAt Tryz.prog 112 [.d ((eL 7 eApiColumn) p0), .fn (.func 89) [] []] [] (.d (eI r)) [] := by
 unfold slices_IndexFunc_api_Column_api_Column at h0
 refine fn0 [0, 1] Tryz.func112 rfl rfl rfl rfl rfl ?_
 refine sr (sa rfl (sn (SC.seqB h0 (fun y => ⟨mk 19 [], []⟩) ?_ ?_)))
 ·intro u1_74 h1 h0
  obtain ⟨u2_84, h2, h1⟩ := ob h1
  refine sr (sm rfl (s1 (len rfl rfl rfl (len_lst un22)) (sm rfl (sn (SC.blk (SC.loopB h2 (fun y => ⟨mk 19 [(0, .d ((eL 7 eApiColumn) p0)), (1, .fn (.func 89) [] []), (7, .d (eI (p0.length : Int))), (8, .d (eI y))], []⟩) (wq rfl) ?_))))))
  intro n88
  rintro y78 w2_83 h3 hv3
  refine sr (s1 (bi rfl rfl q_i64_lss) (sn (sq (cB h3 rfl (fun h3 => ?_) (fun h3 => ?_)))))
  ·obtain ⟨v85, hv85, h3⟩ := ob h3; obtain ⟨r87, hq86, h3⟩ := ob h3
   refine sk (sq (SC.blk (sr (sm rfl (sa rfl (sn (sr (sm rfl (sm rfl ?_)))))))))
   refine sm rfl (s1 (ial rfl rfl un22 ts77 (getI_some hv85).1 (map_get (getI_some hv85).2) rfl) (s1 (lod (v := .d (eApiColumn v85)) rfl (ld_rop ts77 ta77 rfl)) (c0 (row_columns_1_ok v85 _ hq86) wf rfl rfl rfl cb89 rfl (fun _ => rfl) (fun _ => rfl) (sn (cB h3 rfl (fun h3 => ?_) (fun h3 => ?_))))))
   ·have q := si h3; subst q; have q : _ = _ := hv3; subst q; have q := si h1; subst q; have q := si h0; subst q
    exact sr (sm rfl (sa rfl (sn (SC.ret (finR (Wk.refl _) (lresT rfl lresN) rfl)))))
   ·refine SC.skip ?_
    change SC _ _ _ _ _
    have q := si h3; subst q
    exact SC.region (s1 (bi rfl rfl q_i64_add) (sm rfl (SO.nil (lf (wq rfl)))))
  ·have q := si h3; subst q; have q : _ = _ := hv3; subst q; have q := si h1; subst q
   exact SC.exit (lf (wq rfl))
 ·intro _ h0
  have q := si h0; subst q
  exact sr (sa rfl (sn (SC.ret (finR (Wk.refl _) (lresT rfl lresN) rfl))))
noncomputable def slices_ContainsFunc_api_Column_api_Column (p0 : List ApiColumn) : Option Bool :=
 Option.bind (slices_IndexFunc_api_Column_api_Column p0) fun r7 =>
 some (decide (r7 ≥ (0 : Int)))
theorem slices_ContainsFunc_api_Column_api_Column_ok (p0 : List ApiColumn) (r : Bool) (h0 : slices_ContainsFunc_api_Column_api_Column p0 = some r) : CallAt Tryz.prog 88 [.d ((eL 7 eApiColumn) p0), .fn (.func 89) [] []] [] (.d (eB r)) [] := by
 unfold slices_ContainsFunc_api_Column_api_Column at h0
 refine fn0 [0, 1] Tryz.func88 rfl rfl rfl rfl rfl ?_
 obtain ⟨r7, hq6, h0⟩ := ob h0; have q := si h0; subst q
 refine sr (sa rfl (sn (sr (sm rfl (sm rfl (c0 (slices_IndexFunc_api_Column_api_Column_ok p0 _ hq6) wf rfl rfl rfl cb112 rfl (fun _ => rfl) (fun _ => rfl) (s1 (bi rfl rfl q_i64_geq) (sa rfl (sn ?_)))))))))
 exact SC.ret (finR (Wk.refl _) (lresT rfl lresN) rfl)
noncomputable def row_columns (p0 : List ApiColumn) : Option Bool :=
 Option.bind (α := Bool)
 (bif (decide ((p0.length : Int) ≥ (1 : Int))) then
 bif (decide ((p0.length : Int) ≤ (24 : Int))) then
 Option.bind (slices_ContainsFunc_api_Column_api_Column p0) fun r19 =>
 some (!r19)
 else
 some false
 else
 some false)
 fun y16 =>
 some y16
theorem row_columns_ok (p0 : List ApiColumn) (r : Bool) (h0 : row_columns p0 = some r) : CallAt Tryz.prog 59 [.d ((eL 7 eApiColumn) p0)] [] (.d (eB r)) [] := by
 unfold row_columns at h0
 refine fn0 [0] Tryz.func59 rfl rfl rfl rfl rfl ?_
 refine sr (sa rfl (sn (SC.seqP h0 (fun y => ⟨mk 16 [(2, .d (eB y))], []⟩) ?_ ?_)))
 ·intro u1_17 h1
  refine SC.region (sm rfl (s1 (len rfl rfl rfl (len_lst un22)) (s1 (bi rfl rfl q_i64_geq) (sm rfl (sp h1 (fun h1 => ?_) (fun h1 => ?_))))))
  ·refine gw rfl (mv rfl) (gw rfl (len rfl rfl rfl (len_lst un22)) (gw rfl (bi rfl rfl q_i64_leq) (s1 (pkt rfl rfl) (sm rfl (sp h1 (fun h1 => ?_) (fun h1 => ?_))))))
   ·obtain ⟨r19, hq18, h1⟩ := ob h1; have q := si h1; subst q
    exact gw rfl (mv rfl) (c0 (slices_ContainsFunc_api_Column_api_Column_ok p0 _ hq18) (ww rfl) rfl rfl rfl cb88 rfl (fun _ => rfl) (fun _ => rfl) (gw rfl (nt rfl) (s1 (pkt rfl rfl) (sa rfl (SO.nil ((wq rfl)))))))
   ·have q := si h1; subst q
    exact kw rfl (kw rfl (kw rfl (s1 (pkf rfl rfl) (sa rfl (SO.nil ((wq rfl)))))))
  ·have q := si h1; subst q
   refine kw rfl (kw rfl (kw rfl (s1 (pkf rfl rfl) (sm rfl (kw rfl (kw rfl (kw rfl (s1 (pkf rfl rfl) (sa rfl ?_)))))))))
   exact SO.nil ((wq rfl))
 ·rintro y16 h0
  have q := si h0; subst q
  exact SC.ret (finR (Wk.refl _) (lresT rfl lresN) rfl)
noncomputable def row_Fits (p0 : List ApiColumn) (p1 : List ApiValue) : Option Int :=
 Option.bind (α := Bool)
 (Option.bind (row_columns p0) fun r89 =>
 bif (!r89) then
 some true
 else
 some ((p1.length : Int) != (p0.length : Int)))
 fun y86 =>
 bif y86 then
 some (1 : Int)
 else
 bindE (Y := Unit) (E := Int)
 (Option.bind (α := Unit ⊕ Int)
 (loop (Y := Int) (W := Unit ⊕ Int) (fun y112 =>
 bif (decide (y112 < (p1.length : Int))) then
 Option.bind (getI p1 y112) fun v120 =>
 Option.bind (getI p0 y112) fun v121 =>
 Option.bind (value_Fits v121 v120) fun r123 =>
 bif (r123 != (0 : Int)) then
 some (Sum.inr (Sum.inr r123))
 else
 some (Sum.inl (w64 (y112 + (1 : Int))))
 else
 some (Sum.inr (Sum.inl ()))) (0 : Int))
 (Sum.elim (fun e => some (Sum.inl e)) (fun e => some (Sum.inr e))))
 (fun _ =>
 some (0 : Int))
 (fun e => some e)
theorem row_Fits_ok (p0 : List ApiColumn) (p1 : List ApiValue) (r : Int) (h0 : row_Fits p0 p1 = some r) : CallAt Tryz.prog 64 [.d ((eL 7 eApiColumn) p0), .d ((eL 3 eApiValue) p1)] [] (.d (eI r)) [] := by
 unfold row_Fits at h0
 refine fn0 [0, 1] Tryz.func64 rfl rfl rfl rfl rfl ?_
 refine sr (sa rfl (sn (sq (SC.seqP h0 (fun y => ⟨mk 35 [(0, .d ((eL 7 eApiColumn) p0)), (1, .d ((eL 3 eApiValue) p1)), (17, .d (eB y))], []⟩) ?_ ?_))))
 ·intro u1_87 h1
  obtain ⟨r89, hq88, h1⟩ := ob h1
  refine SC.region (sm rfl (c0 (row_columns_ok p0 _ hq88) wf rfl rfl rfl cb59 rfl (fun _ => rfl) (fun _ => rfl) (s1 (nt rfl) (sm rfl (sp h1 (fun h1 => ?_) (fun h1 => ?_))))))
  ·have q := si h1; subst q
   exact kw rfl (kw rfl (kw rfl (kw rfl (kw rfl (s1 (pkt rfl rfl) (SO.nil ((wq rfl))))))))
  ·have q := si h1; subst q
   exact gw rfl (mv rfl) (gw rfl (len rfl rfl rfl (len_lst un28)) (gw rfl (mv rfl) (gw rfl (len rfl rfl rfl (len_lst un22)) (gw rfl (bi rfl rfl q_i64_neq) (s1 (pkf rfl rfl) (SO.nil ((wq rfl))))))))
 ·rintro y86 h0
  refine cB h0 rfl (fun h0 => ?_) (fun h0 => ?_)
  ·have q := si h0; subst q
   exact sr (sa rfl (sn (SC.ret (finR (Wk.refl _) (lresT rfl lresN) rfl))))
  ·refine sk (SC.seqB h0 (fun y => ⟨mk 35 [], []⟩) ?_ ?_)
   ·intro u1_107 h1 h0
    obtain ⟨u2_119, h2, h1⟩ := ob h1
    refine sr (sm rfl (s1 (len rfl rfl rfl (len_lst un28)) (sm rfl (sn (SC.blk (SC.loopB h2 (fun y => ⟨mk 35 [(0, .d ((eL 7 eApiColumn) p0)), (18, .d ((eL 3 eApiValue) p1)), (19, .d (eI (p1.length : Int))), (20, .d (eI y))], []⟩) (wq rfl) ?_))))))
    intro n124
    rintro y112 w2_118 h3 hv3
    refine sr (s1 (bi rfl rfl q_i64_lss) (sn (sq (cB h3 rfl (fun h3 => ?_) (fun h3 => ?_)))))
    ·obtain ⟨v120, hv120, h3⟩ := ob h3; obtain ⟨v121, hv121, h3⟩ := ob h3; obtain ⟨r123, hq122, h3⟩ := ob h3
     refine sk (sq (SC.blk (sr (sm rfl (s1 (ial rfl rfl un28 ts68 (getI_some hv120).1 (map_get (getI_some hv120).2) rfl) (s1 (lod (v := .d (eApiValue v120)) rfl (ld_rop ts68 ta68 rfl)) (s1 (alo (k := 0) zo68 rfl) (sa rfl (s0 (sto rfl rfl (sB (d' := .d (eApiValue v120)) ts68 rfl rfl rfl rfl rfl rfl rfl)) ?_)))))))))
     refine sn (sd (by kernel_rfl) (t1 ([], false) (mv rfl) rfl (t1 ([], false) (mv rfl) rfl (t1 ([], false) (ial rfl rfl un22 ts77 (getI_some hv121).1 (map_get (getI_some hv121).2) rfl) rfl (t1 ([], false) (lod (v := .d (eApiColumn v121)) rfl (ld_rop ts77 ta77 rfl)) rfl (t1 ([0], false) (lod (v := .d (eApiValue v120)) rfl (ld_box ts68 ta68 rfl rfl)) rfl (tc0 (value_Fits_ok v121 v120 _ hq122) wf rfl rfl rfl cb96 rfl (fun _ => rfl) (fun _ => rfl) (t1 ([], false) (asg rfl) rfl (tn (by decide +kernel) ?_)))))))))
     refine sr (sm rfl (s1 (bi rfl rfl q_i64_neq) (sn (cB h3 rfl (fun h3 => ?_) (fun h3 => ?_)))))
     ·have q := si h3; subst q; have q : _ = _ := hv3; subst q; have q := si h1; subst q; have q := si h0; subst q
      exact sr (sm rfl (sa rfl (sn (SC.ret (finR (wc (e' := [(4, .d (eI r123))]) [] [] (by kernel_rfl) rfl (by kernel_rfl)) (lresT rfl lresN) rfl)))))
     ·refine SC.skip ?_
      change SC _ _ _ _ _
      have q := si h3; subst q
      exact SC.region (s1 (bi rfl rfl q_i64_add) (sm rfl (SO.nil (lf (wc [] [] (by kernel_rfl) rfl (by kernel_rfl))))))
    ·have q := si h3; subst q; have q : _ = _ := hv3; subst q; have q := si h1; subst q
     exact SC.exit (lf (wq rfl))
   ·intro _ h0
    have q := si h0; subst q
    exact sr (sa rfl (sn (SC.ret (finR (Wk.refl _) (lresT rfl lresN) rfl))))
noncomputable def key_Encode_1 (p0 : ApiValue) : Option Bool :=
 Option.bind (value_Valid p0) fun r7 =>
 some (!r7)
theorem key_Encode_1_ok (p0 : ApiValue) (r : Bool) (h0 : key_Encode_1 p0 = some r) : CallAt Tryz.prog 125 [.d (eApiValue p0)] [] (.d (eB r)) [] := by
 unfold key_Encode_1 at h0
 refine fn0 [0] Tryz.func125 rfl rfl rfl rfl rfl ?_
 obtain ⟨r7, hq6, h0⟩ := ob h0; have q := si h0; subst q
 refine sr (s1 (bxo (k := 0) rfl rfl rfl) (sa rfl (sn (sr (s1 (lod (v := .d (eApiValue p0)) rfl (ld_box ts68 ta68 rfl rfl)) (c0 (value_Valid_ok p0 _ hq6) wf rfl rfl rfl cb119 rfl (fun _ => rfl) (fun _ => rfl) (s1 (nt rfl) (sa rfl (sn ?_)))))))))
 exact SC.ret (finR (wc (e' := [(2, .d (eB (!r7)))]) [] [] (by kernel_rfl) rfl (by kernel_rfl)) (lresT rfl lresN) rfl)
noncomputable def slices_IndexFunc_api_Value_api_Value (p0 : List ApiValue) : Option Int :=
 bindE (Y := Unit) (E := Int)
 (Option.bind (α := Unit ⊕ Int)
 (loop (Y := Int) (W := Unit ⊕ Int) (fun y78 =>
 bif (decide (y78 < (p0.length : Int))) then
 Option.bind (getI p0 y78) fun v85 =>
 Option.bind (key_Encode_1 v85) fun r87 =>
 bif r87 then
 some (Sum.inr (Sum.inr y78))
 else
 some (Sum.inl (w64 (y78 + (1 : Int))))
 else
 some (Sum.inr (Sum.inl ()))) (0 : Int))
 (Sum.elim (fun e => some (Sum.inl e)) (fun e => some (Sum.inr e))))
 (fun _ =>
 some (-1 : Int))
 (fun e => some e)
theorem slices_IndexFunc_api_Value_api_Value_ok (p0 : List ApiValue) (r : Int) (h0 : slices_IndexFunc_api_Value_api_Value p0 = some r) : CallAt Tryz.prog 131 [.d ((eL 3 eApiValue) p0), .fn (.func 125) [] []] [] (.d (eI r)) [] := by
 unfold slices_IndexFunc_api_Value_api_Value at h0
 refine fn0 [0, 1] Tryz.func131 rfl rfl rfl rfl rfl ?_
 refine sr (sa rfl (sn (SC.seqB h0 (fun y => ⟨mk 19 [], []⟩) ?_ ?_)))
 ·intro u1_74 h1 h0
  obtain ⟨u2_84, h2, h1⟩ := ob h1
  refine sr (sm rfl (s1 (len rfl rfl rfl (len_lst un28)) (sm rfl (sn (SC.blk (SC.loopB h2 (fun y => ⟨mk 19 [(0, .d ((eL 3 eApiValue) p0)), (1, .fn (.func 125) [] []), (7, .d (eI (p0.length : Int))), (8, .d (eI y))], []⟩) (wq rfl) ?_))))))
  intro n88
  rintro y78 w2_83 h3 hv3
  refine sr (s1 (bi rfl rfl q_i64_lss) (sn (sq (cB h3 rfl (fun h3 => ?_) (fun h3 => ?_)))))
  ·obtain ⟨v85, hv85, h3⟩ := ob h3; obtain ⟨r87, hq86, h3⟩ := ob h3
   refine sk (sq (SC.blk (sr (sm rfl (sa rfl (sn (sr (sm rfl (sm rfl ?_)))))))))
   refine sm rfl (s1 (ial rfl rfl un28 ts68 (getI_some hv85).1 (map_get (getI_some hv85).2) rfl) (s1 (lod (v := .d (eApiValue v85)) rfl (ld_rop ts68 ta68 rfl)) (c0 (key_Encode_1_ok v85 _ hq86) wf rfl rfl rfl cb125 rfl (fun _ => rfl) (fun _ => rfl) (sn (cB h3 rfl (fun h3 => ?_) (fun h3 => ?_))))))
   ·have q := si h3; subst q; have q : _ = _ := hv3; subst q; have q := si h1; subst q; have q := si h0; subst q
    exact sr (sm rfl (sa rfl (sn (SC.ret (finR (Wk.refl _) (lresT rfl lresN) rfl)))))
   ·refine SC.skip ?_
    change SC _ _ _ _ _
    have q := si h3; subst q
    exact SC.region (s1 (bi rfl rfl q_i64_add) (sm rfl (SO.nil (lf (wq rfl)))))
  ·have q := si h3; subst q; have q : _ = _ := hv3; subst q; have q := si h1; subst q
   exact SC.exit (lf (wq rfl))
 ·intro _ h0
  have q := si h0; subst q
  exact sr (sa rfl (sn (SC.ret (finR (Wk.refl _) (lresT rfl lresN) rfl))))
noncomputable def slices_ContainsFunc_api_Value_api_Value (p0 : List ApiValue) : Option Bool :=
 Option.bind (slices_IndexFunc_api_Value_api_Value p0) fun r7 =>
 some (decide (r7 ≥ (0 : Int)))
theorem slices_ContainsFunc_api_Value_api_Value_ok (p0 : List ApiValue) (r : Bool) (h0 : slices_ContainsFunc_api_Value_api_Value p0 = some r) : CallAt Tryz.prog 124 [.d ((eL 3 eApiValue) p0), .fn (.func 125) [] []] [] (.d (eB r)) [] := by
 unfold slices_ContainsFunc_api_Value_api_Value at h0
 refine fn0 [0, 1] Tryz.func124 rfl rfl rfl rfl rfl ?_
 obtain ⟨r7, hq6, h0⟩ := ob h0; have q := si h0; subst q
 refine sr (sa rfl (sn (sr (sm rfl (sm rfl (c0 (slices_IndexFunc_api_Value_api_Value_ok p0 _ hq6) wf rfl rfl rfl cb131 rfl (fun _ => rfl) (fun _ => rfl) (s1 (bi rfl rfl q_i64_geq) (sa rfl (sn ?_)))))))))
 exact SC.ret (finR (Wk.refl _) (lresT rfl lresN) rfl)
noncomputable def pack_Out_put (p0 : List UInt8) : Option Unit :=
 bif decide (p0.length * 1 ≤ room) then
 some ()
 else none
theorem pack_Out_put_ok (p0 : List UInt8) (r : Unit) (h0 : pack_Out_put p0 = some r) : CallAt Tryz.prog 99 [.ref 0 0 0, .d ((eL 1 eU8) p0)] [.box (.d (.agg [.nils]))] (.tuple []) [.box (.agg [.slc 1 1 0 p0.length none]), .row 1 (List.map eU8 p0) true] := by
 unfold pack_Out_put at h0
 refine fn0 [0, 1] Tryz.func99 rfl rfl rfl rfl rfl ?_
 obtain ⟨hg3, h0⟩ := gd h0; have q := si h0; subst q
 refine sr (sm rfl (s1 (bi (v := .d (eB true)) rfl rfl (fun _ _ => nil_neq un142)) (sn (cT rfl (SC.region (sm rfl (sm rfl (s1 (nkr rfl) (s1 (far (k := 0) rfl fo139_0 ts125 rfl) ?_)))))))))
 exact s1 (lod rfl (ld_box ts125 ta125 rfl rfl)) (sm rfl (s1 (app rfl rfl rfl rfl bc125 (aN (f := eU8) (k := 1) un125 ei5 el_lst hg3 rfl)) (s1 (nkr rfl) (s1 (far (k := 0) rfl fo139_0 ts125 rfl) (s0 (sto rfl rfl (sB (d' := .agg [.slc 1 1 0 p0.length none]) ts125 rfl rfl rfl rfl rfl rfl rfl)) (SO.nil (finN (Wk.refl _) lresN rfl)))))))
noncomputable def pack_Out_Flag (p0 : Bool) : Option ((List UInt8)) :=
 bif p0 then
 Option.bind (pack_Out_put [(1 : UInt8)]) fun _ =>
 some [(1 : UInt8)]
 else
 Option.bind (pack_Out_put [(0 : UInt8)]) fun _ =>
 some [(0 : UInt8)]
theorem pack_Out_Flag_ok (p0 : Bool) (r : (List UInt8)) (h0 : pack_Out_Flag p0 = some r) : CallAt Tryz.prog 100 [.ref 0 0 0, .d (eB p0)] [.box (.d (.agg [.nils]))] (.tuple []) [.box (.agg [.slc 1 1 0 r.length none]), .row 1 (List.map eU8 r) true] := by
 unfold pack_Out_Flag at h0
 refine fn0 [0, 1] Tryz.func100 rfl rfl rfl rfl rfl ?_
 refine sr (sm rfl (sn (cB h0 rfl (fun h0 => ?_) (fun h0 => ?_))))
 ·obtain ⟨_, hq6, h0⟩ := ob h0; have q := si h0; subst q
  exact SC.region (sm rfl (s1 (bsn (k := 1) (ds := List.map eU8 [(1 : UInt8)]) (off := 0) (l' := [(1 : UInt8)].length) rfl un125 ei5 rfl rfl (by rfl) rfl rfl rfl) (cq (args' := [.ref 0 0 0, .slc 1 1 0 ([(1 : UInt8)].length) none]) (σc := [.box (.d (.agg [.nils])), .row 1 (List.map eU8 [(1 : UInt8)]) true]) [0, 1] [2] (CallAt.frz (ArgF.keep (ArgF.frz (fF rfl rfl rfl) (ArgF.nil _))) (fq [0] [2] (pack_Out_put_ok [(1 : UInt8)] _ hq6) rfl rfl rfl rfl rfl rfl rfl rfl)) wf rfl rfl rfl cb99 rfl rfl rfl rfl rfl rfl rfl rfl (SO.nil (finN (wc (e' := []) [0, 2] [0] (by kernel_rfl) rfl (by kernel_rfl)) lresN rfl)))))
 ·obtain ⟨_, hq7, h0⟩ := ob h0; have q := si h0; subst q
  exact SC.region (sm rfl (s1 (bsn (k := 1) (ds := List.map eU8 [(0 : UInt8)]) (off := 0) (l' := [(0 : UInt8)].length) rfl un125 ei5 rfl rfl (by rfl) rfl rfl rfl) (cq (args' := [.ref 0 0 0, .slc 1 1 0 ([(0 : UInt8)].length) none]) (σc := [.box (.d (.agg [.nils])), .row 1 (List.map eU8 [(0 : UInt8)]) true]) [0, 1] [2] (CallAt.frz (ArgF.keep (ArgF.frz (fF rfl rfl rfl) (ArgF.nil _))) (fq [0] [2] (pack_Out_put_ok [(0 : UInt8)] _ hq7) rfl rfl rfl rfl rfl rfl rfl rfl)) wf rfl rfl rfl cb99 rfl rfl rfl rfl rfl rfl rfl rfl (SO.nil (finN (wc (e' := []) [0, 2] [0] (by kernel_rfl) rfl (by kernel_rfl)) lresN rfl)))))
noncomputable def pack_Out_put_1 (p0 : List UInt8) (p1 : List UInt8) : Option Unit :=
 bif decide ((p1.length + p0.length) * 1 ≤ room) then
 some ()
 else none
theorem pack_Out_put_1_ok (p0 : List UInt8) (p1 : List UInt8) (r : Unit) (h0 : pack_Out_put_1 p0 p1 = some r) : CallAt Tryz.prog 99 [.ref 0 0 0, .d ((eL 1 eU8) p0)] [.box (.agg [.slc 1 1 0 p1.length none]), .row 1 (List.map eU8 p1) true] (.tuple []) [.box (.agg [.slc 2 1 0 ((p1 ++ p0).length) none]), .dead, .row 1 (List.map eU8 (p1 ++ p0)) true] := by
 unfold pack_Out_put_1 at h0
 refine fn0 [0, 1] Tryz.func99 rfl rfl rfl rfl rfl ?_
 obtain ⟨hg3, h0⟩ := gd h0; have q := si h0; subst q
 refine sr (sm rfl (s1 (bi (v := .d (eB true)) rfl rfl (fun _ _ => nil_neq un142)) (sn (cT rfl (SC.region (sm rfl (sm rfl (s1 (nkr rfl) (s1 (far (k := 0) rfl fo139_0 ts125 rfl) ?_)))))))))
 exact s1 (lod rfl (ld_box ts125 ta125 rfl rfl)) (sm rfl (s1 (app rfl rfl rfl rfl bc125 (aF (f := eU8) (xs := p1) (k := 2) rfl un125 ei5 rfl el_lst hg3 rfl)) (s1 (nkr rfl) (s1 (far (k := 0) rfl fo139_0 ts125 rfl) (s0 (sto rfl rfl (sB (d' := .agg [.slc 2 1 0 ((p1 ++ p0).length) none]) ts125 rfl rfl rfl rfl rfl rfl rfl)) (SO.nil (finN (Wk.refl _) lresN rfl)))))))
noncomputable def pack_Out_U16 (p0 : UInt16) (p1 : List UInt8) : Option Unit :=
 Option.bind (pack_Out_put_1 [((shr16 p0 8).toUInt8), (p0.toUInt8)] p1) fun _ =>
 some ()
theorem pack_Out_U16_ok (p0 : UInt16) (p1 : List UInt8) (r : Unit) (h0 : pack_Out_U16 p0 p1 = some r) : CallAt Tryz.prog 122 [.ref 0 0 0, .d (eU16 p0)] [.box (.agg [.slc 1 1 0 p1.length none]), .row 1 (List.map eU8 p1) true] (.tuple []) [.box (.agg [.slc 2 1 0 ((p1 ++ [((shr16 p0 8).toUInt8), (p0.toUInt8)]).length) none]), .dead, .row 1 (List.map eU8 (p1 ++ [((shr16 p0 8).toUInt8), (p0.toUInt8)])) true] := by
 unfold pack_Out_U16 at h0
 refine fn0 [0, 1] Tryz.func122 rfl rfl rfl rfl rfl ?_
 obtain ⟨_, hq3, h0⟩ := ob h0; have q := si h0; subst q
 refine SC.region (sm rfl (sm rfl (s1 (bi (v := .d (eU16 (shr16 p0 8))) rfl rfl (fun X Y => b_u16_shr _ X Y p0 _ (by decide))) (s1 (cvo rfl (cv_u16_u8 un194 un5 (shr16 p0 8))) (sm rfl (s1 (cvo rfl (cv_u16_u8 un194 un5 p0)) (s1 (bsn (k := 2) (ds := List.map eU8 [((shr16 p0 8).toUInt8), (p0.toUInt8)]) (off := 0) (l' := [((shr16 p0 8).toUInt8), (p0.toUInt8)].length) rfl un125 ei5 rfl rfl (by rfl) rfl rfl rfl) (cq (args' := [.ref 0 0 0, .slc 1 1 0 ([((shr16 p0 8).toUInt8), (p0.toUInt8)].length) none]) (σc := [.box (.agg [.slc 2 1 0 p1.length none]), .row 1 (List.map eU8 [((shr16 p0 8).toUInt8), (p0.toUInt8)]) true, .row 1 (List.map eU8 p1) true]) [0, 2, 1] [3] (CallAt.frz (ArgF.keep (ArgF.frz (fF rfl rfl rfl) (ArgF.nil _))) (fq [0, 2] [3] (pack_Out_put_1_ok [((shr16 p0 8).toUInt8), (p0.toUInt8)] p1 _ hq3) rfl rfl rfl rfl rfl rfl rfl rfl)) wf rfl rfl rfl cb99 rfl rfl rfl rfl rfl rfl rfl rfl (SO.nil ?_)))))))))
 exact finN (wc (e' := []) [0, 1, 3] [0, 1] (by kernel_rfl) rfl (by kernel_rfl)) lresN rfl
noncomputable def pack_Out_U32 (p0 : UInt32) (p1 : List UInt8) : Option Unit :=
 Option.bind (pack_Out_U16 ((shr32 p0 16).toUInt16) p1) fun _ =>
 Option.bind (pack_Out_U16 (p0.toUInt16) (p1 ++ [((shr16 ((shr32 p0 16).toUInt16) 8).toUInt8), (((shr32 p0 16).toUInt16).toUInt8)])) fun _ =>
 some ()
theorem pack_Out_U32_ok (p0 : UInt32) (p1 : List UInt8) (r : Unit) (h0 : pack_Out_U32 p0 p1 = some r) : CallAt Tryz.prog 121 [.ref 0 0 0, .d (eU32 p0)] [.box (.agg [.slc 1 1 0 p1.length none]), .row 1 (List.map eU8 p1) true] (.tuple []) [.box (.agg [.slc 2 1 0 (((p1 ++ [((shr16 ((shr32 p0 16).toUInt16) 8).toUInt8), (((shr32 p0 16).toUInt16).toUInt8)]) ++ [((shr16 (p0.toUInt16) 8).toUInt8), ((p0.toUInt16).toUInt8)]).length) none]), .dead, .row 1 (List.map eU8 ((p1 ++ [((shr16 ((shr32 p0 16).toUInt16) 8).toUInt8), (((shr32 p0 16).toUInt16).toUInt8)]) ++ [((shr16 (p0.toUInt16) 8).toUInt8), ((p0.toUInt16).toUInt8)])) true] := by
 unfold pack_Out_U32 at h0
 refine fn0 [0, 1] Tryz.func121 rfl rfl rfl rfl rfl ?_
 obtain ⟨_, hq5, h0⟩ := ob h0; obtain ⟨_, hq6, h0⟩ := ob h0; have q := si h0; subst q
 refine sr (sm rfl (sm rfl (s1 (bi (v := .d (eU32 (shr32 p0 16))) rfl rfl (fun X Y => b_u32_shr _ X Y p0 _ (by decide))) (s1 (cvo rfl (cv_u32_u16 un191 un194 (shr32 p0 16))) (cq [0, 1] [2] (pack_Out_U16_ok ((shr32 p0 16).toUInt16) p1 _ hq5) wf rfl rfl rfl cb122 rfl rfl rfl rfl rfl rfl rfl rfl (sn (SC.region (sm rfl (sm rfl ?_)))))))))
 exact s1 (cvo rfl (cv_u32_u16 un191 un194 p0)) (cq [0, 2] [3] (pack_Out_U16_ok (p0.toUInt16) (p1 ++ [((shr16 ((shr32 p0 16).toUInt16) 8).toUInt8), (((shr32 p0 16).toUInt16).toUInt8)]) _ hq6) wf rfl rfl rfl cb122 rfl rfl rfl rfl rfl rfl rfl rfl (SO.nil (finN (wc (e' := []) [0, 1, 3] [0, 1] (by kernel_rfl) rfl (by kernel_rfl)) lresN rfl)))
noncomputable def pack_Out_U64 (p0 : UInt64) (p1 : List UInt8) : Option Unit :=
 Option.bind (pack_Out_U32 ((shr64 p0 32).toUInt32) p1) fun _ =>
 Option.bind (pack_Out_U32 (p0.toUInt32) ((p1 ++ [((shr16 ((shr32 ((shr64 p0 32).toUInt32) 16).toUInt16) 8).toUInt8), (((shr32 ((shr64 p0 32).toUInt32) 16).toUInt16).toUInt8)]) ++ [((shr16 (((shr64 p0 32).toUInt32).toUInt16) 8).toUInt8), ((((shr64 p0 32).toUInt32).toUInt16).toUInt8)])) fun _ =>
 some ()
theorem pack_Out_U64_ok (p0 : UInt64) (p1 : List UInt8) (r : Unit) (h0 : pack_Out_U64 p0 p1 = some r) : CallAt Tryz.prog 101 [.ref 0 0 0, .d (eU64 p0)] [.box (.agg [.slc 1 1 0 p1.length none]), .row 1 (List.map eU8 p1) true] (.tuple []) [.box (.agg [.slc 2 1 0 (((((p1 ++ [((shr16 ((shr32 ((shr64 p0 32).toUInt32) 16).toUInt16) 8).toUInt8), (((shr32 ((shr64 p0 32).toUInt32) 16).toUInt16).toUInt8)]) ++ [((shr16 (((shr64 p0 32).toUInt32).toUInt16) 8).toUInt8), ((((shr64 p0 32).toUInt32).toUInt16).toUInt8)]) ++ [((shr16 ((shr32 (p0.toUInt32) 16).toUInt16) 8).toUInt8), (((shr32 (p0.toUInt32) 16).toUInt16).toUInt8)]) ++ [((shr16 ((p0.toUInt32).toUInt16) 8).toUInt8), (((p0.toUInt32).toUInt16).toUInt8)]).length) none]), .dead, .row 1 (List.map eU8 ((((p1 ++ [((shr16 ((shr32 ((shr64 p0 32).toUInt32) 16).toUInt16) 8).toUInt8), (((shr32 ((shr64 p0 32).toUInt32) 16).toUInt16).toUInt8)]) ++ [((shr16 (((shr64 p0 32).toUInt32).toUInt16) 8).toUInt8), ((((shr64 p0 32).toUInt32).toUInt16).toUInt8)]) ++ [((shr16 ((shr32 (p0.toUInt32) 16).toUInt16) 8).toUInt8), (((shr32 (p0.toUInt32) 16).toUInt16).toUInt8)]) ++ [((shr16 ((p0.toUInt32).toUInt16) 8).toUInt8), (((p0.toUInt32).toUInt16).toUInt8)])) true] := by
 unfold pack_Out_U64 at h0
 refine fn0 [0, 1] Tryz.func101 rfl rfl rfl rfl rfl ?_
 obtain ⟨_, hq5, h0⟩ := ob h0; obtain ⟨_, hq6, h0⟩ := ob h0; have q := si h0; subst q
 refine sr (sm rfl (sm rfl (s1 (bi (v := .d (eU64 (shr64 p0 32))) rfl rfl (fun X Y => b_u64_shr _ X Y p0 _ (by decide))) (s1 (cvo rfl (cv_u64_u32 un54 un191 (shr64 p0 32))) (cq [0, 1] [2] (pack_Out_U32_ok ((shr64 p0 32).toUInt32) p1 _ hq5) wf rfl rfl rfl cb121 rfl rfl rfl rfl rfl rfl rfl rfl (sn (SC.region (sm rfl (sm rfl ?_)))))))))
 exact s1 (cvo rfl (cv_u64_u32 un54 un191 p0)) (cq [0, 2] [3] (pack_Out_U32_ok (p0.toUInt32) ((p1 ++ [((shr16 ((shr32 ((shr64 p0 32).toUInt32) 16).toUInt16) 8).toUInt8), (((shr32 ((shr64 p0 32).toUInt32) 16).toUInt16).toUInt8)]) ++ [((shr16 (((shr64 p0 32).toUInt32).toUInt16) 8).toUInt8), ((((shr64 p0 32).toUInt32).toUInt16).toUInt8)]) _ hq6) wf rfl rfl rfl cb121 rfl rfl rfl rfl rfl rfl rfl rfl (SO.nil (finN (wc (e' := []) [0, 1, 3] [0, 1] (by kernel_rfl) rfl (by kernel_rfl)) lresN rfl)))
noncomputable def pack_Out_U8 (p0 : UInt8) (p1 : List UInt8) : Option Unit :=
 Option.bind (pack_Out_put_1 [p0] p1) fun _ =>
 some ()
theorem pack_Out_U8_ok (p0 : UInt8) (p1 : List UInt8) (r : Unit) (h0 : pack_Out_U8 p0 p1 = some r) : CallAt Tryz.prog 65 [.ref 0 0 0, .d (eU8 p0)] [.box (.agg [.slc 1 1 0 p1.length none]), .row 1 (List.map eU8 p1) true] (.tuple []) [.box (.agg [.slc 2 1 0 ((p1 ++ [p0]).length) none]), .dead, .row 1 (List.map eU8 (p1 ++ [p0])) true] := by
 unfold pack_Out_U8 at h0
 refine fn0 [0, 1] Tryz.func65 rfl rfl rfl rfl rfl ?_
 obtain ⟨_, hq3, h0⟩ := ob h0; have q := si h0; subst q
 exact SC.region (sm rfl (sm rfl (s1 (bsn (k := 2) (ds := List.map eU8 [p0]) (off := 0) (l' := [p0].length) rfl un125 ei5 rfl rfl (by rfl) rfl rfl rfl) (cq (args' := [.ref 0 0 0, .slc 1 1 0 ([p0].length) none]) (σc := [.box (.agg [.slc 2 1 0 p1.length none]), .row 1 (List.map eU8 [p0]) true, .row 1 (List.map eU8 p1) true]) [0, 2, 1] [3] (CallAt.frz (ArgF.keep (ArgF.frz (fF rfl rfl rfl) (ArgF.nil _))) (fq [0, 2] [3] (pack_Out_put_1_ok [p0] p1 _ hq3) rfl rfl rfl rfl rfl rfl rfl rfl)) wf rfl rfl rfl cb99 rfl rfl rfl rfl rfl rfl rfl rfl (SO.nil (finN (wc (e' := []) [0, 1, 3] [0, 1] (by kernel_rfl) rfl (by kernel_rfl)) lresN rfl))))))
noncomputable def pack_Out_Bytes (p0 : List UInt8) : Option Unit :=
 bif decide (p0.length * 1 ≤ room) then
 some ()
 else none
theorem pack_Out_Bytes_ok (p0 : List UInt8) (r : Unit) (h0 : pack_Out_Bytes p0 = some r) : CallAt Tryz.prog 67 [.ref 0 0 0] [.box (.agg [.slc 1 1 0 p0.length none]), .row 1 (List.map eU8 p0) true] (.slc 2 1 0 p0.length none) [.box (.agg [.slc 1 1 0 p0.length none]), .row 1 (List.map eU8 p0) true, .row 1 (List.map eU8 p0) true] := by
 unfold pack_Out_Bytes at h0
 refine fn0 [0] Tryz.func67 rfl rfl rfl rfl rfl ?_
 obtain ⟨hg3, h0⟩ := gd h0; have q := si h0; subst q
 refine sr (s1 (asg (v := .d .nils) rfl) (sn (sq (sr (sm rfl (s1 (bi (v := .d (eB false)) rfl rfl (fun _ _ => nil_eql un142)) (sn (cF rfl (sk ?_)))))))))
 exact sr (sm rfl (s1 (nkr rfl) (s1 (far (k := 0) rfl fo139_0 ts125 rfl) (s1 (lod rfl (ld_box ts125 ta125 rfl rfl)) (s1 (app rfl rfl rfl rfl bc125 (aN (f := eU8) (k := 2) un125 ei5 (el_full (xs := p0) rfl) hg3 rfl)) (sa rfl (sn (SC.ret (finR (Wk.refl _) (lresT rfl lresN) rfl)))))))))
noncomputable def key_turned (p0 : List UInt8) : Option ((List UInt8)) :=
 Option.bind (α := (List UInt8))
 (Option.bind (α := (List UInt8))
 (loop (Y := (List UInt8) × Int) (W := (List UInt8)) (fun (y75, y76) =>
 bif (decide (y76 < (p0.length : Int))) then
 Option.bind (getI y75 y76) fun v83 =>
 Option.bind (getI y75 y76) fun v84 =>
 some (Sum.inl ((List.set y75 y76.toNat (~~~ v83)), (w64 (y76 + (1 : Int)))))
 else
 some (Sum.inr y75)) (p0, (0 : Int)))
 (fun e => some e))
 fun y71 =>
 some y71
theorem key_turned_ok (p0 : List UInt8) (r : (List UInt8)) (h0 : key_turned p0 = some r) : CallAt Tryz.prog 133 [.slc 0 1 0 p0.length none] [.row 1 (List.map eU8 p0) true] (.slc 0 1 0 r.length none) [.row 1 (List.map eU8 r) true] := by
 unfold key_turned at h0
 refine fn0 [0] Tryz.func133 rfl rfl rfl rfl rfl ?_
 refine sr (s1 (asg (v := .d .nils) rfl) (sn (SC.seqP h0 (fun y => ⟨mk 19 [(0, .slc 0 1 0 y.length none)], [.row 1 (List.map eU8 y) true]⟩) ?_ ?_)))
 ·intro u1_72 h1
  obtain ⟨u2_82, h2, h1⟩ := ob h1
  refine sr (sm rfl (s1 (len rfl rfl rfl (len_slc un125)) (sm rfl (sn (SC.blk (SC.loopB h2 (fun y => ⟨mk 19 [(0, .slc 0 1 0 y.1.length none), (5, .d (eI (p0.length : Int))), (6, .d (eI y.2))], [.row 1 (List.map eU8 y.1) true]⟩) (wq rfl) ?_))))))
  intro n85
  rintro ⟨y75, y76⟩ w2_81 h3 hv3
  refine sr (s1 (bi rfl rfl q_i64_lss) (sn (sq (cB h3 rfl (fun h3 => ?_) (fun h3 => ?_)))))
  ·obtain ⟨v83, hv83, h3⟩ := ob h3; obtain ⟨v84, hv84, h3⟩ := ob h3
   refine sk (sq (SC.blk (sr (sm rfl (sa rfl (sn (SC.region (sm rfl (sm rfl ?_)))))))))
   refine sm rfl (sm rfl (s1 (iaz rfl rfl un125 ts5 (getI_lt hv83)) (s1 (lod rfl (ld_row ts5 ta5 rfl (map_get (getI_some hv83).2) rfl)) (s1 (uo rfl rfl (un_u8_xor v83)) (s1 (iaz rfl rfl un125 ts5 (getI_lt hv84)) (s0 (sto (b := .d (eU8 (~~~ v83))) rfl rfl (sR (f := eU8) (v := (~~~ v83)) ts5 rfl rfl rfl rfl (getI_some hv84).2 rfl rfl)) (SO.nil ?_)))))))
   change SC _ _ _ _ _
   have q := si h3; subst q
   exact SC.region (s1 (bi rfl rfl q_i64_add) (sm rfl (SO.nil (lf (Wk.env (EW.cons (AW.slc rfl (by simp)) (EW.cons (AW.refl _) (EW.cons (AW.refl _) EW.nil))))))))
  ·have q := si h3; subst q; have q : _ = _ := hv3; subst q; have q := si h1; subst q
   exact SC.exit ((wq rfl))
 ·rintro y71 h0
  have q := si h0; subst q
  exact sr (sm rfl (sa rfl (sn (SC.ret (finR (Wk.refl _) (lresT rfl lresN) rfl)))))
noncomputable def key_one (p0 : ApiValue) (p1 : Bool) : Option ((List UInt8)) :=
 Option.bind (pack_Out_Flag (p0.Kind != (0 : Int))) fun r57 =>
 Option.bind (α := (List UInt8))
 (bif (p0.Kind == (1 : Int)) then
 Option.bind (pack_Out_U64 (p0.N ^^^ (9223372036854775808 : UInt64)) r57) fun _ =>
 some ((((r57 ++ [((shr16 ((shr32 ((shr64 (p0.N ^^^ (9223372036854775808 : UInt64)) 32).toUInt32) 16).toUInt16) 8).toUInt8), (((shr32 ((shr64 (p0.N ^^^ (9223372036854775808 : UInt64)) 32).toUInt32) 16).toUInt16).toUInt8)]) ++ [((shr16 (((shr64 (p0.N ^^^ (9223372036854775808 : UInt64)) 32).toUInt32).toUInt16) 8).toUInt8), ((((shr64 (p0.N ^^^ (9223372036854775808 : UInt64)) 32).toUInt32).toUInt16).toUInt8)]) ++ [((shr16 ((shr32 ((p0.N ^^^ (9223372036854775808 : UInt64)).toUInt32) 16).toUInt16) 8).toUInt8), (((shr32 ((p0.N ^^^ (9223372036854775808 : UInt64)).toUInt32) 16).toUInt16).toUInt8)]) ++ [((shr16 (((p0.N ^^^ (9223372036854775808 : UInt64)).toUInt32).toUInt16) 8).toUInt8), ((((p0.N ^^^ (9223372036854775808 : UInt64)).toUInt32).toUInt16).toUInt8)])
 else
 bif (p0.Kind == (2 : Int)) then
 Option.bind (pack_Out_U64 p0.N r57) fun _ =>
 some ((((r57 ++ [((shr16 ((shr32 ((shr64 p0.N 32).toUInt32) 16).toUInt16) 8).toUInt8), (((shr32 ((shr64 p0.N 32).toUInt32) 16).toUInt16).toUInt8)]) ++ [((shr16 (((shr64 p0.N 32).toUInt32).toUInt16) 8).toUInt8), ((((shr64 p0.N 32).toUInt32).toUInt16).toUInt8)]) ++ [((shr16 ((shr32 (p0.N.toUInt32) 16).toUInt16) 8).toUInt8), (((shr32 (p0.N.toUInt32) 16).toUInt16).toUInt8)]) ++ [((shr16 ((p0.N.toUInt32).toUInt16) 8).toUInt8), (((p0.N.toUInt32).toUInt16).toUInt8)])
 else
 bif (p0.Kind == (3 : Int)) then
 Option.bind (pack_Out_U8 (p0.N.toUInt8) r57) fun _ =>
 some (r57 ++ [(p0.N.toUInt8)])
 else
 some r57)
 fun y61 =>
 Option.bind (pack_Out_Bytes y61) fun _ =>
 Option.bind (α := (List UInt8))
 (Option.bind (α := Bool)
 (bif (p0.Kind == (4 : Int)) then
 some true
 else
 some (p0.Kind == (5 : Int)))
 fun y75 =>
 bif y75 then
 Option.bind (replF p0.S ([0] : List UInt8) ([0, 255] : List UInt8)) fun r78 =>
 bif decide ((y61.length + r78.length) * 1 ≤ room) then
 bif decide (((y61 ++ r78).length + [(0 : UInt8), (0 : UInt8)].length) * 1 ≤ room) then
 some ((y61 ++ r78) ++ [(0 : UInt8), (0 : UInt8)])
 else none
 else none
 else
 some y61)
 fun y73 =>
 bif p1 then
 Option.bind (key_turned y73) fun r82 =>
 some r82
 else
 some y73
theorem key_one_ok (p0 : ApiValue) (p1 : Bool) (r : (List UInt8)) (h0 : key_one p0 p1 = some r) : CallAt Tryz.prog 126 [.d (eApiValue p0), .d (eB p1)] [] (.d ((eL 1 eU8) r)) [] := by
 unfold key_one at h0
 refine fn0 [0, 1] Tryz.func126 rfl rfl rfl rfl rfl ?_
 obtain ⟨r57, hq56, h0⟩ := ob h0
 refine sr (s1 (bxo (k := 0) rfl rfl rfl) (s1 (asg (v := .d .nils) rfl) (sn (sr (s1 (alo (k := 1) zo139 rfl) (sn (sr (s1 (far (k := 0) rfl fo68_0 ts3 rfl) (s1 (lod rfl (ld_box ts3 ta3 rfl rfl)) ?_)))))))))
 refine s1 (bi rfl rfl q_i64_neq) (cq [1] [2] (pack_Out_Flag_ok (p0.Kind != (0 : Int)) _ hq56) wf rfl rfl rfl cb100 rfl rfl rfl rfl rfl rfl rfl rfl (sn (SC.seqP h0 (fun y => ⟨mk 51 [(1, .d (eB p1)), (2, .ref 0 0 0), (5, .ref 1 0 0)], [.box (.d (eApiValue p0)), .box (.agg [.slc 2 1 0 y.length none]), .row 1 (List.map eU8 y) true]⟩) ?_ ?_)))
 ·intro u1_62 h1
  refine sr (s1 (far (k := 0) rfl fo68_0 ts3 rfl) (s1 (lod rfl (ld_box ts3 ta3 rfl rfl)) (sn (SC.blk (sr (s1 (bi rfl rfl q_i64_eql) (sa rfl (sn (cB h1 rfl (fun h1 => ?_) (fun h1 => ?_))))))))))
  ·obtain ⟨_, hq63, h1⟩ := ob h1; have q := si h1; subst q
   exact SC.region (s1 (far (k := 1) rfl fo68_1 ts54 rfl) (s1 (lod rfl (ld_box ts54 ta54 rfl rfl)) (s1 (bi rfl rfl (q_u64_xor (b := (9223372036854775808 : UInt64)))) (cq [1, 2] [3] (pack_Out_U64_ok (p0.N ^^^ (9223372036854775808 : UInt64)) r57 _ hq63) wf rfl rfl rfl cb101 rfl rfl rfl rfl rfl rfl rfl rfl (SO.nil ((wc [0, 1, 3] [0, 1] (by kernel_rfl) rfl (by kernel_rfl))))))))
  ·refine sr (s1 (bi rfl rfl q_i64_eql) (sa rfl (sn (cB h1 rfl (fun h1 => ?_) (fun h1 => ?_)))))
   ·obtain ⟨_, hq64, h1⟩ := ob h1; have q := si h1; subst q
    exact SC.region (s1 (far (k := 1) rfl fo68_1 ts54 rfl) (s1 (lod rfl (ld_box ts54 ta54 rfl rfl)) (cq [1, 2] [3] (pack_Out_U64_ok p0.N r57 _ hq64) wf rfl rfl rfl cb101 rfl rfl rfl rfl rfl rfl rfl rfl (SO.nil ((wc [0, 1, 3] [0, 1] (by kernel_rfl) rfl (by kernel_rfl)))))))
   ·refine sr (s1 (bi rfl rfl q_i64_eql) (sa rfl (sn (cB h1 rfl (fun h1 => ?_) (fun h1 => ?_)))))
    ·obtain ⟨_, hq65, h1⟩ := ob h1; have q := si h1; subst q
     exact SC.region (s1 (far (k := 1) rfl fo68_1 ts54 rfl) (s1 (lod rfl (ld_box ts54 ta54 rfl rfl)) (s1 (cvo rfl (cv_u64_u8 un54 un5 p0.N)) (cq [1, 2] [3] (pack_Out_U8_ok (p0.N.toUInt8) r57 _ hq65) wf rfl rfl rfl cb65 rfl rfl rfl rfl rfl rfl rfl rfl (SO.nil ((wc [0, 1, 3] [0, 1] (by kernel_rfl) rfl (by kernel_rfl))))))))
    ·have q := si h1; subst q
     exact SC.skip ((wq rfl))
 ·rintro y61 h0
  obtain ⟨_, hq66, h0⟩ := ob h0
  refine sr (cq [1, 2] [3] (pack_Out_Bytes_ok y61 _ hq66) wf rfl rfl rfl cb67 rfl rfl rfl rfl rfl rfl rfl rfl (sa rfl (sn (SC.seqP h0 (fun y => ⟨mk 51 [(1, .d (eB p1)), (6, .slc 0 1 0 y.length none)], [.row 1 (List.map eU8 y) true]⟩) ?_ ?_))))
  ·intro u1_74 h1
   refine SC.seqP h1 (fun y => ⟨mk 51 [(1, .d (eB p1)), (2, .ref 0 0 0), (6, .slc 1 1 0 y61.length none), (38, .d (eB y))], [.box (.d (eApiValue p0)), .row 1 (List.map eU8 y61) true]⟩) ?_ ?_
   ·intro u2_76 h2
    refine SC.region (s1 (far (k := 0) rfl fo68_0 ts3 rfl) (s1 (lod rfl (ld_box ts3 ta3 rfl rfl)) (s1 (bi rfl rfl q_i64_eql) (sm rfl (sp h2 (fun h2 => ?_) (fun h2 => ?_))))))
    ·have q := si h2; subst q
     exact kw rfl (kw rfl (kw rfl (s1 (pkt rfl rfl) (SO.nil ((wc [0, 3] [0, 3] (by kernel_rfl) rfl (by kernel_rfl)))))))
    ·have q := si h2; subst q
     exact gw rfl (far (k := 0) rfl fo68_0 ts3 rfl) (gw rfl (lod rfl (ld_box ts3 ta3 rfl rfl)) (gw rfl (bi rfl rfl q_i64_eql) (s1 (pkf rfl rfl) (SO.nil ((wc [0, 3] [0, 3] (by kernel_rfl) rfl (by kernel_rfl)))))))
   ·rintro y75 h1
    refine cB h1 rfl (fun h1 => ?_) (fun h1 => ?_)
    ·obtain ⟨r78, hq77, h1⟩ := ob h1; obtain ⟨hg79, h1⟩ := gd h1; obtain ⟨hg80, h1⟩ := gd h1; have q := si h1; subst q
     refine sr (sm rfl (s1 (far (k := 2) rfl fo68_2 ts9 rfl) (s1 (lod rfl (ld_box ts9 ta9 rfl rfl)) (c0 (repl_ok p0.S ([0] : List UInt8) ([0, 255] : List UInt8) _ hq77) wf rfl rfl rfl cb132 rfl (fun _ => rfl) (fun _ => rfl) (s1 (app rfl rfl rfl rfl bc9 (aF (f := eU8) (xs := y61) (k := 2) rfl un125 ei5 rfl el_str hg79 rfl)) (sa rfl (sn (SC.region (sm rfl ?_)))))))))
     exact s1 (bsn (k := 3) (ds := List.map eU8 [(0 : UInt8), (0 : UInt8)]) (off := 0) (l' := [(0 : UInt8), (0 : UInt8)].length) rfl un125 ei5 rfl rfl (by rfl) rfl rfl rfl) (s1 (app rfl rfl rfl rfl bc125 (aF (f := eU8) (xs := (y61 ++ r78)) (k := 4) rfl un125 ei5 rfl (el_full (xs := [(0 : UInt8), (0 : UInt8)]) rfl) hg80 rfl)) (sa rfl (SO.nil ((wc [4] [4] (by kernel_rfl) rfl (by kernel_rfl))))))
    ·have q := si h1; subst q
     exact SC.skip ((wc [1] [1] (by kernel_rfl) rfl (by kernel_rfl)))
  ·rintro y73 h0
   refine sq (sr (sm rfl (sn (cB h0 rfl (fun h0 => ?_) (fun h0 => ?_)))))
   ·obtain ⟨r82, hq81, h0⟩ := ob h0; have q := si h0; subst q
    exact sr (sm rfl (cq [0] [] (key_turned_ok y73 _ hq81) wf rfl rfl rfl cb133 rfl rfl rfl rfl rfl rfl rfl rfl (sa rfl (sn (SC.ret (finR (Wk.trans (Wk.frz (i := 4) (x := .slc 0 1 0 r82.length none) rfl rfl (fF rfl rfl rfl)) (wc (e' := [(4, .d ((eL 1 eU8) r82))]) [] [] (by kernel_rfl) rfl (by kernel_rfl))) (lresT rfl lresN) rfl))))))
   ·have q := si h0; subst q
    exact sk (sr (sm rfl (sa rfl (sn (SC.ret (finR (Wk.trans (Wk.frz (i := 4) (x := .slc 0 1 0 y73.length none) rfl rfl (fF rfl rfl rfl)) (wc (e' := [(4, .d ((eL 1 eU8) y73))]) [] [] (by kernel_rfl) rfl (by kernel_rfl))) (lresT rfl lresN) rfl))))))
noncomputable def key_Encode (p0 : List ApiValue) (p1 : List Bool) : Option ((List UInt8) × Int) :=
 bif ((p0.length : Int) != (p1.length : Int)) then
 some (([] : List UInt8), (1 : Int))
 else
 Option.bind (slices_ContainsFunc_api_Value_api_Value p0) fun r100 =>
 bif r100 then
 some (([] : List UInt8), (8 : Int))
 else
 Option.bind (α := (List UInt8))
 (Option.bind (α := (List UInt8))
 (loop (Y := (List UInt8) × Int) (W := (List UInt8)) (fun (y130, y131) =>
 bif (decide (y131 < (p0.length : Int))) then
 Option.bind (getI p0 y131) fun v141 =>
 Option.bind (getI p1 y131) fun v142 =>
 Option.bind (key_one v141 v142) fun r144 =>
 bif decide ((y130.length + r144.length) * 1 ≤ room) then
 some (Sum.inl ((y130 ++ r144), (w64 (y131 + (1 : Int)))))
 else none
 else
 some (Sum.inr y130)) (([] : List UInt8), (0 : Int)))
 (fun e => some e))
 fun y123 =>
 bif (decide ((y123.length : Int) > (256 : Int))) then
 some (([] : List UInt8), (7 : Int))
 else
 some (y123, (0 : Int))
theorem key_Encode_ok (p0 : List ApiValue) (p1 : List Bool) (r : (List UInt8) × Int) (h0 : key_Encode p0 p1 = some r) : CallAt Tryz.prog 107 [.d ((eL 3 eApiValue) p0), .d ((eL 1 eB) p1)] [] (.tuple [.d (eS r.1), .d (eI r.2)]) [] := by
 unfold key_Encode at h0
 refine fn0 [0, 1] Tryz.func107 rfl rfl rfl rfl rfl ?_
 refine sr (s1 (asg (v := .d (eS ([] : List UInt8))) rfl) (sa rfl (sn (sq (sr (sm rfl (s1 (len rfl rfl rfl (len_lst un28)) (sm rfl (s1 (len rfl rfl rfl (len_lst un177)) ?_)))))))))
 refine s1 (bi rfl rfl q_i64_neq) (sn (cB h0 rfl (fun h0 => ?_) (fun h0 => ?_)))
 ·have q := si h0; subst q
  exact sr (s1 (asg (v := .d (eS ([] : List UInt8))) rfl) (sa rfl (sn (SC.ret (finR (Wk.refl _) (lresT rfl (lresT rfl lresN)) rfl)))))
 ·obtain ⟨r100, hq99, h0⟩ := ob h0
  refine sk (sq (sr (sm rfl (c0 (slices_ContainsFunc_api_Value_api_Value_ok p0 _ hq99) wf rfl rfl rfl cb124 rfl (fun _ => rfl) (fun _ => rfl) (sn (cB h0 rfl (fun h0 => ?_) (fun h0 => ?_)))))))
  ·have q := si h0; subst q
   exact sr (s1 (asg (v := .d (eS ([] : List UInt8))) rfl) (sa rfl (sn (SC.ret (finR (Wk.refl _) (lresT rfl (lresT rfl lresN)) rfl)))))
  ·refine sk (sr (s1 (asg (v := .d .nils) rfl) (sn (SC.seqP h0 (fun y => ⟨mk 37 [(6, .slc 0 1 0 y.length none)], [.row 1 (List.map eU8 y) true]⟩) ?_ ?_))))
   ·intro u1_124 h1
    obtain ⟨u2_140, h2, h1⟩ := ob h1
    refine sr (sm rfl (s1 (len rfl rfl rfl (len_lst un28)) (sm rfl (sn (SC.blk (SC.loopB h2 (fun y => ⟨mk 37 [(1, .d ((eL 1 eB) p1)), (6, .slc 0 1 0 y.1.length none), (16, .d ((eL 3 eApiValue) p0)), (17, .d (eI (p0.length : Int))), (18, .d (eI y.2))], [.row 1 (List.map eU8 y.1) true]⟩) (Wk.trans (Wk.pushE (σ' := [.row 1 (List.map eU8 ([] : List UInt8)) true]) (.row 1 [] true) (fun _ hh => by cases hh) rfl) (Wk.trans (Wk.env (e' := [(1, .d ((eL 1 eB) p1)), (6, .slc 0 1 0 (([] : List UInt8).length) none), (16, .d ((eL 3 eApiValue) p0)), (17, .d (eI (p0.length : Int))), (18, .d (eI (0 : Int)))]) (EW.cons (AW.refl _) (EW.cons (AW.slcn _ _ _) (EW.cons (AW.refl _) (EW.cons (AW.refl _) (EW.cons (AW.refl _) EW.nil)))))) (wq rfl))) ?_))))))
    intro n146
    rintro ⟨y130, y131⟩ w2_139 h3 hv3
    refine sr (s1 (bi rfl rfl q_i64_lss) (sn (sq (cB h3 rfl (fun h3 => ?_) (fun h3 => ?_)))))
    ·obtain ⟨v141, hv141, h3⟩ := ob h3; obtain ⟨v142, hv142, h3⟩ := ob h3; obtain ⟨r144, hq143, h3⟩ := ob h3; obtain ⟨hg145, h3⟩ := gd h3
     refine sk (sq (SC.blk (sr (sm rfl (s1 (ial rfl rfl un28 ts68 (getI_some hv141).1 (map_get (getI_some hv141).2) rfl) (s1 (lod (v := .d (eApiValue v141)) rfl (ld_rop ts68 ta68 rfl)) (s1 (alo (k := 1) zo68 rfl) (sa rfl (s0 (sto rfl rfl (sB (d' := .d (eApiValue v141)) ts68 rfl rfl rfl rfl rfl rfl rfl)) ?_)))))))))
     refine sn (SC.draws (by kernel_rfl) (t1 ([], false) (mv rfl) rfl (t1 ([1], false) (lod (v := .d (eApiValue v141)) rfl (ld_box ts68 ta68 rfl rfl)) rfl (t1 ([], false) (mv rfl) rfl (t1 ([], false) (mv rfl) rfl (t1 ([], false) (ial rfl rfl un177 ts4 (getI_some hv142).1 (map_get (getI_some hv142).2) rfl) rfl (t1 ([], false) (lod rfl (ld_rop ts4 ta4 rfl)) rfl (tc0 (key_one_ok v141 v142 _ hq143) wf rfl rfl rfl cb126 rfl (fun _ => rfl) (fun _ => rfl) (t1 ([0, 2], true) (app rfl rfl rfl rfl bc125 (aF (f := eU8) (xs := y130) (k := 2) rfl un125 ei5 rfl el_lst hg145 rfl)) rfl ?_)))))))))
     refine t1 ([], false) (asg rfl) rfl (ST.nil (And.intro (by decide +kernel) ?_))
     change SC _ _ _ _ _
     have q := si h3; subst q
     exact SC.region (s1 (bi rfl rfl q_i64_add) (sm rfl (SO.nil (lf (wc [2] [2] (by kernel_rfl) rfl (by kernel_rfl))))))
    ·have q := si h3; subst q; have q : _ = _ := hv3; subst q; have q := si h1; subst q
     exact SC.exit ((wq rfl))
   ·rintro y123 h0
    refine sq (sr (sm rfl (s1 (len rfl rfl rfl (len_slc un125)) (s1 (bi rfl rfl q_i64_gtr) (sn (cB h0 rfl (fun h0 => ?_) (fun h0 => ?_)))))))
    ·have q := si h0; subst q
     exact sr (s1 (asg (v := .d (eS ([] : List UInt8))) rfl) (sa rfl (sn (SC.ret (finR (wc (e' := [(4, .d (eS ([] : List UInt8))), (5, .d (eI (7 : Int)))]) [] [] (by kernel_rfl) rfl (by kernel_rfl)) (lresT rfl (lresT rfl lresN)) rfl)))))
    ·have q := si h0; subst q
     exact sk (sr (sm rfl (s1 (cvo (v := .d (eS y123)) rfl (cv_bytes_str un125 un9 un5 (el_full (xs := y123) rfl) (fun _ hh => by cases hh))) (sa rfl (sa rfl (sn (SC.ret (finR (wc (e' := [(4, .d (eS y123)), (5, .d (eI (0 : Int)))]) [] [] (by kernel_rfl) rfl (by kernel_rfl)) (lresT rfl (lresT rfl lresN)) rfl))))))))
noncomputable def schema_keyed (p0 : ApiTable) (p1 : List ApiPart) (p2 : List ApiValue) : Option ((List UInt8) × Bool × Int) :=
 Option.bind (row_Fits p0.Cols p2) fun r127 =>
 bif (r127 != (0 : Int)) then
 some (([] : List UInt8), false, r127)
 else
 Option.bind (α := (List ApiValue) × (List Bool) × Bool)
 (Option.bind (α := (List ApiValue) × (List Bool) × Bool)
 (loop (Y := (List ApiValue) × (List Bool) × Bool × Int) (W := (List ApiValue) × (List Bool) × Bool) (fun (y163, y164, y165, y166) =>
 bif (decide (y166 < (p1.length : Int))) then
 Option.bind (getI p1 y166) fun v178 =>
 Option.bind (getI p2 v178.Col) fun v179 =>
 bif decide ((y163.length + [v179].length) * 32 ≤ room) then
 bif decide ((y164.length + [v178.Down].length) * 1 ≤ room) then
 bif y165 then
 some (Sum.inl ((y163 ++ [v179]), (y164 ++ [v178.Down]), true, (w64 (y166 + (1 : Int)))))
 else
 Option.bind (getI p2 v178.Col) fun v182 =>
 some (Sum.inl ((y163 ++ [v179]), (y164 ++ [v178.Down]), (v182.Kind == (0 : Int)), (w64 (y166 + (1 : Int)))))
 else none
 else none
 else
 some (Sum.inr (y163, y164, y165))) (([] : List ApiValue), ([] : List Bool), false, (0 : Int)))
 (fun e => some e))
 fun (y154, y155, y156) =>
 Option.bind (key_Encode y154 y155) fun (r185, r186) =>
 some (r185, y156, r186)
theorem schema_keyed_ok (p0 : ApiTable) (p1 : List ApiPart) (p2 : List ApiValue) (r : (List UInt8) × Bool × Int) (h0 : schema_keyed p0 p1 p2 = some r) : CallAt Tryz.prog 77 [.d (eApiTable p0), .d ((eL 2 eApiPart) p1), .d ((eL 3 eApiValue) p2)] [] (.tuple [.d (eS r.1), .d (eB r.2.1), .d (eI r.2.2)]) [] := by
 unfold schema_keyed at h0
 refine fn0 [0, 1, 2] Tryz.func77 rfl rfl rfl rfl rfl ?_
 obtain ⟨r127, hq126, h0⟩ := ob h0
 refine sr (s1 (bxo (k := 0) rfl rfl rfl) (s1 (asg (v := .d (eS ([] : List UInt8))) rfl) (sa rfl (sa rfl (sn (sq (sr (s1 (far (k := 1) rfl fo26_1 ts22 rfl) (s1 (lod rfl (ld_box ts22 ta22 rfl rfl)) ?_)))))))))
 refine sm rfl (c0 (row_Fits_ok p0.Cols p2 _ hq126) wf rfl rfl rfl cb64 rfl (fun _ => rfl) (fun _ => rfl) (sa rfl (sn (sr (sm rfl (s1 (bi rfl rfl q_i64_neq) (sn (cB h0 rfl (fun h0 => ?_) (fun h0 => ?_)))))))))
 ·have q := si h0; subst q
  exact sr (sm rfl (s1 (asg (v := .d (eS ([] : List UInt8))) rfl) (sa rfl (sa rfl (sn (SC.ret (finR (wc (e' := [(6, .d (eS ([] : List UInt8))), (7, .d (eB false)), (8, .d (eI r127))]) [] [] (by kernel_rfl) rfl (by kernel_rfl)) (lresT rfl (lresT rfl (lresT rfl lresN))) rfl)))))))
 ·refine sk (sr (s1 (asg (v := .d .nils) rfl) (sn (sr (s1 (asg (v := .d .nils) rfl) (sn (sr (sa rfl (sn ?_)))))))))
  refine SC.seqP h0 (fun y => ⟨mk 63 [(10, .slc 0 3 0 y.1.length none), (11, .slc 1 1 0 y.2.1.length none), (12, .d (eB y.2.2))], [.row 3 (List.map eApiValue y.1) true, .row 1 (List.map eB y.2.1) true]⟩) ?_ ?_
  ·intro u1_157 h1
   obtain ⟨u2_177, h2, h1⟩ := ob h1
   refine sr (sm rfl (s1 (len rfl rfl rfl (len_lst un80)) (sm rfl (sn (SC.blk (SC.loopB h2 (fun y => ⟨mk 63 [(2, .d ((eL 3 eApiValue) p2)), (10, .slc 0 3 0 y.1.length none), (11, .slc 1 1 0 y.2.1.length none), (12, .d (eB y.2.2.1)), (24, .d ((eL 2 eApiPart) p1)), (25, .d (eI (p1.length : Int))), (26, .d (eI y.2.2.2))], [.row 3 (List.map eApiValue y.1) true, .row 1 (List.map eB y.2.1) true]⟩) (Wk.trans (Wk.pushE (σ' := [.box (.d (eApiTable p0)), .row 3 (List.map eApiValue ([] : List ApiValue)) true]) (.row 3 [] true) (fun _ hh => by cases hh) rfl) (Wk.trans (Wk.env (e' := [(2, .d ((eL 3 eApiValue) p2)), (10, .slc 1 3 0 (([] : List ApiValue).length) none), (11, .d .nils), (12, .d (eB false)), (24, .d ((eL 2 eApiPart) p1)), (25, .d (eI (p1.length : Int))), (26, .d (eI (0 : Int)))]) (EW.cons (AW.refl _) (EW.cons (AW.slcn _ _ _) (EW.cons (AW.refl _) (EW.cons (AW.refl _) (EW.cons (AW.refl _) (EW.cons (AW.refl _) (EW.cons (AW.refl _) EW.nil)))))))) (Wk.trans (Wk.pushE (σ' := [.box (.d (eApiTable p0)), .row 3 (List.map eApiValue ([] : List ApiValue)) true, .row 1 (List.map eB ([] : List Bool)) true]) (.row 1 [] true) (fun _ hh => by cases hh) rfl) (Wk.trans (Wk.env (e' := [(2, .d ((eL 3 eApiValue) p2)), (10, .slc 1 3 0 (([] : List ApiValue).length) none), (11, .slc 2 1 0 (([] : List Bool).length) none), (12, .d (eB false)), (24, .d ((eL 2 eApiPart) p1)), (25, .d (eI (p1.length : Int))), (26, .d (eI (0 : Int)))]) (EW.cons (AW.refl _) (EW.cons (AW.refl _) (EW.cons (AW.slcn _ _ _) (EW.cons (AW.refl _) (EW.cons (AW.refl _) (EW.cons (AW.refl _) (EW.cons (AW.refl _) EW.nil)))))))) (wc [1, 2] [1, 2] (by kernel_rfl) rfl (by kernel_rfl)))))) ?_))))))
   intro n183
   rintro ⟨y163, y164, y165, y166⟩ w2_176 h3 hv3
   refine sr (s1 (bi rfl rfl q_i64_lss) (sn (sq (cB h3 rfl (fun h3 => ?_) (fun h3 => ?_)))))
   ·obtain ⟨v178, hv178, h3⟩ := ob h3; obtain ⟨v179, hv179, h3⟩ := ob h3; obtain ⟨hg180, h3⟩ := gd h3; obtain ⟨hg181, h3⟩ := gd h3
    refine sk (sq (SC.blk (sr (s1 (ial rfl rfl un80 ts79 (getI_some hv178).1 (map_get (getI_some hv178).2) rfl) (s1 (lod (v := .d (eApiPart v178)) rfl (ld_rop ts79 ta79 rfl)) (s1 (alo (k := 2) zo79 rfl) (s0 (sto rfl rfl (sB (d' := .d (eApiPart v178)) ts79 rfl rfl rfl rfl rfl rfl rfl)) (sn (sd (by kernel_rfl) ?_)))))))))
    refine t1 ([], false) (mv rfl) rfl (t1 ([], false) (mv rfl) rfl (t1 ([], false) (far (k := 0) rfl fo79_0 ts3 rfl) rfl (t1 ([2], false) (lod rfl (ld_box ts3 ta3 rfl rfl)) rfl (t1 ([], false) (ial rfl rfl un28 ts68 (getI_some hv179).1 (map_get (getI_some hv179).2) rfl) rfl (t1 ([], false) (lod (v := .d (eApiValue v179)) rfl (ld_rop ts68 ta68 rfl)) rfl (t1 ([3], true) (bsn (k := 3) (ds := List.map eApiValue [v179]) (off := 0) (l' := [v179].length) rfl un28 ei68 rfl rfl (by rfl) rfl rfl rfl) rfl (t1 ([0, 3, 4], true) (app rfl rfl rfl rfl bc28 (aF (f := eApiValue) (xs := y163) (k := 4) rfl un28 ei68 rfl (el_full (xs := [v179]) rfl) hg180 rfl)) rfl (t1 ([], false) (mv rfl) rfl (t1 ([], false) (far (k := 1) rfl fo79_1 ts4 rfl) rfl ?_)))))))))
    refine t1 ([2], false) (lod rfl (ld_box ts4 ta4 rfl rfl)) rfl (t1 ([5], true) (bsn (k := 5) (ds := List.map eB [v178.Down]) (off := 0) (l' := [v178.Down].length) rfl un177 ei4 rfl rfl (by rfl) rfl rfl rfl) rfl (t1 ([1, 5, 6], true) (app rfl rfl rfl rfl bc177 (aF (f := eB) (xs := y164) (k := 6) rfl un177 ei4 rfl (el_full (xs := [v178.Down]) rfl) hg181 rfl)) rfl (t1 ([], false) (asg rfl) rfl (t1 ([], false) (asg rfl) rfl (tn (by decide +kernel) (SC.region (sm rfl (sm rfl (sp h3 (fun h3 => ?_) (fun h3 => ?_))))))))))
    ·refine kw rfl (kw rfl (kw rfl (kw rfl (kw rfl (kw rfl (kw rfl (s1 (pkt rfl rfl) (sa rfl (SO.nil ?_)))))))))
     change SC _ _ _ _ _
     have q := si h3; subst q
     exact SC.region (s1 (bi rfl rfl q_i64_add) (sm rfl (SO.nil (lf (wc [4, 6] [4, 6] (by kernel_rfl) rfl (by kernel_rfl))))))
    ·obtain ⟨v182, hv182, h3⟩ := ob h3
     refine gw rfl (mv rfl) (gw rfl (far (k := 0) rfl fo79_0 ts3 rfl) (gw rfl (lod rfl (ld_box ts3 ta3 rfl rfl)) (gw rfl (ial rfl rfl un28 ts68 (getI_some hv182).1 (map_get (getI_some hv182).2) rfl) (gw rfl (fap rfl fo68_0 ts3 rfl) (gw rfl (lod rfl (ld_rop ts3 ta3 rfl)) (gw rfl (bi rfl rfl q_i64_eql) (s1 (pkf rfl rfl) (sa rfl (SO.nil ?_)))))))))
     change SC _ _ _ _ _
     have q := si h3; subst q
     exact SC.region (s1 (bi rfl rfl q_i64_add) (sm rfl (SO.nil (lf (wc [4, 6] [4, 6] (by kernel_rfl) rfl (by kernel_rfl))))))
   ·have q := si h3; subst q; have q : _ = _ := hv3; subst q; have q := si h1; subst q
    exact SC.exit ((wq rfl))
  ·rintro ⟨y154, y155, y156⟩ h0
   obtain ⟨⟨r185, r186⟩, hq184, h0⟩ := ob h0; have q := si h0; subst q
   refine sr (sm rfl (sm rfl (cq (args' := [.slc 0 3 0 y154.length none, .slc 1 1 0 y155.length none]) (σc := [.row 3 (List.map eApiValue y154) true, .row 1 (List.map eB y155) true]) [0, 1] [] (CallAt.frz (ArgF.frz (fF rfl rfl rfl) (ArgF.frz (fF rfl rfl rfl) (ArgF.nil _))) (fq [] [] (key_Encode_ok y154 y155 _ hq184) rfl rfl rfl rfl rfl rfl rfl rfl)) wf rfl rfl rfl cb107 rfl rfl rfl rfl rfl rfl rfl rfl (sm rfl (s1 (ext rfl rfl) (s1 (ext rfl rfl) (sa rfl (sa rfl (sn ?_)))))))))
   exact sr (sm rfl (sm rfl (sm rfl (sa rfl (sa rfl (sa rfl (sn (SC.ret (finR (wc (e' := [(6, .d (eS r185)), (7, .d (eB y156)), (8, .d (eI r186))]) [] [] (by kernel_rfl) rfl (by kernel_rfl)) (lresT rfl (lresT rfl (lresT rfl lresN))) rfl)))))))))
noncomputable def schema_Primary (p0 : ApiTable) (p1 : List ApiValue) : Option ((List UInt8) × Int) :=
 Option.bind (schema_up p0.Primary) fun r16 =>
 Option.bind (schema_keyed p0 r16 p1) fun (r18, r19, r20) =>
 some (r18, r20)
theorem schema_Primary_ok (p0 : ApiTable) (p1 : List ApiValue) (r : (List UInt8) × Int) (h0 : schema_Primary p0 p1 = some r) : CallAt Tryz.prog 45 [.d (eApiTable p0), .d ((eL 3 eApiValue) p1)] [] (.tuple [.d (eS r.1), .d (eI r.2)]) [] := by
 unfold schema_Primary at h0
 refine fn0 [0, 1] Tryz.func45 rfl rfl rfl rfl rfl ?_
 obtain ⟨r16, hq15, h0⟩ := ob h0; obtain ⟨⟨r18, r19, r20⟩, hq17, h0⟩ := ob h0; have q := si h0; subst q
 refine sr (s1 (bxo (k := 0) rfl rfl rfl) (s1 (asg (v := .d (eS ([] : List UInt8))) rfl) (sa rfl (sn (sd (by kernel_rfl) (t1 ([0], false) (lod (v := .d (eApiTable p0)) rfl (ld_box ts26 ta26 rfl rfl)) rfl (t1 ([], false) (far (k := 2) rfl fo26_2 ts23 rfl) rfl (t1 ([0], false) (lod rfl (ld_box ts23 ta23 rfl rfl)) rfl (tc0 (schema_up_ok p0.Primary _ hq15) wf rfl rfl rfl cb78 rfl (fun _ => rfl) (fun _ => rfl) ?_)))))))))
 refine t1 ([], false) (mv rfl) rfl (tc0 (schema_keyed_ok p0 r16 p1 _ hq17) wf rfl rfl rfl cb77 rfl (fun _ => rfl) (fun _ => rfl) (t1 ([], false) (mv rfl) rfl (t1 ([], false) (ext rfl rfl) rfl (t1 ([], false) (ext rfl rfl) rfl (t1 ([], false) (ext rfl rfl) rfl (t1 ([], false) (asg rfl) rfl (t1 ([], false) (asg rfl) rfl (t1 ([], false) (asg rfl) rfl (tn (by decide +kernel) ?_)))))))))
 exact sr (sm rfl (sm rfl (sa rfl (sa rfl (sn (SC.ret (finR (wc (e' := [(4, .d (eS r18)), (5, .d (eI r20))]) [] [] (by kernel_rfl) rfl (by kernel_rfl)) (lresT rfl (lresT rfl lresN)) rfl)))))))
noncomputable def fan_read (p0 : ApiTable) (p1 : List ApiValue) : Option (Int × FanSide) :=
 bif ((p1.length : Int) == (0 : Int)) then
 some ((0 : Int), (FanSide.mk ([] : List ApiValue) ([] : List UInt8)))
 else
 Option.bind (schema_Primary p0 p1) fun (r10, r11) =>
 some (r11, (FanSide.mk p1 r10))
theorem fan_read_ok (p0 : ApiTable) (p1 : List ApiValue) (r : Int × FanSide) (h0 : fan_read p0 p1 = some r) : CallAt Tryz.prog 29 [.d (eApiTable p0), .d ((eL 3 eApiValue) p1)] [] (.tuple [.d (eFanSide r.2), .d (eI r.1)]) [.box (.d (eFanSide r.2))] := by
 unfold fan_read at h0
 refine fn0 [0, 1] Tryz.func29 rfl rfl rfl rfl rfl ?_
 refine sr (s1 (bxo (k := 0) rfl rfl rfl) (s1 (alo (k := 1) zo91 rfl) (sa rfl (sn (sq (sr (sm rfl (s1 (len rfl rfl rfl (len_lst un28)) (s1 (bi rfl rfl q_i64_eql) ?_)))))))))
 refine sn (cB h0 rfl (fun h0 => ?_) (fun h0 => ?_))
 ·have q := si h0; subst q
  exact sr (s1 (bld rfl (bd91_ )) (s0 (sto rfl rfl (sB (d' := .d (.agg [.nils, (eS ([] : List UInt8))])) ts91 rfl rfl rfl rfl rfl rfl rfl)) (sa rfl (sn (SC.ret (finR (Wk.trans (wq (e' := [(4, .ref 1 0 0), (5, .d (eI (0 : Int)))]) rfl) (Wk.trans (Wk.boxE (id := 1) (y := .d (eFanSide (FanSide.mk ([] : List ApiValue) ([] : List UInt8)))) (σ' := [.box (.d (eApiTable p0)), .box (.d (eFanSide (FanSide.mk ([] : List ApiValue) ([] : List UInt8))))]) rfl (AWs.cons (AW.nl _) (AWs.cons (AW.refl _) AWs.nil)) rfl) (wc (e' := [(4, .ref 0 0 0), (5, .d (eI (0 : Int)))]) [1] [1] (by kernel_rfl) rfl (by kernel_rfl)))) (lresC rfl (ld_box ts91 ta91 rfl rfl) (lresT rfl lresN)) rfl))))))
 ·obtain ⟨⟨r10, r11⟩, hq9, h0⟩ := ob h0; have q := si h0; subst q
  refine sk (sr (s1 (lod (v := .d (eApiTable p0)) rfl (ld_box ts26 ta26 rfl rfl)) (sm rfl (c0 (schema_Primary_ok p0 p1 _ hq9) wf rfl rfl rfl cb45 rfl (fun _ => rfl) (fun _ => rfl) (sm rfl (s1 (ext rfl rfl) (s1 (ext rfl rfl) (sa rfl (sa rfl ?_)))))))))
  refine sn (sr (sm rfl (sm rfl (s1 (bld rfl (bd91_0_1 p1 r10)) (sm rfl (s0 (sto rfl rfl (sB (d' := .d (eFanSide (FanSide.mk p1 r10))) ts91 rfl rfl rfl rfl rfl rfl rfl)) (sa rfl (sn (SC.ret ?_)))))))))
  exact finR (wc (e' := [(4, .ref 0 0 0), (5, .d (eI r11))]) [1] [1] (by kernel_rfl) rfl (by kernel_rfl)) (lresC rfl (ld_box ts91 ta91 rfl rfl) (lresT rfl lresN)) rfl
noncomputable def fan_side_there (p0 : FanSide) : Option Unit :=
 some ()
theorem fan_side_there_ok (p0 : FanSide) (r : Unit) (h0 : fan_side_there p0 = some r) : CallAt Tryz.prog 30 [.d (eFanSide p0)] [] (.d (eB (decide ((p0.row.length : Int) > (0 : Int))))) [] := by
 unfold fan_side_there at h0
 refine fn0 [0] Tryz.func30 rfl rfl rfl rfl rfl ?_
 have q := si h0; subst q
 refine sr (s1 (bxo (k := 0) rfl rfl rfl) (sa rfl (sn (sr (s1 (far (k := 0) rfl fo91_0 ts28 rfl) (s1 (lod rfl (ld_box ts28 ta28 rfl rfl)) (s1 (len rfl rfl rfl (len_lst un28)) (s1 (bi rfl rfl q_i64_gtr) (sa rfl ?_)))))))))
 exact sn (SC.ret (finR (wc (e' := [(2, .d (eB (decide ((p0.row.length : Int) > (0 : Int)))))]) [] [] (by kernel_rfl) rfl (by kernel_rfl)) (lresT rfl lresN) rfl))
noncomputable def fan_Point (p0 : List UInt8) : Option Unit :=
 bif decide (p0.length + ([0] : List UInt8).length ≤ 9223372036854775807) then
 some ()
 else none
theorem fan_Point_ok (p0 : List UInt8) (r : Unit) (h0 : fan_Point p0 = some r) : CallAt Tryz.prog 6 [.d (eS p0)] [] (.d (eApiSpan (ApiSpan.mk p0 (p0 ++ ([0] : List UInt8)) false))) [.box (.d (eApiSpan (ApiSpan.mk p0 (p0 ++ ([0] : List UInt8)) false)))] := by
 unfold fan_Point at h0
 refine fn0 [0] Tryz.func6 rfl rfl rfl rfl rfl ?_
 obtain ⟨hg3, h0⟩ := gd h0; have q := si h0; subst q
 refine sr (s1 (alo (k := 0) zo31 rfl) (sn (sr (sm rfl (sm rfl (s1 (bi (v := .d (eS (p0 ++ ([0] : List UInt8)))) rfl rfl (fun X Y => b_str_add _ X Y p0 ([0] : List UInt8) hg3)) (s1 (bld rfl (bd31_0_1 p0 (p0 ++ ([0] : List UInt8)))) (s0 (sto rfl rfl (sB (d' := .d (eApiSpan (ApiSpan.mk p0 (p0 ++ ([0] : List UInt8)) false))) ts31 rfl rfl rfl rfl rfl rfl rfl)) (sn ?_)))))))))
 exact SC.ret (finR (Wk.refl _) (lresC rfl (ld_box ts31 ta31 rfl rfl) lresN) rfl)
noncomputable def fan_Work_own (p0 : Int) (p1 : List UInt8) : Option Unit :=
 Option.bind (fan_Point p1) fun _ =>
 bif decide ([(ApiLock.mk p0 (ApiSpan.mk p1 (p1 ++ ([0] : List UInt8)) false) true)].length * 56 ≤ room) then
 some ()
 else none
theorem fan_Work_own_ok (p0 : Int) (p1 : List UInt8) (r : Unit) (h0 : fan_Work_own p0 p1 = some r) : CallAt Tryz.prog 31 [.ref 0 0 0, .d (eI p0), .d (eS p1)] [.box (.d (.agg [.nils, .nils, .nils]))] (.tuple []) [.box (.agg [.d .nils, .slc 1 5 0 ([(ApiLock.mk p0 (ApiSpan.mk p1 (p1 ++ ([0] : List UInt8)) false) true)].length) none, .d .nils]), .row 5 (List.map eApiLock [(ApiLock.mk p0 (ApiSpan.mk p1 (p1 ++ ([0] : List UInt8)) false) true)]) true] := by
 unfold fan_Work_own at h0
 refine fn0 [0, 1, 2] Tryz.func31 rfl rfl rfl rfl rfl ?_
 obtain ⟨_, hq5, h0⟩ := ob h0; obtain ⟨hg6, h0⟩ := gd h0; have q := si h0; subst q
 refine SC.draws (by kernel_rfl) (t1 ([], false) (mv rfl) rfl (t1 ([], false) (mv rfl) rfl (t1 ([], false) (nkr rfl) rfl (t1 ([], false) (far (k := 1) rfl fo40_1 ts37 rfl) rfl (t1 ([0], false) (lod rfl (ld_box ts37 ta37 rfl rfl)) rfl (t1 ([], false) (mv rfl) rfl (t1 ([], false) (mv rfl) rfl (tq [] [1] ([1], true) (fan_Point_ok p1 _ hq5) wf rfl rfl rfl cb6 rfl rfl rfl rfl rfl rfl rfl rfl rfl (t1 ([], false) (bld rfl (bd137_0_1_2 p0 (ApiSpan.mk p1 (p1 ++ ([0] : List UInt8)) false) true)) rfl ?_)))))))))
 refine t1 ([2], true) (bsn (k := 2) (ds := List.map eApiLock [(ApiLock.mk p0 (ApiSpan.mk p1 (p1 ++ ([0] : List UInt8)) false) true)]) (off := 0) (l' := [(ApiLock.mk p0 (ApiSpan.mk p1 (p1 ++ ([0] : List UInt8)) false) true)].length) rfl un37 ei137 rfl rfl (by rfl) rfl rfl rfl) rfl (t1 ([2, 3], true) (app rfl rfl rfl rfl bc37 (aN (f := eApiLock) (k := 3) un37 ei137 (el_full (xs := [(ApiLock.mk p0 (ApiSpan.mk p1 (p1 ++ ([0] : List UInt8)) false) true)]) rfl) hg6 rfl)) rfl (t1 ([], false) (nkr rfl) rfl (t1 ([], false) (far (k := 1) rfl fo40_1 ts37 rfl) rfl (t0 ([0, 3], true) (sto rfl rfl (sB (d' := .agg [.d .nils, .slc 3 5 0 ([(ApiLock.mk p0 (ApiSpan.mk p1 (p1 ++ ([0] : List UInt8)) false) true)].length) none, .d .nils]) ts37 rfl rfl rfl rfl rfl rfl rfl)) rfl (ST.nil (And.intro (by decide +kernel) ?_))))))
 exact finN (wc (e' := []) [0, 3] [0] (by kernel_rfl) rfl (by kernel_rfl)) lresN rfl
noncomputable def slices_Equal_api_Value_api_Value (p0 : List ApiValue) (p1 : List ApiValue) : Option Bool :=
 bif ((p0.length : Int) != (p1.length : Int)) then
 some false
 else
 bindE (Y := Unit) (E := Bool)
 (Option.bind (α := Unit ⊕ Bool)
 (loop (Y := Int) (W := Unit ⊕ Bool) (fun y62 =>
 bif (decide (y62 < (p0.length : Int))) then
 Option.bind (getI p0 y62) fun v68 =>
 Option.bind (getI p1 y62) fun v69 =>
 bif (!(eqApiValue v68 v69)) then
 some (Sum.inr (Sum.inr false))
 else
 some (Sum.inl (w64 (y62 + (1 : Int))))
 else
 some (Sum.inr (Sum.inl ()))) (0 : Int))
 (Sum.elim (fun e => some (Sum.inl e)) (fun e => some (Sum.inr e))))
 (fun _ =>
 some true)
 (fun e => some e)
theorem slices_Equal_api_Value_api_Value_ok (p0 : List ApiValue) (p1 : List ApiValue) (r : Bool) (h0 : slices_Equal_api_Value_api_Value p0 p1 = some r) : CallAt Tryz.prog 32 [.d ((eL 3 eApiValue) p0), .d ((eL 3 eApiValue) p1)] [] (.d (eB r)) [] := by
 unfold slices_Equal_api_Value_api_Value at h0
 refine fn0 [0, 1] Tryz.func32 rfl rfl rfl rfl rfl ?_
 refine sr (sa rfl (sn (sq (sr (sm rfl (s1 (len rfl rfl rfl (len_lst un28)) (sm rfl (s1 (len rfl rfl rfl (len_lst un28)) (s1 (bi rfl rfl q_i64_neq) ?_)))))))))
 refine sn (cB h0 rfl (fun h0 => ?_) (fun h0 => ?_))
 ·have q := si h0; subst q
  exact sr (sa rfl (sn (SC.ret (finR (Wk.refl _) (lresT rfl lresN) rfl))))
 ·refine sk (SC.seqB h0 (fun y => ⟨mk 26 [], []⟩) ?_ ?_)
  ·intro u1_59 h1 h0
   obtain ⟨u2_67, h2, h1⟩ := ob h1
   refine sr (sm rfl (s1 (len rfl rfl rfl (len_lst un28)) (sm rfl (sn (SC.blk (SC.loopB h2 (fun y => ⟨mk 26 [(0, .d ((eL 3 eApiValue) p0)), (1, .d ((eL 3 eApiValue) p1)), (12, .d (eI (p0.length : Int))), (13, .d (eI y))], []⟩) (wq rfl) ?_))))))
   intro n70
   rintro y62 w2_66 h3 hv3
   refine sr (s1 (bi rfl rfl q_i64_lss) (sn (sq (cB h3 rfl (fun h3 => ?_) (fun h3 => ?_)))))
   ·obtain ⟨v68, hv68, h3⟩ := ob h3; obtain ⟨v69, hv69, h3⟩ := ob h3
    refine sk (sq (SC.blk (sr (sm rfl (sa rfl (sn (sd (by kernel_rfl) (t1 ([], false) (mv rfl) rfl (t1 ([], false) (mv rfl) rfl ?_)))))))))
    refine t1 ([], false) (ial rfl rfl un28 ts68 (getI_some hv68).1 (map_get (getI_some hv68).2) rfl) rfl (t1 ([], false) (lod (v := .d (eApiValue v68)) rfl (ld_rop ts68 ta68 rfl)) rfl (t1 ([], false) (mv rfl) rfl (t1 ([], false) (mv rfl) rfl (t1 ([], false) (ial rfl rfl un28 ts68 (getI_some hv69).1 (map_get (getI_some hv69).2) rfl) rfl (t1 ([], false) (lod (v := .d (eApiValue v69)) rfl (ld_rop ts68 ta68 rfl)) rfl (t1 ([], false) (bi (v := .d (eB (!(eqApiValue v68 v69)))) rfl rfl (fun X Y => eqApiValue_neq_68 X Y v68 v69)) rfl (tn (by decide +kernel) (cB h3 rfl (fun h3 => ?_) (fun h3 => ?_)))))))))
    ·have q := si h3; subst q; have q : _ = _ := hv3; subst q; have q := si h1; subst q; have q := si h0; subst q
     exact sr (sa rfl (sn (SC.ret (finR (Wk.refl _) (lresT rfl lresN) rfl))))
    ·refine SC.skip ?_
     change SC _ _ _ _ _
     have q := si h3; subst q
     exact SC.region (s1 (bi rfl rfl q_i64_add) (sm rfl (SO.nil (lf (wq rfl)))))
   ·have q := si h3; subst q; have q : _ = _ := hv3; subst q; have q := si h1; subst q
    exact SC.exit (lf (wq rfl))
  ·intro _ h0
   have q := si h0; subst q
   exact sr (sa rfl (sn (SC.ret (finR (Wk.refl _) (lresT rfl lresN) rfl))))
noncomputable def pack_Out_U8_1 (p0 : UInt8) : Option Unit :=
 Option.bind (pack_Out_put [p0]) fun _ =>
 some ()
theorem pack_Out_U8_1_ok (p0 : UInt8) (r : Unit) (h0 : pack_Out_U8_1 p0 = some r) : CallAt Tryz.prog 65 [.ref 0 0 0, .d (eU8 p0)] [.box (.d (.agg [.nils]))] (.tuple []) [.box (.agg [.slc 1 1 0 ([p0].length) none]), .row 1 (List.map eU8 [p0]) true] := by
 unfold pack_Out_U8_1 at h0
 refine fn0 [0, 1] Tryz.func65 rfl rfl rfl rfl rfl ?_
 obtain ⟨_, hq3, h0⟩ := ob h0; have q := si h0; subst q
 exact SC.region (sm rfl (sm rfl (s1 (bsn (k := 1) (ds := List.map eU8 [p0]) (off := 0) (l' := [p0].length) rfl un125 ei5 rfl rfl (by rfl) rfl rfl rfl) (cq (args' := [.ref 0 0 0, .slc 1 1 0 ([p0].length) none]) (σc := [.box (.d (.agg [.nils])), .row 1 (List.map eU8 [p0]) true]) [0, 1] [2] (CallAt.frz (ArgF.keep (ArgF.frz (fF rfl rfl rfl) (ArgF.nil _))) (fq [0] [2] (pack_Out_put_ok [p0] _ hq3) rfl rfl rfl rfl rfl rfl rfl rfl)) wf rfl rfl rfl cb99 rfl rfl rfl rfl rfl rfl rfl rfl (SO.nil (finN (wc (e' := []) [0, 2] [0] (by kernel_rfl) rfl (by kernel_rfl)) lresN rfl))))))
noncomputable def pack_Out_Flag_1 (p0 : Bool) (p1 : List UInt8) : Option ((List UInt8)) :=
 bif p0 then
 Option.bind (pack_Out_put_1 [(1 : UInt8)] p1) fun _ =>
 some (p1 ++ [(1 : UInt8)])
 else
 Option.bind (pack_Out_put_1 [(0 : UInt8)] p1) fun _ =>
 some (p1 ++ [(0 : UInt8)])
theorem pack_Out_Flag_1_ok (p0 : Bool) (p1 : List UInt8) (r : (List UInt8)) (h0 : pack_Out_Flag_1 p0 p1 = some r) : CallAt Tryz.prog 100 [.ref 0 0 0, .d (eB p0)] [.box (.agg [.slc 1 1 0 p1.length none]), .row 1 (List.map eU8 p1) true] (.tuple []) [.box (.agg [.slc 2 1 0 r.length none]), .dead, .row 1 (List.map eU8 r) true] := by
 unfold pack_Out_Flag_1 at h0
 refine fn0 [0, 1] Tryz.func100 rfl rfl rfl rfl rfl ?_
 refine sr (sm rfl (sn (cB h0 rfl (fun h0 => ?_) (fun h0 => ?_))))
 ·obtain ⟨_, hq6, h0⟩ := ob h0; have q := si h0; subst q
  exact SC.region (sm rfl (s1 (bsn (k := 2) (ds := List.map eU8 [(1 : UInt8)]) (off := 0) (l' := [(1 : UInt8)].length) rfl un125 ei5 rfl rfl (by rfl) rfl rfl rfl) (cq (args' := [.ref 0 0 0, .slc 1 1 0 ([(1 : UInt8)].length) none]) (σc := [.box (.agg [.slc 2 1 0 p1.length none]), .row 1 (List.map eU8 [(1 : UInt8)]) true, .row 1 (List.map eU8 p1) true]) [0, 2, 1] [3] (CallAt.frz (ArgF.keep (ArgF.frz (fF rfl rfl rfl) (ArgF.nil _))) (fq [0, 2] [3] (pack_Out_put_1_ok [(1 : UInt8)] p1 _ hq6) rfl rfl rfl rfl rfl rfl rfl rfl)) wf rfl rfl rfl cb99 rfl rfl rfl rfl rfl rfl rfl rfl (SO.nil (finN (wc (e' := []) [0, 1, 3] [0, 1] (by kernel_rfl) rfl (by kernel_rfl)) lresN rfl)))))
 ·obtain ⟨_, hq7, h0⟩ := ob h0; have q := si h0; subst q
  exact SC.region (sm rfl (s1 (bsn (k := 2) (ds := List.map eU8 [(0 : UInt8)]) (off := 0) (l' := [(0 : UInt8)].length) rfl un125 ei5 rfl rfl (by rfl) rfl rfl rfl) (cq (args' := [.ref 0 0 0, .slc 1 1 0 ([(0 : UInt8)].length) none]) (σc := [.box (.agg [.slc 2 1 0 p1.length none]), .row 1 (List.map eU8 [(0 : UInt8)]) true, .row 1 (List.map eU8 p1) true]) [0, 2, 1] [3] (CallAt.frz (ArgF.keep (ArgF.frz (fF rfl rfl rfl) (ArgF.nil _))) (fq [0, 2] [3] (pack_Out_put_1_ok [(0 : UInt8)] p1 _ hq7) rfl rfl rfl rfl rfl rfl rfl rfl)) wf rfl rfl rfl cb99 rfl rfl rfl rfl rfl rfl rfl rfl (SO.nil (finN (wc (e' := []) [0, 1, 3] [0, 1] (by kernel_rfl) rfl (by kernel_rfl)) lresN rfl)))))
noncomputable def pack_Out_Text (p0 : List UInt8) (p1 : List UInt8) : Option (Bool × (List UInt8)) :=
 Option.bind (α := Unit)
 (some ())
 fun _ =>
 bif (decide ((p0.length : Int) > (65535 : Int))) then
 some (false, p1)
 else
 Option.bind (pack_Out_U16 (u16i (p0.length : Int)) p1) fun _ =>
 bif decide (((p1 ++ [((shr16 (u16i (p0.length : Int)) 8).toUInt8), ((u16i (p0.length : Int)).toUInt8)]).length + p0.length) * 1 ≤ room) then
 some (true, ((p1 ++ [((shr16 (u16i (p0.length : Int)) 8).toUInt8), ((u16i (p0.length : Int)).toUInt8)]) ++ p0))
 else none
theorem pack_Out_Text_ok (p0 : List UInt8) (p1 : List UInt8) (r : Bool × (List UInt8)) (h0 : pack_Out_Text p0 p1 = some r) : CallAt Tryz.prog 102 [.ref 0 0 0, .d (eS p0)] [.box (.agg [.slc 1 1 0 p1.length none]), .row 1 (List.map eU8 p1) true] (.d (eB r.1)) [.box (.agg [.slc 2 1 0 r.2.length none]), .dead, .row 1 (List.map eU8 r.2) true] := by
 unfold pack_Out_Text at h0
 refine fn0 [0, 1] Tryz.func102 rfl rfl rfl rfl rfl ?_
 refine sr (sa rfl (sn (sq (SC.seqP h0 (fun y => ⟨mk 26 [(0, .ref 0 0 0), (1, .d (eS p0)), (11, .d (eB (decide ((p0.length : Int) > (65535 : Int)))))], [.box (.agg [.slc 1 1 0 p1.length none]), .row 1 (List.map eU8 p1) true]⟩) ?_ ?_))))
 ·intro u1_9 h1
  have q := si h1; subst q
  exact SC.region (sm rfl (s1 (bi (v := .d (eB false)) rfl rfl (fun _ _ => nil_eql un142)) (sm rfl (gw rfl (mv rfl) (gw rfl (len rfl rfl rfl (len_str un9)) (gw rfl (bi rfl rfl q_i64_gtr) (s1 (pkf rfl rfl) (SO.nil ((wq rfl))))))))))
 ·intro _ h0
  refine cB h0 rfl (fun h0 => ?_) (fun h0 => ?_)
  ·have q := si h0; subst q
   exact sr (sa rfl (sn (SC.ret (finR (Wk.trans (wq (e' := [(4, .d (eB false))]) rfl) (Wk.trans (Wk.move (e' := [(4, .d (eB false))]) (os := [.box (.agg [.slc 2 1 0 p1.length none]), .row 1 (List.map eU8 p1) true]) (o := .row 1 (List.map eU8 p1) true) (σ' := [.box (.agg [.slc 2 1 0 p1.length none]), .dead, .row 1 (List.map eU8 p1) true]) 1 (Nat.le_of_ble_eq_true rfl) rfl rfl rfl rfl) (wq (e' := [(4, .d (eB false))]) rfl))) (lresT rfl lresN) rfl))))
  ·obtain ⟨_, hq10, h0⟩ := ob h0; obtain ⟨hg11, h0⟩ := gd h0; have q := si h0; subst q
   refine sk (sr (sm rfl (sm rfl (s1 (len rfl rfl rfl (len_str un9)) (s1 (cvo rfl (cv_i64_u16 un3 un194 (p0.length : Int))) (cq [0, 1] [2] (pack_Out_U16_ok (u16i (p0.length : Int)) p1 _ hq10) wf rfl rfl rfl cb122 rfl rfl rfl rfl rfl rfl rfl rfl (sn (sr (sm rfl ?_)))))))))
   refine sm rfl (s1 (nkr rfl) (s1 (far (k := 0) rfl fo139_0 ts125 rfl) (s1 (lod rfl (ld_box ts125 ta125 rfl rfl)) (sm rfl (s1 (app rfl rfl rfl rfl bc9 (aF (f := eU8) (xs := (p1 ++ [((shr16 (u16i (p0.length : Int)) 8).toUInt8), ((u16i (p0.length : Int)).toUInt8)])) (k := 3) rfl un125 ei5 rfl el_str hg11 rfl)) (s1 (nkr rfl) (s1 (far (k := 0) rfl fo139_0 ts125 rfl) (s0 (sto rfl rfl (sB (d' := .agg [.slc 3 1 0 (((p1 ++ [((shr16 (u16i (p0.length : Int)) 8).toUInt8), ((u16i (p0.length : Int)).toUInt8)]) ++ p0).length) none]) ts125 rfl rfl rfl rfl rfl rfl rfl)) (sn ?_)))))))))
   exact sr (sa rfl (sn (SC.ret (finR (Wk.trans (wq (e' := [(4, .d (eB true))]) rfl) (wc (e' := [(4, .d (eB true))]) [0, 1, 3] [0, 1] (by kernel_rfl) rfl (by kernel_rfl))) (lresT rfl lresN) rfl))))
noncomputable def row_put (p0 : ApiValue) (p1 : List UInt8) : Option ((List UInt8)) :=
 Option.bind (pack_Out_Flag_1 (p0.Kind == (0 : Int)) p1) fun r25 =>
 Option.bind (α := Bool)
 (bif (p0.Kind == (1 : Int)) then
 some (p0.Kind == (1 : Int))
 else
 some (p0.Kind == (2 : Int)))
 fun y26 =>
 bif y26 then
 Option.bind (pack_Out_U64 p0.N r25) fun _ =>
 some ((((r25 ++ [((shr16 ((shr32 ((shr64 p0.N 32).toUInt32) 16).toUInt16) 8).toUInt8), (((shr32 ((shr64 p0.N 32).toUInt32) 16).toUInt16).toUInt8)]) ++ [((shr16 (((shr64 p0.N 32).toUInt32).toUInt16) 8).toUInt8), ((((shr64 p0.N 32).toUInt32).toUInt16).toUInt8)]) ++ [((shr16 ((shr32 (p0.N.toUInt32) 16).toUInt16) 8).toUInt8), (((shr32 (p0.N.toUInt32) 16).toUInt16).toUInt8)]) ++ [((shr16 ((p0.N.toUInt32).toUInt16) 8).toUInt8), (((p0.N.toUInt32).toUInt16).toUInt8)])
 else
 bif (p0.Kind == (3 : Int)) then
 Option.bind (pack_Out_U8 (p0.N.toUInt8) r25) fun _ =>
 some (r25 ++ [(p0.N.toUInt8)])
 else
 Option.bind (α := Bool)
 (bif (p0.Kind == (4 : Int)) then
 some (p0.Kind == (4 : Int))
 else
 some (p0.Kind == (5 : Int)))
 fun y30 =>
 bif y30 then
 Option.bind (pack_Out_Text p0.S r25) fun (r33, r34) =>
 some r34
 else
 some r25
theorem row_put_ok (p0 : ApiValue) (p1 : List UInt8) (r : (List UInt8)) (h0 : row_put p0 p1 = some r) : CallAt Tryz.prog 66 [.ref 0 0 0, .d (eApiValue p0)] [.box (.agg [.slc 1 1 0 p1.length none]), .row 1 (List.map eU8 p1) true] (.tuple []) [.box (.agg [.slc 2 1 0 r.length none]), .dead, .row 1 (List.map eU8 r) true] := by
 unfold row_put at h0
 refine fn0 [0, 1] Tryz.func66 rfl rfl rfl rfl rfl ?_
 obtain ⟨r25, hq24, h0⟩ := ob h0
 refine sr (s1 (bxo (k := 2) rfl rfl rfl) (sn (sr (sm rfl (s1 (far (k := 0) rfl fo68_0 ts3 rfl) (s1 (lod rfl (ld_box ts3 ta3 rfl rfl)) (s1 (bi rfl rfl q_i64_eql) (cq [0, 1] [3] (pack_Out_Flag_1_ok (p0.Kind == (0 : Int)) p1 _ hq24) wf rfl rfl rfl cb100 rfl rfl rfl rfl rfl rfl rfl rfl (sn ?_)))))))))
 refine sr (s1 (far (k := 0) rfl fo68_0 ts3 rfl) (s1 (lod rfl (ld_box ts3 ta3 rfl rfl)) (sn (SC.blk (SC.seqP h0 (fun y => ⟨mk 32 [(0, .ref 0 0 0), (3, .ref 2 0 0), (10, .d (eI p0.Kind)), (11, .d (eB y))], [.box (.agg [.slc 3 1 0 r25.length none]), .dead, .box (.d (eApiValue p0)), .row 1 (List.map eU8 r25) true]⟩) ?_ ?_)))))
 ·intro u1_27 h1
  refine sr (s1 (bi rfl rfl q_i64_eql) (sa rfl (sn (cB h1 rfl (fun h1 => ?_) (fun h1 => ?_)))))
  ·have q := si h1; subst q
   exact SC.skip ((wq rfl))
  ·have q := si h1; subst q
   exact SC.region (s1 (bi rfl rfl q_i64_eql) (sa rfl (SO.nil ((wq rfl)))))
 ·rintro y26 h0
  refine cB h0 rfl (fun h0 => ?_) (fun h0 => ?_)
  ·obtain ⟨_, hq28, h0⟩ := ob h0; have q := si h0; subst q
   exact SC.region (sm rfl (s1 (far (k := 1) rfl fo68_1 ts54 rfl) (s1 (lod rfl (ld_box ts54 ta54 rfl rfl)) (cq [0, 3] [4] (pack_Out_U64_ok p0.N r25 _ hq28) wf rfl rfl rfl cb101 rfl rfl rfl rfl rfl rfl rfl rfl (SO.nil (finN (wc (e' := []) [0, 1, 4] [0, 1] (by kernel_rfl) rfl (by kernel_rfl)) lresN rfl))))))
  ·refine sr (s1 (bi rfl rfl q_i64_eql) (sa rfl (sn (cB h0 rfl (fun h0 => ?_) (fun h0 => ?_)))))
   ·obtain ⟨_, hq29, h0⟩ := ob h0; have q := si h0; subst q
    exact SC.region (sm rfl (s1 (far (k := 1) rfl fo68_1 ts54 rfl) (s1 (lod rfl (ld_box ts54 ta54 rfl rfl)) (s1 (cvo rfl (cv_u64_u8 un54 un5 p0.N)) (cq [0, 3] [4] (pack_Out_U8_ok (p0.N.toUInt8) r25 _ hq29) wf rfl rfl rfl cb65 rfl rfl rfl rfl rfl rfl rfl rfl (SO.nil (finN (wc (e' := []) [0, 1, 4] [0, 1] (by kernel_rfl) rfl (by kernel_rfl)) lresN rfl)))))))
   ·refine SC.seqP h0 (fun y => ⟨mk 32 [(0, .ref 0 0 0), (3, .ref 2 0 0), (25, .d (eB y))], [.box (.agg [.slc 3 1 0 r25.length none]), .dead, .box (.d (eApiValue p0)), .row 1 (List.map eU8 r25) true]⟩) ?_ ?_
    ·intro u1_31 h1
     refine sr (s1 (bi rfl rfl q_i64_eql) (sa rfl (sn (cB h1 rfl (fun h1 => ?_) (fun h1 => ?_)))))
     ·have q := si h1; subst q
      exact SC.skip ((wq rfl))
     ·have q := si h1; subst q
      exact SC.region (s1 (bi rfl rfl q_i64_eql) (sa rfl (SO.nil ((wq rfl)))))
    ·rintro y30 h0
     refine cB h0 rfl (fun h0 => ?_) (fun h0 => ?_)
     ·obtain ⟨⟨r33, r34⟩, hq32, h0⟩ := ob h0; have q := si h0; subst q
      exact SC.region (sm rfl (s1 (far (k := 2) rfl fo68_2 ts9 rfl) (s1 (lod rfl (ld_box ts9 ta9 rfl rfl)) (cq [0, 3] [4] (pack_Out_Text_ok p0.S r25 _ hq32) wf rfl rfl rfl cb102 rfl rfl rfl rfl rfl rfl rfl rfl (SO.nil (finN (wc (e' := []) [0, 1, 4] [0, 1] (by kernel_rfl) rfl (by kernel_rfl)) lresN rfl))))))
     ·have q := si h0; subst q
      exact SC.skip (finN (wc (e' := []) [0, 1, 3] [0, 1] (by kernel_rfl) rfl (by kernel_rfl)) lresN rfl)
noncomputable def row_Encode (p0 : List ApiColumn) (p1 : List ApiValue) : Option ((List UInt8) × Int) :=
 Option.bind (row_Fits p0 p1) fun r80 =>
 bif (r80 != (0 : Int)) then
 some (([] : List UInt8), r80)
 else
 Option.bind (pack_Out_U8_1 (u8i (p1.length : Int))) fun _ =>
 Option.bind (α := (List UInt8))
 (Option.bind (α := (List UInt8))
 (loop (Y := Int × (List UInt8)) (W := (List UInt8)) (fun (y103, y104) =>
 bif (decide (y103 < (p1.length : Int))) then
 Option.bind (getI p1 y103) fun v112 =>
 Option.bind (row_put v112 y104) fun r114 =>
 some (Sum.inl ((w64 (y103 + (1 : Int))), r114))
 else
 some (Sum.inr y104)) ((0 : Int), [(u8i (p1.length : Int))]))
 (fun e => some e))
 fun y98 =>
 Option.bind (pack_Out_Bytes y98) fun _ =>
 bif (decide ((y98.length : Int) > (512 : Int))) then
 some (([] : List UInt8), (7 : Int))
 else
 some (y98, (0 : Int))
theorem row_Encode_ok (p0 : List ApiColumn) (p1 : List ApiValue) (r : (List UInt8) × Int) (h0 : row_Encode p0 p1 = some r) : CallAt Tryz.prog 33 [.d ((eL 7 eApiColumn) p0), .d ((eL 3 eApiValue) p1)] [] (.tuple [.d (eS r.1), .d (eI r.2)]) [] := by
 unfold row_Encode at h0
 refine fn0 [0, 1] Tryz.func33 rfl rfl rfl rfl rfl ?_
 obtain ⟨r80, hq79, h0⟩ := ob h0
 refine sr (s1 (asg (v := .d (eS ([] : List UInt8))) rfl) (sa rfl (sn (sq (sr (sm rfl (sm rfl (c0 (row_Fits_ok p0 p1 _ hq79) wf rfl rfl rfl cb64 rfl (fun _ => rfl) (fun _ => rfl) (sa rfl ?_)))))))))
 refine sn (sr (sm rfl (s1 (bi rfl rfl q_i64_neq) (sn (cB h0 rfl (fun h0 => ?_) (fun h0 => ?_))))))
 ·have q := si h0; subst q
  exact sr (sm rfl (s1 (asg (v := .d (eS ([] : List UInt8))) rfl) (sa rfl (sn (SC.ret (finR (Wk.refl _) (lresT rfl (lresT rfl lresN)) rfl))))))
 ·obtain ⟨_, hq81, h0⟩ := ob h0
  refine sk (sr (s1 (alo (k := 0) zo139 rfl) (sn (sr (sm rfl (s1 (len rfl rfl rfl (len_lst un28)) (s1 (cvo rfl (cv_i64_u8 un3 un5 (p1.length : Int))) (cq [0] [1] (pack_Out_U8_1_ok (u8i (p1.length : Int)) _ hq81) wf rfl rfl rfl cb65 rfl rfl rfl rfl rfl rfl rfl rfl (sn ?_)))))))))
  refine SC.seqP h0 (fun y => ⟨mk 36 [(7, .ref 0 0 0)], [.box (.agg [.slc 1 1 0 y.length none]), .row 1 (List.map eU8 y) true]⟩) ?_ ?_
  ·intro u1_99 h1
   obtain ⟨u2_111, h2, h1⟩ := ob h1
   refine sr (sm rfl (s1 (len rfl rfl rfl (len_lst un28)) (sm rfl (sn (SC.blk (SC.loopB h2 (fun y => ⟨mk 36 [(7, .ref 0 0 0), (21, .d ((eL 3 eApiValue) p1)), (22, .d (eI (p1.length : Int))), (23, .d (eI y.1))], [.box (.agg [.slc 1 1 0 y.2.length none]), .row 1 (List.map eU8 y.2) true]⟩) (wq rfl) ?_))))))
   intro n115
   rintro ⟨y103, y104⟩ w2_110 h3 hv3
   refine sr (s1 (bi rfl rfl q_i64_lss) (sn (sq (cB h3 rfl (fun h3 => ?_) (fun h3 => ?_)))))
   ·obtain ⟨v112, hv112, h3⟩ := ob h3; obtain ⟨r114, hq113, h3⟩ := ob h3
    refine sk (sq (SC.blk (sr (s1 (ial rfl rfl un28 ts68 (getI_some hv112).1 (map_get (getI_some hv112).2) rfl) (s1 (lod (v := .d (eApiValue v112)) rfl (ld_rop ts68 ta68 rfl)) (s1 (alo (k := 2) zo68 rfl) (s0 (sto rfl rfl (sB (d' := .d (eApiValue v112)) ts68 rfl rfl rfl rfl rfl rfl rfl)) (sn (SC.region ?_)))))))))
    refine s1 (lod (v := .d (eApiValue v112)) rfl (ld_box ts68 ta68 rfl rfl)) (cq [0, 1] [3] (row_put_ok v112 y104 _ hq113) wf rfl rfl rfl cb66 rfl rfl rfl rfl rfl rfl rfl rfl (SO.nil ?_))
    change SC _ _ _ _ _
    have q := si h3; subst q
    exact SC.region (s1 (bi rfl rfl q_i64_add) (sm rfl (SO.nil (lf (wc [0, 3] [0] (by kernel_rfl) rfl (by kernel_rfl))))))
   ·have q := si h3; subst q; have q : _ = _ := hv3; subst q; have q := si h1; subst q
    exact SC.exit ((wq rfl))
  ·rintro y98 h0
   obtain ⟨_, hq116, h0⟩ := ob h0
   refine sr (cq [0, 1] [2] (pack_Out_Bytes_ok y98 _ hq116) wf rfl rfl rfl cb67 rfl rfl rfl rfl rfl rfl rfl rfl (sa rfl (sn (sq (sr (sm rfl (s1 (len rfl rfl rfl (len_slc un125)) (s1 (bi rfl rfl q_i64_gtr) (sn ?_)))))))))
   refine cB h0 rfl (fun h0 => ?_) (fun h0 => ?_)
   ·have q := si h0; subst q
    exact sr (s1 (asg (v := .d (eS ([] : List UInt8))) rfl) (sa rfl (sn (SC.ret (finR (wc (e' := [(4, .d (eS ([] : List UInt8))), (5, .d (eI (7 : Int)))]) [] [] (by kernel_rfl) rfl (by kernel_rfl)) (lresT rfl (lresT rfl lresN)) rfl)))))
   ·have q := si h0; subst q
    exact sk (sr (sm rfl (s1 (cvo (v := .d (eS y98)) rfl (cv_bytes_str un125 un9 un5 (el_full (xs := y98) rfl) (fun _ hh => by cases hh))) (sa rfl (sa rfl (sn (SC.ret (finR (wc (e' := [(4, .d (eS y98)), (5, .d (eI (0 : Int)))]) [] [] (by kernel_rfl) rfl (by kernel_rfl)) (lresT rfl (lresT rfl lresN)) rfl))))))))
noncomputable def fan_Work_do (p0 : Int) (p1 : ApiMsg) (p2 : List ApiLock) : Option Unit :=
 bif decide ([(ForestOp.mk (1 : Int) p0 p1)].length * 88 ≤ room) then
 some ()
 else none
theorem fan_Work_do_ok (p0 : Int) (p1 : ApiMsg) (p2 : List ApiLock) (r : Unit) (h0 : fan_Work_do p0 p1 p2 = some r) : CallAt Tryz.prog 34 [.ref 0 0 0, .d (eI p0), .d (eApiMsg p1)] [.box (.agg [.d .nils, .slc 1 5 0 p2.length none, .d .nils]), .row 5 (List.map eApiLock p2) true] (.tuple []) [.box (.agg [.slc 2 9 0 ([(ForestOp.mk (1 : Int) p0 p1)].length) none, .slc 1 5 0 p2.length none, .d .nils]), .row 5 (List.map eApiLock p2) true, .row 9 (List.map eForestOp [(ForestOp.mk (1 : Int) p0 p1)]) true] := by
 unfold fan_Work_do at h0
 refine fn0 [0, 1, 2] Tryz.func34 rfl rfl rfl rfl rfl ?_
 obtain ⟨hg3, h0⟩ := gd h0; have q := si h0; subst q
 refine sr (s1 (bxo (k := 2) rfl rfl rfl) (sn (SC.draws (by kernel_rfl) (t1 ([], false) (mv rfl) rfl (t1 ([], false) (mv rfl) rfl (t1 ([], false) (nkr rfl) rfl (t1 ([], false) (far (k := 0) rfl fo40_0 ts36 rfl) rfl (t1 ([0], false) (lod rfl (ld_box ts36 ta36 rfl rfl)) rfl (t1 ([], false) (mv rfl) rfl ?_)))))))))
 refine t1 ([2], false) (lod (v := .d (eApiMsg p1)) rfl (ld_box ts63 ta63 rfl rfl)) rfl (t1 ([], false) (bld rfl (bd65_0_1_2 (1 : Int) p0 p1)) rfl (t1 ([3], true) (bsn (k := 3) (ds := List.map eForestOp [(ForestOp.mk (1 : Int) p0 p1)]) (off := 0) (l' := [(ForestOp.mk (1 : Int) p0 p1)].length) rfl un36 ei65 rfl rfl (by rfl) rfl rfl rfl) rfl (t1 ([3, 4], true) (app rfl rfl rfl rfl bc36 (aN (f := eForestOp) (k := 4) un36 ei65 (el_full (xs := [(ForestOp.mk (1 : Int) p0 p1)]) rfl) hg3 rfl)) rfl (t1 ([], false) (nkr rfl) rfl (t1 ([], false) (far (k := 0) rfl fo40_0 ts36 rfl) rfl (t0 ([0, 4], true) (sto rfl rfl (sB (d' := .agg [.slc 4 9 0 ([(ForestOp.mk (1 : Int) p0 p1)].length) none, .slc 1 5 0 p2.length none, .d .nils]) ts36 rfl rfl rfl rfl rfl rfl rfl)) rfl (ST.nil (And.intro (by decide +kernel) ?_))))))))
 exact finN (wc (e' := []) [0, 1, 4] [0, 1] (by kernel_rfl) rfl (by kernel_rfl)) lresN rfl
noncomputable def schema_Front (p0 : ApiTable) (p1 : ApiIndex) (p2 : List ApiValue) : Option ((List UInt8) × Bool × Int) :=
 Option.bind (schema_keyed p0 p1.Parts p2) fun (r13, r14, r15) =>
 some (r13, r14, r15)
theorem schema_Front_ok (p0 : ApiTable) (p1 : ApiIndex) (p2 : List ApiValue) (r : (List UInt8) × Bool × Int) (h0 : schema_Front p0 p1 p2 = some r) : CallAt Tryz.prog 69 [.d (eApiTable p0), .d (eApiIndex p1), .d ((eL 3 eApiValue) p2)] [] (.tuple [.d (eS r.1), .d (eB r.2.1), .d (eI r.2.2)]) [] := by
 unfold schema_Front at h0
 refine fn0 [0, 1, 2] Tryz.func69 rfl rfl rfl rfl rfl ?_
 obtain ⟨⟨r13, r14, r15⟩, hq12, h0⟩ := ob h0; have q := si h0; subst q
 refine sr (s1 (bxo (k := 0) rfl rfl rfl) (s1 (bxo (k := 1) rfl rfl rfl) (s1 (asg (v := .d (eS ([] : List UInt8))) rfl) (sa rfl (sa rfl (sn (sr (s1 (lod (v := .d (eApiTable p0)) rfl (ld_box ts26 ta26 rfl rfl)) (s1 (far (k := 1) rfl fo82_1 ts80 rfl) ?_)))))))))
 refine s1 (lod rfl (ld_box ts80 ta80 rfl rfl)) (sm rfl (c0 (schema_keyed_ok p0 p1.Parts p2 _ hq12) wf rfl rfl rfl cb77 rfl (fun _ => rfl) (fun _ => rfl) (s1 (ext rfl rfl) (s1 (ext rfl rfl) (s1 (ext rfl rfl) (sa rfl (sa rfl (sa rfl (sn ?_)))))))))
 exact SC.ret (finR (wc (e' := [(6, .d (eS r13)), (7, .d (eB r14)), (8, .d (eI r15))]) [] [] (by kernel_rfl) rfl (by kernel_rfl)) (lresT rfl (lresT rfl (lresT rfl lresN))) rfl)
noncomputable def schema_extras (p0 : ApiTable) (p1 : ApiIndex) : Option ((List ApiColumn)) :=
 Option.bind (α := (List ApiColumn))
 (Option.bind (α := (List ApiColumn))
 (loop (Y := (List ApiColumn) × Int) (W := (List ApiColumn)) (fun (y91, y92) =>
 bif (decide (y92 < (p1.Extra.length : Int))) then
 Option.bind (getI p1.Extra y92) fun v100 =>
 Option.bind (getI p0.Cols v100) fun v101 =>
 bif decide ((y91.length + [v101].length) * 72 ≤ room) then
 some (Sum.inl ((y91 ++ [v101]), (w64 (y92 + (1 : Int)))))
 else none
 else
 some (Sum.inr y91)) (([] : List ApiColumn), (0 : Int)))
 (fun e => some e))
 fun y86 =>
 some y86
theorem schema_extras_ok (p0 : ApiTable) (p1 : ApiIndex) (r : (List ApiColumn)) (h0 : schema_extras p0 p1 = some r) : CallAt Tryz.prog 103 [.d (eApiTable p0), .d (eApiIndex p1)] [] (.d ((eL 7 eApiColumn) r)) [] := by
 unfold schema_extras at h0
 refine fn0 [0, 1] Tryz.func103 rfl rfl rfl rfl rfl ?_
 refine sr (s1 (bxo (k := 0) rfl rfl rfl) (s1 (bxo (k := 1) rfl rfl rfl) (s1 (asg (v := .d .nils) rfl) (sn (sr (s1 (asg (v := .d .nils) rfl) (sn (SC.seqP h0 (fun y => ⟨mk 25 [(5, .slc 0 7 0 y.length none)], [.row 7 (List.map eApiColumn y) true]⟩) ?_ ?_))))))))
 ·intro u1_87 h1
  obtain ⟨u2_99, h2, h1⟩ := ob h1
  refine sr (s1 (far (k := 2) rfl fo82_2 ts23 rfl) (s1 (lod rfl (ld_box ts23 ta23 rfl rfl)) (s1 (len rfl rfl rfl (len_lst un23)) (sm rfl (sn (SC.blk (SC.loopB h2 (fun y => ⟨mk 25 [(2, .ref 0 0 0), (5, .slc 1 7 0 y.1.length none), (9, .d ((eL 1 eI) p1.Extra)), (10, .d (eI (p1.Extra.length : Int))), (11, .d (eI y.2))], [.box (.d (eApiTable p0)), .row 7 (List.map eApiColumn y.1) true]⟩) (Wk.trans (Wk.pushE (σ' := [.box (.d (eApiTable p0)), .box (.d (eApiIndex p1)), .row 7 (List.map eApiColumn ([] : List ApiColumn)) true]) (.row 7 [] true) (fun _ hh => by cases hh) rfl) (Wk.trans (Wk.env (e' := [(2, .ref 0 0 0), (5, .slc 2 7 0 (([] : List ApiColumn).length) none), (9, .d ((eL 1 eI) p1.Extra)), (10, .d (eI (p1.Extra.length : Int))), (11, .d (eI (0 : Int)))]) (EW.cons (AW.refl _) (EW.cons (AW.slcn _ _ _) (EW.cons (AW.refl _) (EW.cons (AW.refl _) (EW.cons (AW.refl _) EW.nil)))))) (wc [0, 2] [0, 2] (by kernel_rfl) rfl (by kernel_rfl)))) ?_)))))))
  intro n103
  rintro ⟨y91, y92⟩ w2_98 h3 hv3
  refine sr (s1 (bi rfl rfl q_i64_lss) (sn (sq (cB h3 rfl (fun h3 => ?_) (fun h3 => ?_)))))
  ·obtain ⟨v100, hv100, h3⟩ := ob h3; obtain ⟨v101, hv101, h3⟩ := ob h3; obtain ⟨hg102, h3⟩ := gd h3
   refine sk (sq (SC.blk (sr (s1 (ial rfl rfl un23 ts3 (getI_some hv100).1 (map_get (getI_some hv100).2) rfl) (s1 (lod rfl (ld_rop ts3 ta3 rfl)) (sa rfl (sn (SC.region (sm rfl ?_)))))))))
   refine s1 (far (k := 1) rfl fo26_1 ts22 rfl) (s1 (lod rfl (ld_box ts22 ta22 rfl rfl)) (sm rfl (s1 (ial rfl rfl un22 ts77 (getI_some hv101).1 (map_get (getI_some hv101).2) rfl) (s1 (lod (v := .d (eApiColumn v101)) rfl (ld_rop ts77 ta77 rfl)) (s1 (bsn (k := 2) (ds := List.map eApiColumn [v101]) (off := 0) (l' := [v101].length) rfl un22 ei77 rfl rfl (by rfl) rfl rfl rfl) (s1 (app rfl rfl rfl rfl bc22 (aF (f := eApiColumn) (xs := y91) (k := 3) rfl un22 ei77 rfl (el_full (xs := [v101]) rfl) hg102 rfl)) (sa rfl (SO.nil ?_))))))))
   change SC _ _ _ _ _
   have q := si h3; subst q
   exact SC.region (s1 (bi rfl rfl q_i64_add) (sm rfl (SO.nil (lf (wc [0, 3] [0, 3] (by kernel_rfl) rfl (by kernel_rfl))))))
  ·have q := si h3; subst q; have q : _ = _ := hv3; subst q; have q := si h1; subst q
   exact SC.exit ((wc [1] [1] (by kernel_rfl) rfl (by kernel_rfl)))
 ·rintro y86 h0
  have q := si h0; subst q
  exact sr (sm rfl (sa rfl (sn (SC.ret (finR (Wk.trans (Wk.frz (i := 4) (x := .slc 0 7 0 y86.length none) rfl rfl (fF rfl rfl rfl)) (wc (e' := [(4, .d ((eL 7 eApiColumn) y86))]) [] [] (by kernel_rfl) rfl (by kernel_rfl))) (lresT rfl lresN) rfl)))))
noncomputable def schema_Entry (p0 : ApiTable) (p1 : ApiIndex) (p2 : List ApiValue) : Option (Int × ApiPair) :=
 Option.bind (schema_Front p0 p1 p2) fun (r182, r183, r184) =>
 bif (r184 != (0 : Int)) then
 some (r184, (ApiPair.mk ([] : List UInt8) ([] : List UInt8)))
 else
 Option.bind (schema_Primary p0 p2) fun (r186, r187) =>
 bif decide (r182.length + r186.length ≤ 9223372036854775807) then
 Option.bind (α := Int × ApiPair)
 (bif (decide ((p1.Extra.length : Int) > (0 : Int))) then
 Option.bind (α := (List ApiValue))
 (Option.bind (α := (List ApiValue))
 (loop (Y := (List ApiValue) × Int) (W := (List ApiValue)) (fun (y252, y253) =>
 bif (decide (y253 < (p1.Extra.length : Int))) then
 Option.bind (getI p1.Extra y253) fun v261 =>
 Option.bind (getI p2 v261) fun v262 =>
 bif decide ((y252.length + [v262].length) * 32 ≤ room) then
 some (Sum.inl ((y252 ++ [v262]), (w64 (y253 + (1 : Int)))))
 else none
 else
 some (Sum.inr y252)) (([] : List ApiValue), (0 : Int)))
 (fun e => some e))
 fun y247 =>
 Option.bind (schema_extras p0 p1) fun r266 =>
 Option.bind (row_Encode r266 y247) fun (r268, r269) =>
 some (r269, (ApiPair.mk (r182 ++ r186) r268))
 else
 some (r184, (ApiPair.mk (r182 ++ r186) ([] : List UInt8))))
 fun (y228, y229) =>
 some (y228, y229)
 else none
theorem schema_Entry_ok (p0 : ApiTable) (p1 : ApiIndex) (p2 : List ApiValue) (r : Int × ApiPair) (h0 : schema_Entry p0 p1 p2 = some r) : CallAt Tryz.prog 68 [.d (eApiTable p0), .d (eApiIndex p1), .d ((eL 3 eApiValue) p2)] [] (.tuple [.d (eApiPair r.2), .d (eI r.1)]) [.box (.d (eApiPair r.2))] := by
 unfold schema_Entry at h0
 refine fn0 [0, 1, 2] Tryz.func68 rfl rfl rfl rfl rfl ?_
 obtain ⟨⟨r182, r183, r184⟩, hq181, h0⟩ := ob h0
 refine sr (s1 (bxo (k := 0) rfl rfl rfl) (s1 (bxo (k := 1) rfl rfl rfl) (s1 (alo (k := 2) zo145 rfl) (sa rfl (sn (sr (s1 (lod (v := .d (eApiTable p0)) rfl (ld_box ts26 ta26 rfl rfl)) (s1 (lod (v := .d (eApiIndex p1)) rfl (ld_box ts82 ta82 rfl rfl)) (sm rfl ?_)))))))))
 refine c0 (schema_Front_ok p0 p1 p2 _ hq181) wf rfl rfl rfl cb69 rfl (fun _ => rfl) (fun _ => rfl) (sm rfl (s1 (ext rfl rfl) (s1 (ext rfl rfl) (s1 (ext rfl rfl) (sa rfl (sa rfl (sa rfl (sn (sq ?_)))))))))
 refine sr (sm rfl (s1 (bi rfl rfl q_i64_neq) (sn (cB h0 rfl (fun h0 => ?_) (fun h0 => ?_)))))
 ·have q := si h0; subst q
  exact sr (s1 (bld rfl (bd145_ )) (sm rfl (s0 (sto rfl rfl (sB (d' := .d (eApiPair (ApiPair.mk ([] : List UInt8) ([] : List UInt8)))) ts145 rfl rfl rfl rfl rfl rfl rfl)) (sa rfl (sn (SC.ret (finR (wc (e' := [(6, .ref 0 0 0), (7, .d (eI r184))]) [2] [2] (by kernel_rfl) rfl (by kernel_rfl)) (lresC rfl (ld_box ts145 ta145 rfl rfl) (lresT rfl lresN)) rfl)))))))
 ·obtain ⟨⟨r186, r187⟩, hq185, h0⟩ := ob h0; obtain ⟨hg188, h0⟩ := gd h0
  refine sk (sr (s1 (lod (v := .d (eApiTable p0)) rfl (ld_box ts26 ta26 rfl rfl)) (sm rfl (c0 (schema_Primary_ok p0 p2 _ hq185) wf rfl rfl rfl cb45 rfl (fun _ => rfl) (fun _ => rfl) (sm rfl (s1 (ext rfl rfl) (s1 (ext rfl rfl) (sa rfl (sa rfl ?_)))))))))
  refine sn (sr (sm rfl (sm rfl (s1 (bi (v := .d (eS (r182 ++ r186))) rfl rfl (fun X Y => b_str_add _ X Y r182 r186 hg188)) (s1 (bld rfl (bd145_0 (r182 ++ r186))) (s1 (alo (k := 3) zo145 rfl) (s0 (sto rfl rfl (sB (d' := .d (eApiPair (ApiPair.mk (r182 ++ r186) ([] : List UInt8)))) ts145 rfl rfl rfl rfl rfl rfl rfl)) (sn (SC.seqP h0 (fun y => ⟨mk 69 [(6, .ref 0 0 0), (10, .d (eI y.1)), (13, .ref 1 0 0)], [.box (.d (eApiPair (ApiPair.mk ([] : List UInt8) ([] : List UInt8)))), .box (.d (eApiPair y.2))]⟩) ?_ ?_)))))))))
  ·intro u1_230 h1
   refine sr (s1 (far (k := 2) rfl fo82_2 ts23 rfl) (s1 (lod rfl (ld_box ts23 ta23 rfl rfl)) (s1 (len rfl rfl rfl (len_lst un23)) (s1 (bi rfl rfl q_i64_gtr) (sn (cB h1 rfl (fun h1 => ?_) (fun h1 => ?_)))))))
   ·refine sr (s1 (asg (v := .d .nils) rfl) (sn (SC.seqP h1 (fun y => ⟨mk 69 [(3, .ref 0 0 0), (4, .ref 1 0 0), (6, .ref 2 0 0), (13, .ref 3 0 0), (14, .slc 4 3 0 y.length none)], [.box (.d (eApiTable p0)), .box (.d (eApiIndex p1)), .box (.d (eApiPair (ApiPair.mk ([] : List UInt8) ([] : List UInt8)))), .box (.d (eApiPair (ApiPair.mk (r182 ++ r186) ([] : List UInt8)))), .row 3 (List.map eApiValue y) true]⟩) ?_ ?_)))
    ·intro u2_248 h2
     obtain ⟨u3_260, h3, h2⟩ := ob h2
     refine sr (s1 (far (k := 2) rfl fo82_2 ts23 rfl) (s1 (lod rfl (ld_box ts23 ta23 rfl rfl)) (s1 (len rfl rfl rfl (len_lst un23)) (sm rfl (sn (SC.blk (SC.loopB h3 (fun y => ⟨mk 69 [(2, .d ((eL 3 eApiValue) p2)), (3, .ref 0 0 0), (4, .ref 1 0 0), (6, .ref 2 0 0), (13, .ref 3 0 0), (14, .slc 4 3 0 y.1.length none), (44, .d ((eL 1 eI) p1.Extra)), (45, .d (eI (p1.Extra.length : Int))), (46, .d (eI y.2))], [.box (.d (eApiTable p0)), .box (.d (eApiIndex p1)), .box (.d (eApiPair (ApiPair.mk ([] : List UInt8) ([] : List UInt8)))), .box (.d (eApiPair (ApiPair.mk (r182 ++ r186) ([] : List UInt8)))), .row 3 (List.map eApiValue y.1) true]⟩) (Wk.trans (Wk.pushE (σ' := [.box (.d (eApiTable p0)), .box (.d (eApiIndex p1)), .box (.d (eApiPair (ApiPair.mk ([] : List UInt8) ([] : List UInt8)))), .box (.d (eApiPair (ApiPair.mk (r182 ++ r186) ([] : List UInt8)))), .row 3 (List.map eApiValue ([] : List ApiValue)) true]) (.row 3 [] true) (fun _ hh => by cases hh) rfl) (Wk.trans (Wk.env (e' := [(2, .d ((eL 3 eApiValue) p2)), (3, .ref 0 0 0), (4, .ref 1 0 0), (6, .ref 2 0 0), (13, .ref 3 0 0), (14, .slc 4 3 0 (([] : List ApiValue).length) none), (44, .d ((eL 1 eI) p1.Extra)), (45, .d (eI (p1.Extra.length : Int))), (46, .d (eI (0 : Int)))]) (EW.cons (AW.refl _) (EW.cons (AW.refl _) (EW.cons (AW.refl _) (EW.cons (AW.refl _) (EW.cons (AW.refl _) (EW.cons (AW.slcn _ _ _) (EW.cons (AW.refl _) (EW.cons (AW.refl _) (EW.cons (AW.refl _) EW.nil)))))))))) (wq rfl))) ?_)))))))
     intro n264
     rintro ⟨y252, y253⟩ w3_259 h4 hv4
     refine sr (s1 (bi rfl rfl q_i64_lss) (sn (sq (cB h4 rfl (fun h4 => ?_) (fun h4 => ?_)))))
     ·obtain ⟨v261, hv261, h4⟩ := ob h4; obtain ⟨v262, hv262, h4⟩ := ob h4; obtain ⟨hg263, h4⟩ := gd h4
      refine sk (sq (SC.blk (sr (s1 (ial rfl rfl un23 ts3 (getI_some hv261).1 (map_get (getI_some hv261).2) rfl) (s1 (lod rfl (ld_rop ts3 ta3 rfl)) (sa rfl (sn (SC.region (sm rfl ?_)))))))))
      refine sm rfl (sm rfl (s1 (ial rfl rfl un28 ts68 (getI_some hv262).1 (map_get (getI_some hv262).2) rfl) (s1 (lod (v := .d (eApiValue v262)) rfl (ld_rop ts68 ta68 rfl)) (s1 (bsn (k := 5) (ds := List.map eApiValue [v262]) (off := 0) (l' := [v262].length) rfl un28 ei68 rfl rfl (by rfl) rfl rfl rfl) (s1 (app rfl rfl rfl rfl bc28 (aF (f := eApiValue) (xs := y252) (k := 6) rfl un28 ei68 rfl (el_full (xs := [v262]) rfl) hg263 rfl)) (sa rfl (SO.nil ?_)))))))
      change SC _ _ _ _ _
      have q := si h4; subst q
      exact SC.region (s1 (bi rfl rfl q_i64_add) (sm rfl (SO.nil (lf (wc [0, 1, 2, 3, 6] [0, 1, 2, 3, 6] (by kernel_rfl) rfl (by kernel_rfl))))))
     ·have q := si h4; subst q; have q : _ = _ := hv4; subst q; have q := si h2; subst q
      exact SC.exit ((wq rfl))
    ·rintro y247 h1
     obtain ⟨r266, hq265, h1⟩ := ob h1; obtain ⟨⟨r268, r269⟩, hq267, h1⟩ := ob h1; have q := si h1; subst q
     refine SC.region (s1 (lod (v := .d (eApiTable p0)) rfl (ld_box ts26 ta26 rfl rfl)) (s1 (lod (v := .d (eApiIndex p1)) rfl (ld_box ts82 ta82 rfl rfl)) (c0 (schema_extras_ok p0 p1 _ hq265) wf rfl rfl rfl cb103 rfl (fun _ => rfl) (fun _ => rfl) (sm rfl (cq (args' := [.d ((eL 7 eApiColumn) r266), .slc 0 3 0 y247.length none]) (σc := [.row 3 (List.map eApiValue y247) true]) [4] [] (CallAt.frz (ArgF.keep (ArgF.frz (fF rfl rfl rfl) (ArgF.nil _))) (fq [] [] (row_Encode_ok r266 y247 _ hq267) rfl rfl rfl rfl rfl rfl rfl rfl)) wf rfl rfl rfl cb33 rfl rfl rfl rfl rfl rfl rfl rfl (sm rfl (s1 (ext rfl rfl) (s1 (ext rfl rfl) (s1 (far (k := 1) rfl fo145_1 ts9 rfl) ?_)))))))))
     exact s0 (sto rfl rfl (sB (d' := .d (eApiPair (ApiPair.mk (r182 ++ r186) r268))) ts9 rfl rfl rfl rfl rfl rfl rfl)) (sa rfl (SO.nil ((wc [2, 3] [2, 3] (by kernel_rfl) rfl (by kernel_rfl)))))
   ·have q := si h1; subst q
    exact SC.skip ((wc [2, 3] [2, 3] (by kernel_rfl) rfl (by kernel_rfl)))
  ·rintro ⟨y228, y229⟩ h0
   have q := si h0; subst q
   exact sr (s1 (lod (v := .d (eApiPair y229)) rfl (ld_box ts145 ta145 rfl rfl)) (sm rfl (s0 (sto rfl rfl (sB (d' := .d (eApiPair y229)) ts145 rfl rfl rfl rfl rfl rfl rfl)) (sa rfl (sn (SC.ret (finR (wc (e' := [(6, .ref 0 0 0), (7, .d (eI y228))]) [0] [0] (by kernel_rfl) rfl (by kernel_rfl)) (lresC rfl (ld_box ts145 ta145 rfl rfl) (lresT rfl lresN)) rfl)))))))
noncomputable def key_After (p0 : List UInt8) : Option ((List UInt8) × Bool) :=
 Option.bind (α := Nat)
 (Option.bind (α := Nat)
 (loop (Y := Nat) (W := Nat) (fun y120 =>
 Option.bind (α := Bool)
 (bif (decide ((y120 : Int) > (0 : Int))) then
 Option.bind (getS p0 0 y120 (w64 ((y120 : Int) - (1 : Int)))) fun v132 =>
 some (v132 == (255 : UInt8))
 else
 some false)
 fun y130 =>
 bif y130 then
 bif decide (0 ≤ (w64 ((y120 : Int) - (1 : Int))) ∧ (w64 ((y120 : Int) - (1 : Int))) ≤ (y120 : Int)) then
 some (Sum.inl ((w64 ((y120 : Int) - (1 : Int))).toNat))
 else none
 else
 some (Sum.inr y120)) p0.length)
 (fun e => some e))
 fun y113 =>
 bif ((y113 : Int) == (0 : Int)) then
 some (([] : List UInt8), false)
 else
 Option.bind (getS p0 0 y113 (w64 ((y113 : Int) - (1 : Int)))) fun v135 =>
 Option.bind (getS p0 0 y113 (w64 ((y113 : Int) - (1 : Int)))) fun v136 =>
 bif decide (0 + y113 ≤ (List.set p0 ((w64 ((y113 : Int) - (1 : Int))).toNat) (v135 + (1 : UInt8))).length) then
 some ((List.take y113 (List.drop 0 (List.set p0 ((w64 ((y113 : Int) - (1 : Int))).toNat) (v135 + (1 : UInt8))))), true)
 else none
theorem key_After_ok (p0 : List UInt8) (r : (List UInt8) × Bool) (h0 : key_After p0 = some r) : CallAt Tryz.prog 104 [.d (eS p0)] [] (.tuple [.d (eS r.1), .d (eB r.2)]) [] := by
 unfold key_After at h0
 refine fn0 [0] Tryz.func104 rfl rfl rfl rfl rfl ?_
 refine sr (s1 (asg (v := .d (eS ([] : List UInt8))) rfl) (sa rfl (sn (sr (sm rfl (s1 (cvs (s := p0) (k := 0) rfl un9 un125 un5 ts5 rfl) (sa rfl (sn (SC.seqP h0 (fun y => ⟨mk 37 [(4, .slc 0 1 0 y none)], [.row 1 (List.map eU8 p0) true]⟩) ?_ ?_)))))))))
 ·intro u1_114 h1
  obtain ⟨u2_128, h2, h1⟩ := ob h1
  refine SC.blk (SC.loopB h2 (fun y => ⟨mk 37 [(4, .slc 0 1 0 y none)], [.row 1 (List.map eU8 p0) true]⟩) (wq rfl) ?_)
  intro n134
  rintro y120 w2_127 h3 hv3
  refine sq (SC.seqP h3 (fun y => ⟨mk 37 [(4, .slc 0 1 0 y120 none), (18, .d (eB y))], [.row 1 (List.map eU8 p0) true]⟩) ?_ ?_)
  ·intro u4_131 h4
   refine SC.region (sm rfl (s1 (len rfl rfl rfl (len_slc un125)) (s1 (bi rfl rfl q_i64_gtr) (sm rfl (sp h4 (fun h4 => ?_) (fun h4 => ?_))))))
   ·obtain ⟨v132, hv132, h4⟩ := ob h4; have q := si h4; subst q
    exact gw rfl (mv rfl) (gw rfl (mv rfl) (gw rfl (len rfl rfl rfl (len_slc un125)) (gw rfl (bi rfl rfl q_i64_sub) (gw rfl (iaz rfl rfl un125 ts5 (getS_some hv132).1) (gw rfl (lod rfl (ld_row ts5 ta5 rfl (map_get (by have q := (getS_some hv132).2; simpa using q)) rfl)) (gw rfl (bi rfl rfl (q_u8_eql (b := (255 : UInt8)))) (s1 (pkt rfl rfl) (SO.nil ((wq rfl))))))))))
   ·have q := si h4; subst q
    exact kw rfl (kw rfl (kw rfl (kw rfl (kw rfl (kw rfl (kw rfl (s1 (pkf rfl rfl) (SO.nil ((wq rfl))))))))))
  ·rintro y130 h3
   refine cB h3 rfl (fun h3 => ?_) (fun h3 => ?_)
   ·obtain ⟨hg133, h3⟩ := gd h3; have q := si h3; subst q
    refine sk (SC.blk (SC.region (sm rfl (sm rfl (s1 (len rfl rfl rfl (len_slc un125)) (s1 (bi rfl rfl q_i64_sub) (s1 (slo rfl rfl rfl rfl (sl_slc_hi un125 ts5 hg133)) (sa rfl (SO.nil ?_)))))))))
    exact lf (wq rfl)
   ·have q := si h3; subst q; have q : _ = _ := hv3; subst q; have q := si h1; subst q
    exact SC.exit ((wq rfl))
 ·rintro y113 h0
  refine sq (sr (sm rfl (s1 (len rfl rfl rfl (len_slc un125)) (s1 (bi rfl rfl q_i64_eql) (sn (cB h0 rfl (fun h0 => ?_) (fun h0 => ?_)))))))
  ·have q := si h0; subst q
   exact sr (s1 (asg (v := .d (eS ([] : List UInt8))) rfl) (sa rfl (sn (SC.ret (finR (wc (e' := [(2, .d (eS ([] : List UInt8))), (3, .d (eB false))]) [] [] (by kernel_rfl) rfl (by kernel_rfl)) (lresT rfl (lresT rfl lresN)) rfl)))))
  ·obtain ⟨v135, hv135, h0⟩ := ob h0; obtain ⟨v136, hv136, h0⟩ := ob h0; obtain ⟨hg137, h0⟩ := gd h0; have q := si h0; subst q
   refine sk (sr (sm rfl (sm rfl (s1 (len rfl rfl rfl (len_slc un125)) (s1 (bi rfl rfl q_i64_sub) (s1 (iaz rfl rfl un125 ts5 (getS_some hv135).1) (s1 (lod rfl (ld_row ts5 ta5 rfl (map_get (by have q := (getS_some hv135).2; simpa using q)) rfl)) (s1 (bi rfl rfl (q_u8_add (b := (1 : UInt8)))) (s1 (iaz rfl rfl un125 ts5 (getS_some hv136).1) ?_)))))))))
   exact s0 (sto (b := .d (eU8 (v135 + (1 : UInt8)))) rfl rfl (sR (f := eU8) (v := (v135 + (1 : UInt8))) ts5 rfl rfl rfl rfl (by have q := (getS_some hv136).2; simpa using q) rfl rfl)) (sn (sr (sm rfl (s1 (cvo (v := .d (eS (List.take y113 (List.drop 0 (List.set p0 ((w64 ((y113 : Int) - (1 : Int))).toNat) (v135 + (1 : UInt8))))))) rfl (cv_bytes_str un125 un9 un5 (el_slc (xs := (List.set p0 ((w64 ((y113 : Int) - (1 : Int))).toNat) (v135 + (1 : UInt8)))) rfl hg137) (fun _ hh => by cases hh))) (sa rfl (sa rfl (sn (SC.ret (finR (wc (e' := [(2, .d (eS (List.take y113 (List.drop 0 (List.set p0 ((w64 ((y113 : Int) - (1 : Int))).toNat) (v135 + (1 : UInt8))))))), (3, .d (eB true))]) [] [] (by kernel_rfl) rfl (by kernel_rfl)) (lresT rfl (lresT rfl lresN)) rfl)))))))))
noncomputable def key_Under (p0 : List UInt8) : Option ApiSpan :=
 Option.bind (key_After p0) fun (r9, r10) =>
 some (ApiSpan.mk p0 r9 (!r10))
theorem key_Under_ok (p0 : List UInt8) (r : ApiSpan) (h0 : key_Under p0 = some r) : CallAt Tryz.prog 71 [.d (eS p0)] [] (.d (eApiSpan r)) [.box (.d (eApiSpan r))] := by
 unfold key_Under at h0
 refine fn0 [0] Tryz.func71 rfl rfl rfl rfl rfl ?_
 obtain ⟨⟨r9, r10⟩, hq8, h0⟩ := ob h0; have q := si h0; subst q
 refine sr (s1 (alo (k := 0) zo31 rfl) (sn (sr (sm rfl (c0 (key_After_ok p0 _ hq8) wf rfl rfl rfl cb104 rfl (fun _ => rfl) (fun _ => rfl) (sm rfl (s1 (ext rfl rfl) (s1 (ext rfl rfl) (sa rfl ?_)))))))))
 refine sa rfl (sn (sr (sm rfl (sm rfl (sm rfl (s1 (nt rfl) (s1 (bld rfl (bd31_0_1_2 p0 r9 (!r10))) (s0 (sto rfl rfl (sB (d' := .d (eApiSpan (ApiSpan.mk p0 r9 (!r10)))) ts31 rfl rfl rfl rfl rfl rfl rfl)) (sn ?_)))))))))
 exact SC.ret (finR (Wk.refl _) (lresC rfl (ld_box ts31 ta31 rfl rfl) lresN) rfl)
noncomputable def fan_Work_do_2 (p0 : Int) (p1 : ApiMsg) (p2 : List ForestOp) (p3 : List ApiLock) (p4 : List FanProbe) : Option Unit :=
 bif decide ((p2.length + [(ForestOp.mk (1 : Int) p0 p1)].length) * 88 ≤ room) then
 some ()
 else none
theorem fan_Work_do_2_ok (p0 : Int) (p1 : ApiMsg) (p2 : List ForestOp) (p3 : List ApiLock) (p4 : List FanProbe) (r : Unit) (h0 : fan_Work_do_2 p0 p1 p2 p3 p4 = some r) : CallAt Tryz.prog 34 [.ref 0 0 0, .d (eI p0), .d (eApiMsg p1)] [.box (.agg [.slc 1 9 0 p2.length none, .slc 2 5 0 p3.length none, .slc 3 4 0 p4.length none]), .row 9 (List.map eForestOp p2) true, .row 5 (List.map eApiLock p3) true, .row 4 (List.map eFanProbe p4) true] (.tuple []) [.box (.agg [.slc 4 9 0 ((p2 ++ [(ForestOp.mk (1 : Int) p0 p1)]).length) none, .slc 2 5 0 p3.length none, .slc 3 4 0 p4.length none]), .dead, .row 5 (List.map eApiLock p3) true, .row 4 (List.map eFanProbe p4) true, .row 9 (List.map eForestOp (p2 ++ [(ForestOp.mk (1 : Int) p0 p1)])) true] := by
 unfold fan_Work_do_2 at h0
 refine fn0 [0, 1, 2] Tryz.func34 rfl rfl rfl rfl rfl ?_
 obtain ⟨hg3, h0⟩ := gd h0; have q := si h0; subst q
 refine sr (s1 (bxo (k := 4) rfl rfl rfl) (sn (SC.draws (by kernel_rfl) (t1 ([], false) (mv rfl) rfl (t1 ([], false) (mv rfl) rfl (t1 ([], false) (nkr rfl) rfl (t1 ([], false) (far (k := 0) rfl fo40_0 ts36 rfl) rfl (t1 ([0], false) (lod rfl (ld_box ts36 ta36 rfl rfl)) rfl (t1 ([], false) (mv rfl) rfl ?_)))))))))
 refine t1 ([4], false) (lod (v := .d (eApiMsg p1)) rfl (ld_box ts63 ta63 rfl rfl)) rfl (t1 ([], false) (bld rfl (bd65_0_1_2 (1 : Int) p0 p1)) rfl (t1 ([5], true) (bsn (k := 5) (ds := List.map eForestOp [(ForestOp.mk (1 : Int) p0 p1)]) (off := 0) (l' := [(ForestOp.mk (1 : Int) p0 p1)].length) rfl un36 ei65 rfl rfl (by rfl) rfl rfl rfl) rfl (t1 ([1, 5, 6], true) (app rfl rfl rfl rfl bc36 (aF (f := eForestOp) (xs := p2) (k := 6) rfl un36 ei65 rfl (el_full (xs := [(ForestOp.mk (1 : Int) p0 p1)]) rfl) hg3 rfl)) rfl (t1 ([], false) (nkr rfl) rfl (t1 ([], false) (far (k := 0) rfl fo40_0 ts36 rfl) rfl (t0 ([0, 6], true) (sto rfl rfl (sB (d' := .agg [.slc 6 9 0 ((p2 ++ [(ForestOp.mk (1 : Int) p0 p1)]).length) none, .slc 2 5 0 p3.length none, .slc 3 4 0 p4.length none]) ts36 rfl rfl rfl rfl rfl rfl rfl)) rfl (ST.nil (And.intro (by decide +kernel) ?_))))))))
 exact finN (wc (e' := []) [0, 1, 2, 3, 6] [0, 1, 2, 3] (by kernel_rfl) rfl (by kernel_rfl)) lresN rfl
noncomputable def fan_Work_own_2 (p0 : Int) (p1 : List UInt8) (p2 : List ForestOp) (p3 : List ApiLock) (p4 : List FanProbe) : Option Unit :=
 Option.bind (fan_Point p1) fun _ =>
 bif decide ((p3.length + [(ApiLock.mk p0 (ApiSpan.mk p1 (p1 ++ ([0] : List UInt8)) false) true)].length) * 56 ≤ room) then
 some ()
 else none
theorem fan_Work_own_2_ok (p0 : Int) (p1 : List UInt8) (p2 : List ForestOp) (p3 : List ApiLock) (p4 : List FanProbe) (r : Unit) (h0 : fan_Work_own_2 p0 p1 p2 p3 p4 = some r) : CallAt Tryz.prog 31 [.ref 0 0 0, .d (eI p0), .d (eS p1)] [.box (.agg [.slc 1 9 0 p2.length none, .slc 2 5 0 p3.length none, .slc 3 4 0 p4.length none]), .row 9 (List.map eForestOp p2) true, .row 5 (List.map eApiLock p3) true, .row 4 (List.map eFanProbe p4) true] (.tuple []) [.box (.agg [.slc 1 9 0 p2.length none, .slc 4 5 0 ((p3 ++ [(ApiLock.mk p0 (ApiSpan.mk p1 (p1 ++ ([0] : List UInt8)) false) true)]).length) none, .slc 3 4 0 p4.length none]), .row 9 (List.map eForestOp p2) true, .dead, .row 4 (List.map eFanProbe p4) true, .row 5 (List.map eApiLock (p3 ++ [(ApiLock.mk p0 (ApiSpan.mk p1 (p1 ++ ([0] : List UInt8)) false) true)])) true] := by
 unfold fan_Work_own_2 at h0
 refine fn0 [0, 1, 2] Tryz.func31 rfl rfl rfl rfl rfl ?_
 obtain ⟨_, hq5, h0⟩ := ob h0; obtain ⟨hg6, h0⟩ := gd h0; have q := si h0; subst q
 refine SC.draws (by kernel_rfl) (t1 ([], false) (mv rfl) rfl (t1 ([], false) (mv rfl) rfl (t1 ([], false) (nkr rfl) rfl (t1 ([], false) (far (k := 1) rfl fo40_1 ts37 rfl) rfl (t1 ([0], false) (lod rfl (ld_box ts37 ta37 rfl rfl)) rfl (t1 ([], false) (mv rfl) rfl (t1 ([], false) (mv rfl) rfl (tq [] [4] ([4], true) (fan_Point_ok p1 _ hq5) wf rfl rfl rfl cb6 rfl rfl rfl rfl rfl rfl rfl rfl rfl (t1 ([], false) (bld rfl (bd137_0_1_2 p0 (ApiSpan.mk p1 (p1 ++ ([0] : List UInt8)) false) true)) rfl ?_)))))))))
 refine t1 ([5], true) (bsn (k := 5) (ds := List.map eApiLock [(ApiLock.mk p0 (ApiSpan.mk p1 (p1 ++ ([0] : List UInt8)) false) true)]) (off := 0) (l' := [(ApiLock.mk p0 (ApiSpan.mk p1 (p1 ++ ([0] : List UInt8)) false) true)].length) rfl un37 ei137 rfl rfl (by rfl) rfl rfl rfl) rfl (t1 ([2, 5, 6], true) (app rfl rfl rfl rfl bc37 (aF (f := eApiLock) (xs := p3) (k := 6) rfl un37 ei137 rfl (el_full (xs := [(ApiLock.mk p0 (ApiSpan.mk p1 (p1 ++ ([0] : List UInt8)) false) true)]) rfl) hg6 rfl)) rfl (t1 ([], false) (nkr rfl) rfl (t1 ([], false) (far (k := 1) rfl fo40_1 ts37 rfl) rfl (t0 ([0, 6], true) (sto rfl rfl (sB (d' := .agg [.slc 1 9 0 p2.length none, .slc 6 5 0 ((p3 ++ [(ApiLock.mk p0 (ApiSpan.mk p1 (p1 ++ ([0] : List UInt8)) false) true)]).length) none, .slc 3 4 0 p4.length none]) ts37 rfl rfl rfl rfl rfl rfl rfl)) rfl (ST.nil (And.intro (by decide +kernel) ?_))))))
 exact finN (wc (e' := []) [0, 1, 2, 3, 6] [0, 1, 2, 3] (by kernel_rfl) rfl (by kernel_rfl)) lresN rfl
end Lv
