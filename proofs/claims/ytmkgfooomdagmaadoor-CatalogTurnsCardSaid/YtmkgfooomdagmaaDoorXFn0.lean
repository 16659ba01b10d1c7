/- Part of the proof of a law: functions and their walks. -/
import Derived.Test.YtmkgfooomdagmaaDoorXPrims
namespace Lv
open Go Go.Proofs
set_option linter.unusedVariables false
set_option linter.unusedSimpArgs false
set_option linter.unusedSectionVars false
set_option maxRecDepth 100000
variable [BaseTab] [TabOk]
noncomputable def value_Name (p0 : List UInt8) : Option Bool :=
 Option.bind (α := Bool)
 (bif (p0 == ([] : List UInt8)) then
 some true
 else
 some (decide ((p0.length : Int) > (16 : Int))))
 fun y88 =>
 bif y88 then
 some false
 else
 bindE (Y := Unit) (E := Bool)
 (Option.bind (α := Unit ⊕ Bool)
 (loop (Y := Int) (W := Unit ⊕ Bool) (fun y116 =>
 bif (decide (y116 < (p0.length : Int))) then
 Option.bind (getI p0 y116) fun v125 =>
 Option.bind (α := Bool)
 (bif (decide ((97 : UInt8) ≤ v125)) then
 some (decide (v125 ≤ (122 : UInt8)))
 else
 some false)
 fun y126 =>
 Option.bind (α := Bool)
 (bif (!y126) then
 bif (y116 == (0 : Int)) then
 some true
 else
 bif (v125 != (95 : UInt8)) then
 bif (decide (v125 < (48 : UInt8))) then
 some true
 else
 some (decide ((57 : UInt8) < v125))
 else
 some false
 else
 some false)
 fun y128 =>
 bif y128 then
 some (Sum.inr (Sum.inr false))
 else
 some (Sum.inl (w64 (y116 + (1 : Int))))
 else
 some (Sum.inr (Sum.inl ()))) (0 : Int))
 (Sum.elim (fun e => some (Sum.inl e)) (fun e => some (Sum.inr e))))
 (fun _ =>
 some true)
 (fun e => some e)
theorem value_Name_ok (p0 : List UInt8) (r : Bool) (h0 : value_Name p0 = some r) : CallAt Tryd.prog 60 [.d (eS p0)] [] (.d (eB r)) [] := by
 unfold value_Name at h0
 refine fn0 [0] Tryd.func60 rfl rfl rfl rfl rfl ?_
 refine sr (sa rfl (sn (sq (SC.seqP h0 (fun y => ⟨mk 46 [(0, .d (eS p0)), (12, .d (eB y))], []⟩) ?_ ?_))))
 ·intro u1_89 h1
  refine SC.region (sm rfl (s1 (bi rfl rfl (q_str_eql (b := ([] : List UInt8)))) (sm rfl (sp h1 (fun h1 => ?_) (fun h1 => ?_)))))
  ·have q := si h1; subst q
   exact kw rfl (kw rfl (kw rfl (s1 (pkt rfl rfl) (SO.nil ((wq rfl))))))
  ·have q := si h1; subst q
   exact gw rfl (mv rfl) (gw rfl (len rfl rfl rfl (len_str un9)) (gw rfl (bi rfl rfl q_i64_gtr) (s1 (pkf rfl rfl) (SO.nil ((wq rfl))))))
 ·rintro y88 h0
  refine cB h0 rfl (fun h0 => ?_) (fun h0 => ?_)
  ·have q := si h0; subst q
   exact sr (sa rfl (sn (SC.ret (finR (Wk.refl _) (lresT rfl lresN) rfl))))
  ·refine sk (SC.seqB h0 (fun y => ⟨mk 46 [], []⟩) ?_ ?_)
   ·intro u1_110 h1 h0
    obtain ⟨u2_124, h2, h1⟩ := ob h1
    refine sr (sm rfl (s1 (len rfl rfl rfl (len_str un9)) (sm rfl (sn (SC.blk (SC.loopB h2 (fun y => ⟨mk 46 [(0, .d (eS p0)), (14, .d (eI (p0.length : Int))), (15, .d (eI y))], []⟩) (wq rfl) ?_))))))
    intro n130
    rintro y116 w2_123 h3 hv3
    refine sr (s1 (bi rfl rfl q_i64_lss) (sn (sq (cB h3 rfl (fun h3 => ?_) (fun h3 => ?_)))))
    ·obtain ⟨v125, hv125, h3⟩ := ob h3
     refine sk (sq (SC.blk (sr (sm rfl (sa rfl (sn (sr (sm rfl (sm rfl ?_)))))))))
     refine s1 (ixs rfl rfl rfl rfl (ix_str un9 (getI_some hv125).1 (getI_some hv125).2)) (sa rfl (sn (SC.seqP h3 (fun y => ⟨mk 46 [(0, .d (eS p0)), (3, .d (eI y116)), (4, .d (eU8 v125)), (5, .d (eB y)), (14, .d (eI (p0.length : Int))), (15, .d (eI y116))], []⟩) ?_ ?_)))
     ·intro u4_127 h4
      refine SC.region (sm rfl (s1 (bi rfl rfl (q_u8_geq (b := (97 : UInt8)))) (sm rfl (sp h4 (fun h4 => ?_) (fun h4 => ?_)))))
      ·have q := si h4; subst q
       exact gw rfl (mv rfl) (gw rfl (bi rfl rfl (q_u8_leq (b := (122 : UInt8)))) (s1 (pkt rfl rfl) (sa rfl (SO.nil ((wq rfl))))))
      ·have q := si h4; subst q
       exact kw rfl (kw rfl (s1 (pkf rfl rfl) (sa rfl (SO.nil ((wq rfl))))))
     ·rintro y126 h3
      refine SC.seqP h3 (fun y => ⟨mk 46 [(0, .d (eS p0)), (14, .d (eI (p0.length : Int))), (15, .d (eI y116)), (44, .d (eB y))], []⟩) ?_ ?_
      ·intro u4_129 h4
       refine SC.region (sm rfl (s1 (nt rfl) (sm rfl (sp h4 (fun h4 => ?_) (fun h4 => ?_)))))
       ·refine gw rfl (mv rfl) (gw rfl (bi rfl rfl q_i64_eql) (gw rfl (mv rfl) (sp h4 (fun h4 => ?_) (fun h4 => ?_))))
        ·have q := si h4; subst q
         refine kw rfl (kw rfl (kw rfl (kw rfl (kw rfl (kw rfl (kw rfl (kw rfl (kw rfl (kw rfl ?_)))))))))
         exact gw rfl (pkt rfl rfl) (s1 (pkt rfl rfl) (SO.nil ((wq rfl))))
        ·refine gw rfl (mv rfl) (gw rfl (bi rfl rfl (q_u8_neq (b := (95 : UInt8)))) (gw rfl (mv rfl) (sp h4 (fun h4 => ?_) (fun h4 => ?_))))
         ·refine gw rfl (mv rfl) (gw rfl (bi rfl rfl (q_u8_lss (b := (48 : UInt8)))) (gw rfl (mv rfl) (sp h4 (fun h4 => ?_) (fun h4 => ?_))))
          ·have q := si h4; subst q
           exact kw rfl (kw rfl (gw rfl (pkt rfl rfl) (gw rfl (pkt rfl rfl) (gw rfl (pkf rfl rfl) (s1 (pkt rfl rfl) (SO.nil ((wq rfl))))))))
          ·have q := si h4; subst q
           exact gw rfl (mv rfl) (gw rfl (bi rfl rfl (q_u8_gtr (b := (57 : UInt8)))) (gw rfl (pkf rfl rfl) (gw rfl (pkt rfl rfl) (gw rfl (pkf rfl rfl) (s1 (pkt rfl rfl) (SO.nil ((wq rfl))))))))
         ·have q := si h4; subst q
          refine kw rfl (kw rfl (kw rfl (kw rfl (kw rfl (kw rfl (gw rfl (pkf rfl rfl) (gw rfl (pkf rfl rfl) (s1 (pkt rfl rfl) (SO.nil ?_)))))))))
          exact (wq rfl)
       ·have q := si h4; subst q
        refine kw rfl (kw rfl (kw rfl (kw rfl (kw rfl (kw rfl (kw rfl (kw rfl (kw rfl (kw rfl ?_)))))))))
        exact kw rfl (kw rfl (kw rfl (kw rfl (s1 (pkf rfl rfl) (SO.nil ((wq rfl)))))))
      ·rintro y128 h3
       refine cB h3 rfl (fun h3 => ?_) (fun h3 => ?_)
       ·have q := si h3; subst q; have q : _ = _ := hv3; subst q; have q := si h1; subst q; have q := si h0; subst q
        exact sr (sa rfl (sn (SC.ret (finR (Wk.refl _) (lresT rfl lresN) rfl))))
       ·refine SC.skip ?_
        change SC _ _ _ _ _
        have q := si h3; subst q
        exact SC.region (s1 (bi rfl rfl q_i64_add) (sm rfl (SO.nil (lf (wq rfl)))))
    ·have q := si h3; subst q; have q : _ = _ := hv3; subst q; have q := si h1; subst q
     exact SC.exit (lf (wq rfl))
   ·intro _ h0
    have q := si h0; subst q
    exact sr (sa rfl (sn (SC.ret (finR (Wk.refl _) (lresT rfl lresN) rfl))))
noncomputable def value_long (p0 : Int) : Option Bool :=
 Option.bind (α := Bool)
 (bif (p0 == (4 : Int)) then
 some true
 else
 some (p0 == (5 : Int)))
 fun y6 =>
 some y6
theorem value_long_ok (p0 : Int) (r : Bool) (h0 : value_long p0 = some r) : CallAt Tryd.prog 99 [.d (eI p0)] [] (.d (eB r)) [] := by
 unfold value_long at h0
 refine fn0 [0] Tryd.func99 rfl rfl rfl rfl rfl ?_
 refine sr (sa rfl (sn (SC.seqP h0 (fun y => ⟨mk 9 [(2, .d (eB y))], []⟩) ?_ ?_)))
 ·intro u1_7 h1
  refine SC.region (sm rfl (s1 (bi rfl rfl q_i64_eql) (sm rfl (sp h1 (fun h1 => ?_) (fun h1 => ?_)))))
  ·have q := si h1; subst q
   exact kw rfl (kw rfl (s1 (pkt rfl rfl) (sa rfl (SO.nil ((wq rfl))))))
  ·have q := si h1; subst q
   exact gw rfl (mv rfl) (gw rfl (bi rfl rfl q_i64_eql) (s1 (pkf rfl rfl) (sa rfl (SO.nil ((wq rfl))))))
 ·rintro y6 h0
  have q := si h0; subst q
  exact SC.ret (finR (Wk.refl _) (lresT rfl lresN) rfl)
noncomputable def value_Valid (p0 : ApiValue) : Option Bool :=
 bif (p0.Kind == (0 : Int)) then
 some (eqApiValue p0 (ApiValue.mk (0 : Int) (0 : UInt64) ([] : List UInt8)))
 else
 Option.bind (α := Bool)
 (bif (p0.Kind == (1 : Int)) then
 some (p0.Kind == (1 : Int))
 else
 some (p0.Kind == (2 : Int)))
 fun y26 =>
 bif y26 then
 some (p0.S == ([] : List UInt8))
 else
 bif (p0.Kind == (3 : Int)) then
 Option.bind (α := Bool)
 (bif (decide (p0.N ≤ (1 : UInt64))) then
 some (p0.S == ([] : List UInt8))
 else
 some false)
 fun y28 =>
 some y28
 else
 bif (p0.Kind == (4 : Int)) then
 Option.bind (α := Bool)
 (bif (p0.N == (0 : UInt64)) then
 some (decide ((p0.S.length : Int) ≤ (64 : Int)))
 else
 some false)
 fun y30 =>
 some y30
 else
 bif (p0.Kind == (5 : Int)) then
 Option.bind (α := Bool)
 (bif (p0.N == (0 : UInt64)) then
 bif (decide ((p0.S.length : Int) ≤ (64 : Int))) then
 Option.bind (validF p0.S) fun r37 =>
 some r37
 else
 some false
 else
 some false)
 fun y34 =>
 some y34
 else
 some false
theorem value_Valid_ok (p0 : ApiValue) (r : Bool) (h0 : value_Valid p0 = some r) : CallAt Tryd.prog 102 [.d (eApiValue p0)] [] (.d (eB r)) [] := by
 unfold value_Valid at h0
 refine fn0 [0] Tryd.func102 rfl rfl rfl rfl rfl ?_
 refine sr (s1 (bxo (k := 0) rfl rfl rfl) (sa rfl (sn (sq (sr (s1 (far (k := 0) rfl fo60_0 ts3 rfl) (s1 (lod rfl (ld_box ts3 ta3 rfl rfl)) (sn (SC.blk ?_)))))))))
 refine sr (s1 (bi rfl rfl q_i64_eql) (sa rfl (sn (cB h0 rfl (fun h0 => ?_) (fun h0 => ?_)))))
 ·have q := si h0; subst q
  exact sr (s1 (lod (v := .d (eApiValue p0)) rfl (ld_box ts60 ta60 rfl rfl)) (s1 (bld rfl (bd60_ )) (s1 (bi (v := .d (eB (eqApiValue p0 (ApiValue.mk (0 : Int) (0 : UInt64) ([] : List UInt8))))) rfl rfl (fun X Y => eqApiValue_eql_60 X Y p0 (ApiValue.mk (0 : Int) (0 : UInt64) ([] : List UInt8)))) (sa rfl (sn (SC.ret (finR (wc (e' := [(2, .d (eB (eqApiValue p0 (ApiValue.mk (0 : Int) (0 : UInt64) ([] : List UInt8)))))]) [] [] (by kernel_rfl) rfl (by kernel_rfl)) (lresT rfl lresN) rfl)))))))
 ·refine SC.seqP h0 (fun y => ⟨mk 53 [(1, .ref 0 0 0), (4, .d (eI p0.Kind)), (10, .d (eB y))], [.box (.d (eApiValue p0))]⟩) ?_ ?_
  ·intro u1_27 h1
   refine sr (s1 (bi rfl rfl q_i64_eql) (sa rfl (sn (cB h1 rfl (fun h1 => ?_) (fun h1 => ?_)))))
   ·have q := si h1; subst q
    exact SC.skip ((wq rfl))
   ·have q := si h1; subst q
    exact SC.region (s1 (bi rfl rfl q_i64_eql) (sa rfl (SO.nil ((wq rfl)))))
  ·rintro y26 h0
   refine cB h0 rfl (fun h0 => ?_) (fun h0 => ?_)
   ·have q := si h0; subst q
    exact sr (s1 (far (k := 2) rfl fo60_2 ts9 rfl) (s1 (lod rfl (ld_box ts9 ta9 rfl rfl)) (s1 (bi rfl rfl (q_str_eql (b := ([] : List UInt8)))) (sa rfl (sn (SC.ret (finR (wc (e' := [(2, .d (eB (p0.S == ([] : List UInt8))))]) [] [] (by kernel_rfl) rfl (by kernel_rfl)) (lresT rfl lresN) rfl)))))))
   ·refine sr (s1 (bi rfl rfl q_i64_eql) (sa rfl (sn (cB h0 rfl (fun h0 => ?_) (fun h0 => ?_)))))
    ·refine SC.seqP h0 (fun y => ⟨mk 53 [(2, .d (eB y))], []⟩) ?_ ?_
     ·intro u1_29 h1
      refine SC.region (s1 (far (k := 1) rfl fo60_1 ts35 rfl) (s1 (lod rfl (ld_box ts35 ta35 rfl rfl)) (s1 (bi rfl rfl (q_u64_leq (b := (1 : UInt64)))) (sm rfl (sp h1 (fun h1 => ?_) (fun h1 => ?_))))))
      ·have q := si h1; subst q
       exact gw rfl (far (k := 2) rfl fo60_2 ts9 rfl) (gw rfl (lod rfl (ld_box ts9 ta9 rfl rfl)) (gw rfl (bi rfl rfl (q_str_eql (b := ([] : List UInt8)))) (s1 (pkt rfl rfl) (sa rfl (SO.nil ((wc [] [] (by kernel_rfl) rfl (by kernel_rfl))))))))
      ·have q := si h1; subst q
       exact kw rfl (kw rfl (kw rfl (s1 (pkf rfl rfl) (sa rfl (SO.nil ((wc [] [] (by kernel_rfl) rfl (by kernel_rfl))))))))
     ·rintro y28 h0
      have q := si h0; subst q
      exact SC.ret (finR (Wk.refl _) (lresT rfl lresN) rfl)
    ·refine sr (s1 (bi rfl rfl q_i64_eql) (sa rfl (sn (cB h0 rfl (fun h0 => ?_) (fun h0 => ?_)))))
     ·refine SC.seqP h0 (fun y => ⟨mk 53 [(2, .d (eB y))], []⟩) ?_ ?_
      ·intro u1_31 h1
       refine SC.region (s1 (far (k := 1) rfl fo60_1 ts35 rfl) (s1 (lod rfl (ld_box ts35 ta35 rfl rfl)) (s1 (bi rfl rfl (q_u64_eql (b := (0 : UInt64)))) (sm rfl (sp h1 (fun h1 => ?_) (fun h1 => ?_))))))
       ·have q := si h1; subst q
        exact gw rfl (far (k := 2) rfl fo60_2 ts9 rfl) (gw rfl (lod rfl (ld_box ts9 ta9 rfl rfl)) (gw rfl (len rfl rfl rfl (len_str un9)) (gw rfl (bi rfl rfl q_i64_leq) (s1 (pkt rfl rfl) (sa rfl (SO.nil ((wc [] [] (by kernel_rfl) rfl (by kernel_rfl)))))))))
       ·have q := si h1; subst q
        exact kw rfl (kw rfl (kw rfl (kw rfl (s1 (pkf rfl rfl) (sa rfl (SO.nil ((wc [] [] (by kernel_rfl) rfl (by kernel_rfl)))))))))
      ·rintro y30 h0
       have q := si h0; subst q
       exact SC.ret (finR (Wk.refl _) (lresT rfl lresN) rfl)
     ·refine sr (s1 (bi rfl rfl q_i64_eql) (sa rfl (sn (cB h0 rfl (fun h0 => ?_) (fun h0 => ?_)))))
      ·refine SC.seqP h0 (fun y => ⟨mk 53 [(2, .d (eB y))], []⟩) ?_ ?_
       ·intro u1_35 h1
        refine SC.region (s1 (far (k := 1) rfl fo60_1 ts35 rfl) (s1 (lod rfl (ld_box ts35 ta35 rfl rfl)) (s1 (bi rfl rfl (q_u64_eql (b := (0 : UInt64)))) (sm rfl (sp h1 (fun h1 => ?_) (fun h1 => ?_))))))
        ·refine gw rfl (far (k := 2) rfl fo60_2 ts9 rfl) (gw rfl (lod rfl (ld_box ts9 ta9 rfl rfl)) (gw rfl (len rfl rfl rfl (len_str un9)) (gw rfl (bi rfl rfl q_i64_leq) (s1 (pkt rfl rfl) (sm rfl (sp h1 (fun h1 => ?_) (fun h1 => ?_)))))))
         ·obtain ⟨r37, hq36, h1⟩ := ob h1; have q := si h1; subst q
          exact gw rfl (far (k := 2) rfl fo60_2 ts9 rfl) (gw rfl (lod rfl (ld_box ts9 ta9 rfl rfl)) (c0 (valid_ok p0.S _ hq36) (ww rfl) rfl rfl rfl cb103 rfl (fun _ => rfl) (fun _ => rfl) (s1 (pkt rfl rfl) (sa rfl (SO.nil ((wc [] [] (by kernel_rfl) rfl (by kernel_rfl))))))))
         ·have q := si h1; subst q
          exact kw rfl (kw rfl (kw rfl (s1 (pkf rfl rfl) (sa rfl (SO.nil ((wc [] [] (by kernel_rfl) rfl (by kernel_rfl))))))))
        ·have q := si h1; subst q
         refine kw rfl (kw rfl (kw rfl (kw rfl (s1 (pkf rfl rfl) (sm rfl (kw rfl (kw rfl (kw rfl (s1 (pkf rfl rfl) ?_)))))))))
         exact sa rfl (SO.nil ((wc [] [] (by kernel_rfl) rfl (by kernel_rfl))))
       ·rintro y34 h0
        have q := si h0; subst q
        exact SC.ret (finR (Wk.refl _) (lresT rfl lresN) rfl)
      ·refine SC.skip ?_
       change SC _ _ _ _ _
       have q := si h0; subst q
       exact sr (sa rfl (sn (SC.ret (finR (wc (e' := [(2, .d (eB false))]) [] [] (by kernel_rfl) rfl (by kernel_rfl)) (lresT rfl lresN) rfl))))
noncomputable def value_Fits (p0 : ApiColumn) (p1 : ApiValue) : Option Int :=
 Option.bind (value_Valid p1) fun r19 =>
 bif (!r19) then
 some (8 : Int)
 else
 bif (p1.Kind == (0 : Int)) then
 bif p0.Nulls then
 some (0 : Int)
 else
 some (8 : Int)
 else
 bif (p1.Kind != p0.Kind) then
 some (8 : Int)
 else
 Option.bind (α := Bool)
 (Option.bind (value_long p1.Kind) fun r25 =>
 bif r25 then
 some (decide ((p1.S.length : Int) > p0.Max))
 else
 some false)
 fun y22 =>
 bif y22 then
 some (7 : Int)
 else
 some (0 : Int)
theorem value_Fits_ok (p0 : ApiColumn) (p1 : ApiValue) (r : Int) (h0 : value_Fits p0 p1 = some r) : CallAt Tryd.prog 100 [.d (eApiColumn p0), .d (eApiValue p1)] [] (.d (eI r)) [] := by
 unfold value_Fits at h0
 refine fn0 [0, 1] Tryd.func100 rfl rfl rfl rfl rfl ?_
 obtain ⟨r19, hq18, h0⟩ := ob h0
 refine sr (s1 (bxo (k := 0) rfl rfl rfl) (s1 (bxo (k := 1) rfl rfl rfl) (sa rfl (sn (sq (SC.blk (sr (s1 (lod (v := .d (eApiValue p1)) rfl (ld_box ts60 ta60 rfl rfl)) (c0 (value_Valid_ok p1 _ hq18) wf rfl rfl rfl cb102 rfl (fun _ => rfl) (fun _ => rfl) ?_)))))))))
 refine s1 (nt rfl) (sa rfl (sn (cB h0 rfl (fun h0 => ?_) (fun h0 => ?_))))
 ·have q := si h0; subst q
  exact sr (sa rfl (sn (SC.ret (finR (wc (e' := [(4, .d (eI (8 : Int)))]) [] [] (by kernel_rfl) rfl (by kernel_rfl)) (lresT rfl lresN) rfl))))
 ·refine sr (s1 (far (k := 0) rfl fo60_0 ts3 rfl) (s1 (lod rfl (ld_box ts3 ta3 rfl rfl)) (s1 (bi rfl rfl q_i64_eql) (sa rfl (sn (cB h0 rfl (fun h0 => ?_) (fun h0 => ?_)))))))
  ·refine sq (sr (s1 (far (k := 3) rfl fo62_3 ts4 rfl) (s1 (lod rfl (ld_box ts4 ta4 rfl rfl)) (sn (cB h0 rfl (fun h0 => ?_) (fun h0 => ?_))))))
   ·have q := si h0; subst q
    exact sr (sa rfl (sn (SC.ret (finR (wc (e' := [(4, .d (eI (0 : Int)))]) [] [] (by kernel_rfl) rfl (by kernel_rfl)) (lresT rfl lresN) rfl))))
   ·have q := si h0; subst q
    exact sk (sr (sa rfl (sn (SC.ret (finR (wc (e' := [(4, .d (eI (8 : Int)))]) [] [] (by kernel_rfl) rfl (by kernel_rfl)) (lresT rfl lresN) rfl)))))
  ·refine sr (s1 (far (k := 0) rfl fo60_0 ts3 rfl) (s1 (lod rfl (ld_box ts3 ta3 rfl rfl)) (s1 (far (k := 1) rfl fo62_1 ts3 rfl) (s1 (lod rfl (ld_box ts3 ta3 rfl rfl)) (s1 (bi rfl rfl q_i64_neq) (sa rfl (sn (cB h0 rfl (fun h0 => ?_) (fun h0 => ?_)))))))))
   ·have q := si h0; subst q
    exact sr (sa rfl (sn (SC.ret (finR (wc (e' := [(4, .d (eI (8 : Int)))]) [] [] (by kernel_rfl) rfl (by kernel_rfl)) (lresT rfl lresN) rfl))))
   ·refine SC.seqP h0 (fun y => ⟨mk 33 [(21, .d (eB y))], []⟩) ?_ ?_
    ·intro u1_23 h1
     obtain ⟨r25, hq24, h1⟩ := ob h1
     refine SC.region (s1 (far (k := 0) rfl fo60_0 ts3 rfl) (s1 (lod rfl (ld_box ts3 ta3 rfl rfl)) (c0 (value_long_ok p1.Kind _ hq24) wf rfl rfl rfl cb99 rfl (fun _ => rfl) (fun _ => rfl) (sm rfl (sp h1 (fun h1 => ?_) (fun h1 => ?_))))))
     ·have q := si h1; subst q
      exact gw rfl (far (k := 2) rfl fo60_2 ts9 rfl) (gw rfl (lod rfl (ld_box ts9 ta9 rfl rfl)) (gw rfl (len rfl rfl rfl (len_str un9)) (gw rfl (far (k := 2) rfl fo62_2 ts3 rfl) (gw rfl (lod rfl (ld_box ts3 ta3 rfl rfl)) (gw rfl (bi rfl rfl q_i64_gtr) (s1 (pkt rfl rfl) (sa rfl (SO.nil ((wc [] [] (by kernel_rfl) rfl (by kernel_rfl)))))))))))
     ·have q := si h1; subst q
      exact kw rfl (kw rfl (kw rfl (kw rfl (kw rfl (kw rfl (s1 (pkf rfl rfl) (sa rfl (SO.nil ((wc [] [] (by kernel_rfl) rfl (by kernel_rfl)))))))))))
    ·rintro y22 h0
     refine cB h0 rfl (fun h0 => ?_) (fun h0 => ?_)
     ·have q := si h0; subst q
      exact sr (sa rfl (sn (SC.ret (finR (Wk.refl _) (lresT rfl lresN) rfl))))
     ·refine SC.skip ?_
      change SC _ _ _ _ _
      have q := si h0; subst q
      exact sr (sa rfl (sn (SC.ret (finR (Wk.refl _) (lresT rfl lresN) rfl))))
noncomputable def value_Column (p0 : ApiColumn) : Option Int :=
 Option.bind (value_Name p0.Name) fun r43 =>
 bif (!r43) then
 some (1 : Int)
 else
 Option.bind (α := Bool)
 (bif (decide (p0.Kind < (1 : Int))) then
 some true
 else
 some (decide (p0.Kind > (5 : Int))))
 fun y44 =>
 bif y44 then
 some (8 : Int)
 else
 Option.bind (α := Bool)
 (Option.bind (value_long p0.Kind) fun r55 =>
 bif r55 then
 bif (decide (p0.Max < (1 : Int))) then
 some true
 else
 bif (decide (p0.Max > (64 : Int))) then
 some true
 else
 Option.bind (value_long p0.Kind) fun r57 =>
 bif (!r57) then
 some (p0.Max != (0 : Int))
 else
 some false
 else
 Option.bind (value_long p0.Kind) fun r59 =>
 bif (!r59) then
 some (p0.Max != (0 : Int))
 else
 some false)
 fun y52 =>
 bif y52 then
 some (7 : Int)
 else
 Option.bind (value_Fits p0 p0.Default) fun r61 =>
 some r61
theorem value_Column_ok (p0 : ApiColumn) (r : Int) (h0 : value_Column p0 = some r) : CallAt Tryd.prog 89 [.d (eApiColumn p0)] [] (.d (eI r)) [] := by
 unfold value_Column at h0
 refine fn0 [0] Tryd.func89 rfl rfl rfl rfl rfl ?_
 obtain ⟨r43, hq42, h0⟩ := ob h0
 refine sr (s1 (bxo (k := 0) rfl rfl rfl) (sa rfl (sn (sq (SC.blk (sr (s1 (far (k := 0) rfl fo62_0 ts9 rfl) (s1 (lod rfl (ld_box ts9 ta9 rfl rfl)) (c0 (value_Name_ok p0.Name _ hq42) wf rfl rfl rfl cb60 rfl (fun _ => rfl) (fun _ => rfl) ?_)))))))))
 refine s1 (nt rfl) (sa rfl (sn (cB h0 rfl (fun h0 => ?_) (fun h0 => ?_))))
 ·have q := si h0; subst q
  exact sr (sa rfl (sn (SC.ret (finR (wc (e' := [(2, .d (eI (1 : Int)))]) [] [] (by kernel_rfl) rfl (by kernel_rfl)) (lresT rfl lresN) rfl))))
 ·refine SC.seqP h0 (fun y => ⟨mk 46 [(1, .ref 0 0 0), (8, .d (eB y))], [.box (.d (eApiColumn p0))]⟩) ?_ ?_
  ·intro u1_45 h1
   refine SC.region (s1 (far (k := 1) rfl fo62_1 ts3 rfl) (s1 (lod rfl (ld_box ts3 ta3 rfl rfl)) (s1 (bi rfl rfl q_i64_lss) (sm rfl (sp h1 (fun h1 => ?_) (fun h1 => ?_))))))
   ·have q := si h1; subst q
    exact kw rfl (kw rfl (kw rfl (s1 (pkt rfl rfl) (sa rfl (SO.nil ((wq rfl)))))))
   ·have q := si h1; subst q
    exact gw rfl (far (k := 1) rfl fo62_1 ts3 rfl) (gw rfl (lod rfl (ld_box ts3 ta3 rfl rfl)) (gw rfl (bi rfl rfl q_i64_gtr) (s1 (pkf rfl rfl) (sa rfl (SO.nil ((wq rfl)))))))
  ·rintro y44 h0
   refine cB h0 rfl (fun h0 => ?_) (fun h0 => ?_)
   ·have q := si h0; subst q
    exact sr (sa rfl (sn (SC.ret (finR (wc (e' := [(2, .d (eI (8 : Int)))]) [] [] (by kernel_rfl) rfl (by kernel_rfl)) (lresT rfl lresN) rfl))))
   ·refine SC.seqP h0 (fun y => ⟨mk 46 [(1, .ref 0 0 0), (17, .d (eB y))], [.box (.d (eApiColumn p0))]⟩) ?_ ?_
    ·intro u1_53 h1
     obtain ⟨r55, hq54, h1⟩ := ob h1
     refine SC.region (s1 (far (k := 1) rfl fo62_1 ts3 rfl) (s1 (lod rfl (ld_box ts3 ta3 rfl rfl)) (c0 (value_long_ok p0.Kind _ hq54) wf rfl rfl rfl cb99 rfl (fun _ => rfl) (fun _ => rfl) (sm rfl (sp h1 (fun h1 => ?_) (fun h1 => ?_))))))
     ·refine gw rfl (far (k := 2) rfl fo62_2 ts3 rfl) (gw rfl (lod rfl (ld_box ts3 ta3 rfl rfl)) (gw rfl (bi rfl rfl q_i64_lss) (gw rfl (mv rfl) (sp h1 (fun h1 => ?_) (fun h1 => ?_)))))
      ·have q := si h1; subst q
       refine kw rfl (kw rfl (kw rfl (gw rfl (pkt rfl rfl) (s1 (pkt rfl rfl) (sm rfl (kw rfl (kw rfl (kw rfl (kw rfl ?_)))))))))
       exact kw rfl (kw rfl (kw rfl (kw rfl (kw rfl (s1 (pkt rfl rfl) (sa rfl (SO.nil ((wq rfl)))))))))
      ·refine gw rfl (far (k := 2) rfl fo62_2 ts3 rfl) (gw rfl (lod rfl (ld_box ts3 ta3 rfl rfl)) (gw rfl (bi rfl rfl q_i64_gtr) (gw rfl (pkf rfl rfl) (s1 (pkt rfl rfl) (sm rfl (sp h1 (fun h1 => ?_) (fun h1 => ?_)))))))
       ·have q := si h1; subst q
        refine kw rfl (kw rfl (kw rfl (kw rfl (kw rfl (kw rfl (kw rfl (kw rfl (kw rfl (s1 (pkt rfl rfl) ?_)))))))))
        exact sa rfl (SO.nil ((wq rfl)))
       ·obtain ⟨r57, hq56, h1⟩ := ob h1
        refine gw rfl (far (k := 1) rfl fo62_1 ts3 rfl) (gw rfl (lod rfl (ld_box ts3 ta3 rfl rfl)) (c0 (value_long_ok p0.Kind _ hq56) (ww rfl) rfl rfl rfl cb99 rfl (fun _ => rfl) (fun _ => rfl) (gw rfl (nt rfl) (gw rfl (mv rfl) (sp h1 (fun h1 => ?_) (fun h1 => ?_))))))
        ·have q := si h1; subst q
         exact gw rfl (far (k := 2) rfl fo62_2 ts3 rfl) (gw rfl (lod rfl (ld_box ts3 ta3 rfl rfl)) (gw rfl (bi rfl rfl q_i64_neq) (gw rfl (pkt rfl rfl) (s1 (pkf rfl rfl) (sa rfl (SO.nil ((wq rfl))))))))
        ·have q := si h1; subst q
         exact kw rfl (kw rfl (kw rfl (gw rfl (pkf rfl rfl) (s1 (pkf rfl rfl) (sa rfl (SO.nil ((wq rfl))))))))
     ·obtain ⟨r59, hq58, h1⟩ := ob h1
      refine kw rfl (kw rfl (kw rfl (kw rfl (kw rfl (kw rfl (kw rfl (kw rfl (s1 (pkf rfl rfl) (sm rfl ?_)))))))))
      refine gw rfl (far (k := 1) rfl fo62_1 ts3 rfl) (gw rfl (lod rfl (ld_box ts3 ta3 rfl rfl)) (c0 (value_long_ok p0.Kind _ hq58) (ww rfl) rfl rfl rfl cb99 rfl (fun _ => rfl) (fun _ => rfl) (gw rfl (nt rfl) (gw rfl (mv rfl) (sp h1 (fun h1 => ?_) (fun h1 => ?_))))))
      ·have q := si h1; subst q
       exact gw rfl (far (k := 2) rfl fo62_2 ts3 rfl) (gw rfl (lod rfl (ld_box ts3 ta3 rfl rfl)) (gw rfl (bi rfl rfl q_i64_neq) (gw rfl (pkt rfl rfl) (s1 (pkf rfl rfl) (sa rfl (SO.nil ((wq rfl))))))))
      ·have q := si h1; subst q
       exact kw rfl (kw rfl (kw rfl (gw rfl (pkf rfl rfl) (s1 (pkf rfl rfl) (sa rfl (SO.nil ((wq rfl))))))))
    ·rintro y52 h0
     refine cB h0 rfl (fun h0 => ?_) (fun h0 => ?_)
     ·have q := si h0; subst q
      exact sr (sa rfl (sn (SC.ret (finR (wc (e' := [(2, .d (eI (7 : Int)))]) [] [] (by kernel_rfl) rfl (by kernel_rfl)) (lresT rfl lresN) rfl))))
     ·refine SC.skip ?_
      change SC _ _ _ _ _
      obtain ⟨r61, hq60, h0⟩ := ob h0; have q := si h0; subst q
      exact sr (s1 (lod (v := .d (eApiColumn p0)) rfl (ld_box ts62 ta62 rfl rfl)) (s1 (far (k := 4) rfl fo62_4 ts60 rfl) (s1 (lod (v := .d (eApiValue p0.Default)) rfl (ld_box ts60 ta60 rfl rfl)) (c0 (value_Fits_ok p0 p0.Default _ hq60) wf rfl rfl rfl cb100 rfl (fun _ => rfl) (fun _ => rfl) (sa rfl (sn (SC.ret (finR (wc (e' := [(2, .d (eI r61))]) [] [] (by kernel_rfl) rfl (by kernel_rfl)) (lresT rfl lresN) rfl))))))))
noncomputable def schema_columns (p0 : List ApiColumn) : Option Int :=
 Option.bind (α := Bool)
 (bif (decide ((p0.length : Int) < (1 : Int))) then
 some true
 else
 some (decide ((p0.length : Int) > (24 : Int))))
 fun y72 =>
 bif y72 then
 some (7 : Int)
 else
 bindE (Y := Unit) (E := Int)
 (Option.bind (α := Unit ⊕ Int)
 (loop (Y := Int × (List ((List UInt8) × Bool))) (W := Unit ⊕ Int) (fun (y94, y95) =>
 bif (decide (y94 < (p0.length : Int))) then
 Option.bind (getI p0 y94) fun v103 =>
 Option.bind (value_Column v103) fun r105 =>
 bif (r105 != (0 : Int)) then
 some (Sum.inr (Sum.inr r105))
 else
 bif (Option.getD (mget y95 v103.Name) false) then
 some (Sum.inr (Sum.inr (6 : Int)))
 else
 some (Sum.inl ((w64 (y94 + (1 : Int))), (mset y95 v103.Name true)))
 else
 some (Sum.inr (Sum.inl ()))) ((0 : Int), ([] : List ((List UInt8) × Bool))))
 (Sum.elim (fun e => some (Sum.inl e)) (fun e => some (Sum.inr e))))
 (fun _ =>
 some (0 : Int))
 (fun e => some e)
theorem schema_columns_ok (p0 : List ApiColumn) (r : Int) (h0 : schema_columns p0 = some r) : CallAt Tryd.prog 61 [.d ((eL 7 eApiColumn) p0)] [] (.d (eI r)) [] := by
 unfold schema_columns at h0
 refine fn0 [0] Tryd.func61 rfl rfl rfl rfl rfl ?_
 refine sr (sa rfl (sn (sq (SC.seqP h0 (fun y => ⟨mk 35 [(0, .d ((eL 7 eApiColumn) p0)), (14, .d (eB y))], []⟩) ?_ ?_))))
 ·intro u1_73 h1
  refine SC.region (sm rfl (s1 (len rfl rfl rfl (len_lst un49)) (s1 (bi rfl rfl q_i64_lss) (sm rfl (sp h1 (fun h1 => ?_) (fun h1 => ?_))))))
  ·have q := si h1; subst q
   exact kw rfl (kw rfl (kw rfl (s1 (pkt rfl rfl) (SO.nil ((wq rfl))))))
  ·have q := si h1; subst q
   exact gw rfl (mv rfl) (gw rfl (len rfl rfl rfl (len_lst un49)) (gw rfl (bi rfl rfl q_i64_gtr) (s1 (pkf rfl rfl) (SO.nil ((wq rfl))))))
 ·rintro y72 h0
  refine cB h0 rfl (fun h0 => ?_) (fun h0 => ?_)
  ·have q := si h0; subst q
   exact sr (sa rfl (sn (SC.ret (finR (Wk.refl _) (lresT rfl lresN) rfl))))
  ·refine sk (sr (s1 (mkm (f := eS) (g := eB) (i := 0) un136 rfl) (sa rfl (sn (SC.seqB h0 (fun y => ⟨mk 35 [], []⟩) ?_ ?_)))))
   ·intro u1_90 h1 h0
    obtain ⟨u2_102, h2, h1⟩ := ob h1
    refine sr (sm rfl (s1 (len rfl rfl rfl (len_lst un49)) (sm rfl (sn (SC.blk (SC.loopB h2 (fun y => ⟨mk 35 [(3, .mapr 0), (16, .d ((eL 7 eApiColumn) p0)), (17, .d (eI (p0.length : Int))), (18, .d (eI y.1))], [.map (List.map (eM eS eB) y.2)]⟩) (wq rfl) ?_))))))
    intro n106
    rintro ⟨y94, y95⟩ w2_101 h3 hv3
    refine sr (s1 (bi rfl rfl q_i64_lss) (sn (sq (cB h3 rfl (fun h3 => ?_) (fun h3 => ?_)))))
    ·obtain ⟨v103, hv103, h3⟩ := ob h3; obtain ⟨r105, hq104, h3⟩ := ob h3
     refine sk (sq (SC.blk (sr (s1 (ial rfl rfl un49 ts62 (getI_some hv103).1 (map_get (getI_some hv103).2) rfl) (s1 (lod (v := .d (eApiColumn v103)) rfl (ld_rop ts62 ta62 rfl)) (s1 (alo (k := 1) zo62 rfl) (s0 (sto rfl rfl (sB (d' := .d (eApiColumn v103)) ts62 rfl rfl rfl rfl rfl rfl rfl)) (sn (sq ?_)))))))))
     refine sr (s1 (lod (v := .d (eApiColumn v103)) rfl (ld_box ts62 ta62 rfl rfl)) (c0 (value_Column_ok v103 _ hq104) wf rfl rfl rfl cb89 rfl (fun _ => rfl) (fun _ => rfl) (sa rfl (sn (sr (sm rfl (s1 (bi rfl rfl q_i64_neq) (sn (cB h3 rfl (fun h3 => ?_) (fun h3 => ?_))))))))))
     ·have q := si h3; subst q; have q : _ = _ := hv3; subst q; have q := si h1; subst q; have q := si h0; subst q
      exact sr (sm rfl (sa rfl (sn (SC.ret (finR (wc (e' := [(2, .d (eI r105))]) [] [] (by kernel_rfl) rfl (by kernel_rfl)) (lresT rfl lresN) rfl)))))
     ·refine sk (sq (sr (sm rfl (s1 (far (k := 0) rfl fo62_0 ts9 rfl) (s1 (lod rfl (ld_box ts9 ta9 rfl rfl)) (s1 (mlk (f := eS) (g := eB) (k := v103.Name) (v := false) kq_str rfl rfl un136 un9 rfl zo4 rfl) (sn (cB h3 rfl (fun h3 => ?_) (fun h3 => ?_)))))))))
      ·have q := si h3; subst q; have q : _ = _ := hv3; subst q; have q := si h1; subst q; have q := si h0; subst q
       exact sr (sa rfl (sn (SC.ret (finR (wc (e' := [(2, .d (eI (6 : Int)))]) [] [] (by kernel_rfl) rfl (by kernel_rfl)) (lresT rfl lresN) rfl))))
      ·refine sk (SC.region (sm rfl (s1 (far (k := 0) rfl fo62_0 ts9 rfl) (s1 (lod rfl (ld_box ts9 ta9 rfl rfl)) (s0 (mpu (f := eS) (g := eB) (k := v103.Name) (v := true) kq_str rfl rfl rfl rfl un136 un9 rfl rfl rfl) (SO.nil ?_))))))
       change SC _ _ _ _ _
       have q := si h3; subst q
       exact SC.region (s1 (bi rfl rfl q_i64_add) (sm rfl (SO.nil (lf (wc [0] [0] (by kernel_rfl) rfl (by kernel_rfl))))))
    ·have q := si h3; subst q; have q : _ = _ := hv3; subst q; have q := si h1; subst q
     exact SC.exit (lf (wc [] [] (by kernel_rfl) rfl (by kernel_rfl)))
   ·intro _ h0
    have q := si h0; subst q
    exact sr (sa rfl (sn (SC.ret (finR (Wk.refl _) (lresT rfl lresN) rfl))))
noncomputable def schema_places (p0 : Int) (p1 : List Int) : Option Bool :=
 bindE (Y := Unit) (E := Bool)
 (Option.bind (α := Unit ⊕ Bool)
 (loop (Y := Int × (List (Int × Bool))) (W := Unit ⊕ Bool) (fun (y88, y89) =>
 bif (decide (y88 < (p1.length : Int))) then
 Option.bind (getI p1 y88) fun v97 =>
 Option.bind (α := Bool)
 (bif (decide (v97 < (0 : Int))) then
 some true
 else
 bif (decide (v97 ≥ p0)) then
 some true
 else
 some (Option.getD (mget y89 v97) false))
 fun y98 =>
 bif y98 then
 some (Sum.inr (Sum.inr false))
 else
 some (Sum.inl ((w64 (y88 + (1 : Int))), (mset y89 v97 true)))
 else
 some (Sum.inr (Sum.inl ()))) ((0 : Int), ([] : List (Int × Bool))))
 (Sum.elim (fun e => some (Sum.inl e)) (fun e => some (Sum.inr e))))
 (fun _ =>
 some true)
 (fun e => some e)
theorem schema_places_ok (p0 : Int) (p1 : List Int) (r : Bool) (h0 : schema_places p0 p1 = some r) : CallAt Tryd.prog 62 [.d (eI p0), .d ((eL 1 eI) p1)] [] (.d (eB r)) [] := by
 unfold schema_places at h0
 refine fn0 [0, 1] Tryd.func62 rfl rfl rfl rfl rfl ?_
 refine sr (sa rfl (sn (sr (s1 (mkm (f := eI) (g := eB) (i := 0) un154 rfl) (sa rfl (sn (SC.seqB h0 (fun y => ⟨mk 30 [], []⟩) ?_ ?_)))))))
 ·intro u1_84 h1 h0
  obtain ⟨u2_96, h2, h1⟩ := ob h1
  refine sr (sm rfl (s1 (len rfl rfl rfl (len_lst un50)) (sm rfl (sn (SC.blk (SC.loopB h2 (fun y => ⟨mk 30 [(0, .d (eI p0)), (5, .mapr 0), (9, .d ((eL 1 eI) p1)), (10, .d (eI (p1.length : Int))), (11, .d (eI y.1))], [.map (List.map (eM eI eB) y.2)]⟩) (wq rfl) ?_))))))
  intro n100
  rintro ⟨y88, y89⟩ w2_95 h3 hv3
  refine sr (s1 (bi rfl rfl q_i64_lss) (sn (sq (cB h3 rfl (fun h3 => ?_) (fun h3 => ?_)))))
  ·obtain ⟨v97, hv97, h3⟩ := ob h3
   refine sk (sq (SC.blk (sr (s1 (ial rfl rfl un50 ts3 (getI_some hv97).1 (map_get (getI_some hv97).2) rfl) (s1 (lod rfl (ld_rop ts3 ta3 rfl)) (sa rfl (sn (sq (SC.seqP h3 (fun y => ⟨mk 30 [(0, .d (eI p0)), (5, .mapr 0), (7, .d (eI v97)), (9, .d ((eL 1 eI) p1)), (10, .d (eI (p1.length : Int))), (11, .d (eI y88)), (26, .d (eB y))], [.map (List.map (eM eI eB) y89)]⟩) ?_ ?_)))))))))
   ·intro u4_99 h4
    refine SC.region (sm rfl (s1 (bi rfl rfl q_i64_lss) (sm rfl (sp h4 (fun h4 => ?_) (fun h4 => ?_)))))
    ·have q := si h4; subst q
     refine kw rfl (kw rfl (kw rfl (s1 (pkt rfl rfl) (sm rfl (kw rfl (kw rfl (kw rfl (s1 (pkt rfl rfl) (SO.nil ?_)))))))))
     exact (wq rfl)
    ·refine gw rfl (mv rfl) (gw rfl (mv rfl) (gw rfl (bi rfl rfl q_i64_geq) (s1 (pkf rfl rfl) (sm rfl (sp h4 (fun h4 => ?_) (fun h4 => ?_))))))
     ·have q := si h4; subst q
      exact kw rfl (kw rfl (kw rfl (s1 (pkt rfl rfl) (SO.nil ((wq rfl))))))
     ·have q := si h4; subst q
      exact gw rfl (mv rfl) (gw rfl (mv rfl) (gw rfl (mlk (f := eI) (g := eB) (k := v97) (v := false) kq_i64 rfl rfl un154 un3 rfl zo4 rfl) (s1 (pkf rfl rfl) (SO.nil ((wq rfl))))))
   ·rintro y98 h3
    refine cB h3 rfl (fun h3 => ?_) (fun h3 => ?_)
    ·have q := si h3; subst q; have q : _ = _ := hv3; subst q; have q := si h1; subst q; have q := si h0; subst q
     exact sr (sa rfl (sn (SC.ret (finR (wc (e' := [(4, .d (eB false))]) [] [] (by kernel_rfl) rfl (by kernel_rfl)) (lresT rfl lresN) rfl))))
    ·refine sk (SC.region (sm rfl (sm rfl (s0 (mpu (f := eI) (g := eB) (k := v97) (v := true) kq_i64 rfl rfl rfl rfl un154 un3 rfl rfl rfl) (SO.nil ?_)))))
     change SC _ _ _ _ _
     have q := si h3; subst q
     exact SC.region (s1 (bi rfl rfl q_i64_add) (sm rfl (SO.nil (lf (wq rfl)))))
  ·have q := si h3; subst q; have q : _ = _ := hv3; subst q; have q := si h1; subst q
   exact SC.exit (lf (wc [] [] (by kernel_rfl) rfl (by kernel_rfl)))
 ·intro _ h0
  have q := si h0; subst q
  exact sr (sa rfl (sn (SC.ret (finR (Wk.refl _) (lresT rfl lresN) rfl))))
noncomputable def schema_Check_1 (p0 : Int) (p1 : ApiTable) : Option Bool :=
 Option.bind (getI p1.Cols p0) fun v4 =>
 some v4.Nulls
theorem schema_Check_1_ok (p0 : Int) (p1 : ApiTable) (r : Bool) (h0 : schema_Check_1 p0 p1 = some r) : CallAt Tryd.prog 64 [.d (eI p0), .ref 0 0 0] [.box (.d (eApiTable p1))] (.d (eB r)) [.box (.d (eApiTable p1))] := by
 unfold schema_Check_1 at h0
 refine fn0 [0, 1] Tryd.func64 rfl rfl rfl rfl rfl ?_
 obtain ⟨v4, hv4, h0⟩ := ob h0; have q := si h0; subst q
 refine sr (sa rfl (sn (sr (s1 (far (k := 1) rfl fo53_1 ts49 rfl) (s1 (lod rfl (ld_box ts49 ta49 rfl rfl)) (sm rfl (s1 (ial rfl rfl un49 ts62 (getI_some hv4).1 (map_get (getI_some hv4).2) rfl) (s1 (fap rfl fo62_3 ts4 rfl) (s1 (lod rfl (ld_rop ts4 ta4 rfl)) ?_)))))))))
 exact sa rfl (sn (SC.ret (finR (Wk.refl _) (lresT rfl lresN) rfl)))
noncomputable def slices_IndexFunc_int_int_1 (p0 : List Int) (p1 : ApiTable) : Option Int :=
 bindE (Y := Unit) (E := Int)
 (Option.bind (α := Unit ⊕ Int)
 (loop (Y := Int) (W := Unit ⊕ Int) (fun y78 =>
 bif (decide (y78 < (p0.length : Int))) then
 Option.bind (getI p0 y78) fun v85 =>
 Option.bind (schema_Check_1 v85 p1) fun r87 =>
 bif r87 then
 some (Sum.inr (Sum.inr y78))
 else
 some (Sum.inl (w64 (y78 + (1 : Int))))
 else
 some (Sum.inr (Sum.inl ()))) (0 : Int))
 (Sum.elim (fun e => some (Sum.inl e)) (fun e => some (Sum.inr e))))
 (fun _ =>
 some (-1 : Int))
 (fun e => some e)
theorem slices_IndexFunc_int_int_1_ok (p0 : List Int) (p1 : ApiTable) (r : Int) (h0 : slices_IndexFunc_int_int_1 p0 p1 = some r) : CallAt Tryd.prog 90 [.d ((eL 1 eI) p0), .fn (.func 64) [] [.ref 0 0 0]] [.box (.d (eApiTable p1))] (.d (eI r)) [.box (.d (eApiTable p1))] := by
 unfold slices_IndexFunc_int_int_1 at h0
 refine fn0 [0, 1] Tryd.func90 rfl rfl rfl rfl rfl ?_
 refine sr (sa rfl (sn (SC.seqB h0 (fun y => ⟨mk 19 [], [.box (.d (eApiTable p1))]⟩) ?_ ?_)))
 ·intro u1_74 h1 h0
  obtain ⟨u2_84, h2, h1⟩ := ob h1
  refine sr (sm rfl (s1 (len rfl rfl rfl (len_lst un50)) (sm rfl (sn (SC.blk (SC.loopB h2 (fun y => ⟨mk 19 [(0, .d ((eL 1 eI) p0)), (1, .fn (.func 64) [] [.ref 0 0 0]), (7, .d (eI (p0.length : Int))), (8, .d (eI y))], [.box (.d (eApiTable p1))]⟩) (wq rfl) ?_))))))
  intro n88
  rintro y78 w2_83 h3 hv3
  refine sr (s1 (bi rfl rfl q_i64_lss) (sn (sq (cB h3 rfl (fun h3 => ?_) (fun h3 => ?_)))))
  ·obtain ⟨v85, hv85, h3⟩ := ob h3; obtain ⟨r87, hq86, h3⟩ := ob h3
   refine sk (sq (SC.blk (sr (sm rfl (sa rfl (sn (sr (sm rfl (sm rfl ?_)))))))))
   refine sm rfl (s1 (ial rfl rfl un50 ts3 (getI_some hv85).1 (map_get (getI_some hv85).2) rfl) (s1 (lod rfl (ld_rop ts3 ta3 rfl)) (cq [0] [] (schema_Check_1_ok v85 p1 _ hq86) wf rfl rfl rfl cb64 rfl rfl rfl rfl rfl rfl rfl rfl (sn (cB h3 rfl (fun h3 => ?_) (fun h3 => ?_))))))
   ·have q := si h3; subst q; have q : _ = _ := hv3; subst q; have q := si h1; subst q; have q := si h0; subst q
    exact sr (sm rfl (sa rfl (sn (SC.ret (finR (Wk.refl _) (lresT rfl lresN) rfl)))))
   ·refine SC.skip ?_
    change SC _ _ _ _ _
    have q := si h3; subst q
    exact SC.region (s1 (bi rfl rfl q_i64_add) (sm rfl (SO.nil (lf (wq rfl)))))
  ·have q := si h3; subst q; have q : _ = _ := hv3; subst q; have q := si h1; subst q
   exact SC.exit (lf (wq rfl))
 ·intro _ h0
  have q := si h0; subst q
  exact sr (sa rfl (sn (SC.ret (finR (Wk.refl _) (lresT rfl lresN) rfl))))
noncomputable def slices_ContainsFunc_int_int_1 (p0 : List Int) (p1 : ApiTable) : Option Bool :=
 Option.bind (slices_IndexFunc_int_int_1 p0 p1) fun r7 =>
 some (decide (r7 ≥ (0 : Int)))
theorem slices_ContainsFunc_int_int_1_ok (p0 : List Int) (p1 : ApiTable) (r : Bool) (h0 : slices_ContainsFunc_int_int_1 p0 p1 = some r) : CallAt Tryd.prog 63 [.d ((eL 1 eI) p0), .fn (.func 64) [] [.ref 0 0 0]] [.box (.d (eApiTable p1))] (.d (eB r)) [.box (.d (eApiTable p1))] := by
 unfold slices_ContainsFunc_int_int_1 at h0
 refine fn0 [0, 1] Tryd.func63 rfl rfl rfl rfl rfl ?_
 obtain ⟨r7, hq6, h0⟩ := ob h0; have q := si h0; subst q
 refine sr (sa rfl (sn (sr (sm rfl (sm rfl (cq [0] [] (slices_IndexFunc_int_int_1_ok p0 p1 _ hq6) wf rfl rfl rfl cb90 rfl rfl rfl rfl rfl rfl rfl rfl (s1 (bi rfl rfl q_i64_geq) (sa rfl (sn ?_)))))))))
 exact SC.ret (finR (Wk.refl _) (lresT rfl lresN) rfl)
noncomputable def schema_wide (p0 : ApiColumn) (p1 : Int) : Option Int :=
 Option.bind (α := Bool)
 (bif (p0.Kind == (1 : Int)) then
 some (p0.Kind == (1 : Int))
 else
 some (p0.Kind == (2 : Int)))
 fun y6 =>
 bif y6 then
 some (9 : Int)
 else
 bif (p0.Kind == (3 : Int)) then
 some (2 : Int)
 else
 some (w64 ((3 : Int) + (w64 (p1 * p0.Max))))
theorem schema_wide_ok (p0 : ApiColumn) (p1 : Int) (r : Int) (h0 : schema_wide p0 p1 = some r) : CallAt Tryd.prog 91 [.d (eApiColumn p0), .d (eI p1)] [] (.d (eI r)) [] := by
 unfold schema_wide at h0
 refine fn0 [0, 1] Tryd.func91 rfl rfl rfl rfl rfl ?_
 refine sr (s1 (bxo (k := 0) rfl rfl rfl) (sa rfl (sn (sq (sr (s1 (far (k := 1) rfl fo62_1 ts3 rfl) (s1 (lod rfl (ld_box ts3 ta3 rfl rfl)) (sn (SC.blk ?_)))))))))
 refine SC.seqP h0 (fun y => ⟨mk 17 [(1, .d (eI p1)), (2, .ref 0 0 0), (6, .d (eI p0.Kind)), (7, .d (eB y))], [.box (.d (eApiColumn p0))]⟩) ?_ ?_
 ·intro u1_7 h1
  refine sr (s1 (bi rfl rfl q_i64_eql) (sa rfl (sn (cB h1 rfl (fun h1 => ?_) (fun h1 => ?_)))))
  ·have q := si h1; subst q
   exact SC.skip ((wq rfl))
  ·have q := si h1; subst q
   exact SC.region (s1 (bi rfl rfl q_i64_eql) (sa rfl (SO.nil ((wq rfl)))))
 ·rintro y6 h0
  refine cB h0 rfl (fun h0 => ?_) (fun h0 => ?_)
  ·have q := si h0; subst q
   exact sr (sa rfl (sn (SC.ret (finR (wc (e' := [(4, .d (eI (9 : Int)))]) [] [] (by kernel_rfl) rfl (by kernel_rfl)) (lresT rfl lresN) rfl))))
  ·refine sr (s1 (bi rfl rfl q_i64_eql) (sa rfl (sn (cB h0 rfl (fun h0 => ?_) (fun h0 => ?_)))))
   ·have q := si h0; subst q
    exact sr (sa rfl (sn (SC.ret (finR (wc (e' := [(4, .d (eI (2 : Int)))]) [] [] (by kernel_rfl) rfl (by kernel_rfl)) (lresT rfl lresN) rfl))))
   ·refine SC.skip ?_
    change SC _ _ _ _ _
    have q := si h0; subst q
    exact sr (sm rfl (s1 (far (k := 2) rfl fo62_2 ts3 rfl) (s1 (lod rfl (ld_box ts3 ta3 rfl rfl)) (s1 (bi rfl rfl q_i64_mul) (s1 (bi rfl rfl q_i64_add) (sa rfl (sn (SC.ret (finR (wc (e' := [(4, .d (eI (w64 ((3 : Int) + (w64 (p1 * p0.Max))))))]) [] [] (by kernel_rfl) rfl (by kernel_rfl)) (lresT rfl lresN) rfl)))))))))
noncomputable def schema_RowMax (p0 : List ApiColumn) : Option Int :=
 Option.bind (α := Int)
 (Option.bind (α := Int)
 (loop (Y := Int × Int) (W := Int) (fun (y91, y92) =>
 bif (decide (y92 < (p0.length : Int))) then
 Option.bind (getI p0 y92) fun v100 =>
 Option.bind (schema_wide v100 (1 : Int)) fun r102 =>
 some (Sum.inl ((w64 (y91 + r102)), (w64 (y92 + (1 : Int)))))
 else
 some (Sum.inr y91)) ((1 : Int), (0 : Int)))
 (fun e => some e))
 fun y86 =>
 some y86
theorem schema_RowMax_ok (p0 : List ApiColumn) (r : Int) (h0 : schema_RowMax p0 = some r) : CallAt Tryd.prog 65 [.d ((eL 7 eApiColumn) p0)] [] (.d (eI r)) [] := by
 unfold schema_RowMax at h0
 refine fn0 [0] Tryd.func65 rfl rfl rfl rfl rfl ?_
 refine sr (sa rfl (sn (sr (sa rfl (sn (SC.seqP h0 (fun y => ⟨mk 18 [(3, .d (eI y))], []⟩) ?_ ?_))))))
 ·intro u1_87 h1
  obtain ⟨u2_99, h2, h1⟩ := ob h1
  refine sr (sm rfl (s1 (len rfl rfl rfl (len_lst un49)) (sm rfl (sn (SC.blk (SC.loopB h2 (fun y => ⟨mk 18 [(3, .d (eI y.1)), (6, .d ((eL 7 eApiColumn) p0)), (7, .d (eI (p0.length : Int))), (8, .d (eI y.2))], []⟩) (wq rfl) ?_))))))
  intro n103
  rintro ⟨y91, y92⟩ w2_98 h3 hv3
  refine sr (s1 (bi rfl rfl q_i64_lss) (sn (sq (cB h3 rfl (fun h3 => ?_) (fun h3 => ?_)))))
  ·obtain ⟨v100, hv100, h3⟩ := ob h3; obtain ⟨r102, hq101, h3⟩ := ob h3
   refine sk (sq (SC.blk (sr (s1 (ial rfl rfl un49 ts62 (getI_some hv100).1 (map_get (getI_some hv100).2) rfl) (s1 (lod (v := .d (eApiColumn v100)) rfl (ld_rop ts62 ta62 rfl)) (s1 (alo (k := 0) zo62 rfl) (s0 (sto rfl rfl (sB (d' := .d (eApiColumn v100)) ts62 rfl rfl rfl rfl rfl rfl rfl)) (sn (SC.region ?_)))))))))
   refine sm rfl (s1 (lod (v := .d (eApiColumn v100)) rfl (ld_box ts62 ta62 rfl rfl)) (c0 (schema_wide_ok v100 (1 : Int) _ hq101) wf rfl rfl rfl cb91 rfl (fun _ => rfl) (fun _ => rfl) (s1 (bi rfl rfl q_i64_add) (sa rfl (SO.nil ?_)))))
   change SC _ _ _ _ _
   have q := si h3; subst q
   exact SC.region (s1 (bi rfl rfl q_i64_add) (sm rfl (SO.nil (lf (wc [] [] (by kernel_rfl) rfl (by kernel_rfl))))))
  ·have q := si h3; subst q; have q : _ = _ := hv3; subst q; have q := si h1; subst q
   exact SC.exit ((wq rfl))
 ·rintro y86 h0
  have q := si h0; subst q
  exact sr (sm rfl (sa rfl (sn (SC.ret (finR (Wk.refl _) (lresT rfl lresN) rfl)))))
noncomputable def schema_up (p0 : List Int) : Option ((List ApiPart)) :=
 Option.bind (α := (List ApiPart))
 (Option.bind (α := (List ApiPart))
 (loop (Y := (List ApiPart) × Int) (W := (List ApiPart)) (fun (y75, y76) =>
 bif (decide (y76 < (p0.length : Int))) then
 Option.bind (getI p0 y76) fun v83 =>
 bif decide ((y75.length + [(ApiPart.mk v83 false)].length) * 16 ≤ room) then
 some (Sum.inl ((y75 ++ [(ApiPart.mk v83 false)]), (w64 (y76 + (1 : Int)))))
 else none
 else
 some (Sum.inr y75)) (([] : List ApiPart), (0 : Int)))
 (fun e => some e))
 fun y71 =>
 some y71
theorem schema_up_ok (p0 : List Int) (r : (List ApiPart)) (h0 : schema_up p0 = some r) : CallAt Tryd.prog 67 [.d ((eL 1 eI) p0)] [] (.d ((eL 2 eApiPart) r)) [] := by
 unfold schema_up at h0
 refine fn0 [0] Tryd.func67 rfl rfl rfl rfl rfl ?_
 refine sr (s1 (asg (v := .d .nils) rfl) (sn (sr (s1 (asg (v := .d .nils) rfl) (sn (SC.seqP h0 (fun y => ⟨mk 19 [(3, .slc 0 2 0 y.length none)], [.row 2 (List.map eApiPart y) true]⟩) ?_ ?_))))))
 ·intro u1_72 h1
  obtain ⟨u2_82, h2, h1⟩ := ob h1
  refine sr (sm rfl (s1 (len rfl rfl rfl (len_lst un50)) (sm rfl (sn (SC.blk (SC.loopB h2 (fun y => ⟨mk 19 [(3, .slc 0 2 0 y.1.length none), (6, .d ((eL 1 eI) p0)), (7, .d (eI (p0.length : Int))), (8, .d (eI y.2))], [.row 2 (List.map eApiPart y.1) true]⟩) (Wk.trans (Wk.pushE (σ' := [.row 2 (List.map eApiPart ([] : List ApiPart)) true]) (.row 2 [] true) (fun _ hh => by cases hh) rfl) (Wk.trans (Wk.env (e' := [(3, .slc 0 2 0 (([] : List ApiPart).length) none), (6, .d ((eL 1 eI) p0)), (7, .d (eI (p0.length : Int))), (8, .d (eI (0 : Int)))]) (EW.cons (AW.slcn _ _ _) (EW.cons (AW.refl _) (EW.cons (AW.refl _) (EW.cons (AW.refl _) EW.nil))))) (wq rfl))) ?_))))))
  intro n85
  rintro ⟨y75, y76⟩ w2_81 h3 hv3
  refine sr (s1 (bi rfl rfl q_i64_lss) (sn (sq (cB h3 rfl (fun h3 => ?_) (fun h3 => ?_)))))
  ·obtain ⟨v83, hv83, h3⟩ := ob h3; obtain ⟨hg84, h3⟩ := gd h3
   refine sk (sq (SC.blk (sr (s1 (ial rfl rfl un50 ts3 (getI_some hv83).1 (map_get (getI_some hv83).2) rfl) (s1 (lod rfl (ld_rop ts3 ta3 rfl)) (sa rfl (sn (SC.region (sm rfl ?_)))))))))
   refine sm rfl (s1 (bld rfl (bd92_0 v83)) (s1 (bsn (k := 1) (ds := List.map eApiPart [(ApiPart.mk v83 false)]) (off := 0) (l' := [(ApiPart.mk v83 false)].length) rfl un83 ei92 rfl rfl (by rfl) rfl rfl rfl) (s1 (app rfl rfl rfl rfl bc83 (aF (f := eApiPart) (xs := y75) (k := 2) rfl un83 ei92 rfl (el_full (xs := [(ApiPart.mk v83 false)]) rfl) hg84 rfl)) (sa rfl (SO.nil ?_)))))
   change SC _ _ _ _ _
   have q := si h3; subst q
   exact SC.region (s1 (bi rfl rfl q_i64_add) (sm rfl (SO.nil (lf (wc [2] [2] (by kernel_rfl) rfl (by kernel_rfl))))))
  ·have q := si h3; subst q; have q : _ = _ := hv3; subst q; have q := si h1; subst q
   exact SC.exit ((wq rfl))
 ·rintro y71 h0
  have q := si h0; subst q
  exact sr (sm rfl (sa rfl (sn (SC.ret (finR (Wk.trans (Wk.frz (i := 2) (x := .slc 0 2 0 y71.length none) rfl rfl (fF rfl rfl rfl)) (wc (e' := [(2, .d ((eL 2 eApiPart) y71))]) [] [] (by kernel_rfl) rfl (by kernel_rfl))) (lresT rfl lresN) rfl)))))
noncomputable def schema_KeyMax (p0 : List ApiColumn) (p1 : List ApiPart) : Option Int :=
 Option.bind (α := Int)
 (Option.bind (α := Int)
 (loop (Y := Int × Int) (W := Int) (fun (y107, y108) =>
 bif (decide (y108 < (p1.length : Int))) then
 Option.bind (getI p1 y108) fun v117 =>
 Option.bind (getI p0 v117.Col) fun v118 =>
 Option.bind (schema_wide v118 (2 : Int)) fun r120 =>
 some (Sum.inl ((w64 (y107 + r120)), (w64 (y108 + (1 : Int)))))
 else
 some (Sum.inr y107)) ((0 : Int), (0 : Int)))
 (fun e => some e))
 fun y101 =>
 some y101
theorem schema_KeyMax_ok (p0 : List ApiColumn) (p1 : List ApiPart) (r : Int) (h0 : schema_KeyMax p0 p1 = some r) : CallAt Tryd.prog 66 [.d ((eL 7 eApiColumn) p0), .d ((eL 2 eApiPart) p1)] [] (.d (eI r)) [] := by
 unfold schema_KeyMax at h0
 refine fn0 [0, 1] Tryd.func66 rfl rfl rfl rfl rfl ?_
 refine sr (sa rfl (sn (sr (sa rfl (sn (SC.seqP h0 (fun y => ⟨mk 24 [(5, .d (eI y))], []⟩) ?_ ?_))))))
 ·intro u1_102 h1
  obtain ⟨u2_116, h2, h1⟩ := ob h1
  refine sr (sm rfl (s1 (len rfl rfl rfl (len_lst un83)) (sm rfl (sn (SC.blk (SC.loopB h2 (fun y => ⟨mk 24 [(0, .d ((eL 7 eApiColumn) p0)), (5, .d (eI y.1)), (8, .d ((eL 2 eApiPart) p1)), (9, .d (eI (p1.length : Int))), (10, .d (eI y.2))], []⟩) (wq rfl) ?_))))))
  intro n121
  rintro ⟨y107, y108⟩ w2_115 h3 hv3
  refine sr (s1 (bi rfl rfl q_i64_lss) (sn (sq (cB h3 rfl (fun h3 => ?_) (fun h3 => ?_)))))
  ·obtain ⟨v117, hv117, h3⟩ := ob h3; obtain ⟨v118, hv118, h3⟩ := ob h3; obtain ⟨r120, hq119, h3⟩ := ob h3
   refine sk (sq (SC.blk (sr (s1 (ial rfl rfl un83 ts92 (getI_some hv117).1 (map_get (getI_some hv117).2) rfl) (s1 (lod (v := .d (eApiPart v117)) rfl (ld_rop ts92 ta92 rfl)) (s1 (alo (k := 0) zo92 rfl) (s0 (sto rfl rfl (sB (d' := .d (eApiPart v117)) ts92 rfl rfl rfl rfl rfl rfl rfl)) (sn (SC.region ?_)))))))))
   refine sm rfl (sm rfl (s1 (far (k := 0) rfl fo92_0 ts3 rfl) (s1 (lod rfl (ld_box ts3 ta3 rfl rfl)) (s1 (ial rfl rfl un49 ts62 (getI_some hv118).1 (map_get (getI_some hv118).2) rfl) (s1 (lod (v := .d (eApiColumn v118)) rfl (ld_rop ts62 ta62 rfl)) (c0 (schema_wide_ok v118 (2 : Int) _ hq119) wf rfl rfl rfl cb91 rfl (fun _ => rfl) (fun _ => rfl) (s1 (bi rfl rfl q_i64_add) (sa rfl (SO.nil ?_)))))))))
   change SC _ _ _ _ _
   have q := si h3; subst q
   exact SC.region (s1 (bi rfl rfl q_i64_add) (sm rfl (SO.nil (lf (wc [] [] (by kernel_rfl) rfl (by kernel_rfl))))))
  ·have q := si h3; subst q; have q : _ = _ := hv3; subst q; have q := si h1; subst q
   exact SC.exit ((wq rfl))
 ·rintro y101 h0
  have q := si h0; subst q
  exact sr (sm rfl (sa rfl (sn (SC.ret (finR (Wk.refl _) (lresT rfl lresN) rfl)))))
noncomputable def schema_cols (p0 : List ApiPart) : Option ((List Int)) :=
 Option.bind (α := (List Int))
 (Option.bind (α := (List Int))
 (loop (Y := (List Int) × Int) (W := (List Int)) (fun (y75, y76) =>
 bif (decide (y76 < (p0.length : Int))) then
 Option.bind (getI p0 y76) fun v83 =>
 bif decide ((y75.length + [v83.Col].length) * 8 ≤ room) then
 some (Sum.inl ((y75 ++ [v83.Col]), (w64 (y76 + (1 : Int)))))
 else none
 else
 some (Sum.inr y75)) (([] : List Int), (0 : Int)))
 (fun e => some e))
 fun y71 =>
 some y71
theorem schema_cols_ok (p0 : List ApiPart) (r : (List Int)) (h0 : schema_cols p0 = some r) : CallAt Tryd.prog 92 [.d ((eL 2 eApiPart) p0)] [] (.d ((eL 1 eI) r)) [] := by
 unfold schema_cols at h0
 refine fn0 [0] Tryd.func92 rfl rfl rfl rfl rfl ?_
 refine sr (s1 (asg (v := .d .nils) rfl) (sn (sr (s1 (asg (v := .d .nils) rfl) (sn (SC.seqP h0 (fun y => ⟨mk 19 [(3, .slc 0 1 0 y.length none)], [.row 1 (List.map eI y) true]⟩) ?_ ?_))))))
 ·intro u1_72 h1
  obtain ⟨u2_82, h2, h1⟩ := ob h1
  refine sr (sm rfl (s1 (len rfl rfl rfl (len_lst un83)) (sm rfl (sn (SC.blk (SC.loopB h2 (fun y => ⟨mk 19 [(3, .slc 0 1 0 y.1.length none), (6, .d ((eL 2 eApiPart) p0)), (7, .d (eI (p0.length : Int))), (8, .d (eI y.2))], [.row 1 (List.map eI y.1) true]⟩) (Wk.trans (Wk.pushE (σ' := [.row 1 (List.map eI ([] : List Int)) true]) (.row 1 [] true) (fun _ hh => by cases hh) rfl) (Wk.trans (Wk.env (e' := [(3, .slc 0 1 0 (([] : List Int).length) none), (6, .d ((eL 2 eApiPart) p0)), (7, .d (eI (p0.length : Int))), (8, .d (eI (0 : Int)))]) (EW.cons (AW.slcn _ _ _) (EW.cons (AW.refl _) (EW.cons (AW.refl _) (EW.cons (AW.refl _) EW.nil))))) (wq rfl))) ?_))))))
  intro n85
  rintro ⟨y75, y76⟩ w2_81 h3 hv3
  refine sr (s1 (bi rfl rfl q_i64_lss) (sn (sq (cB h3 rfl (fun h3 => ?_) (fun h3 => ?_)))))
  ·obtain ⟨v83, hv83, h3⟩ := ob h3; obtain ⟨hg84, h3⟩ := gd h3
   refine sk (sq (SC.blk (sr (s1 (ial rfl rfl un83 ts92 (getI_some hv83).1 (map_get (getI_some hv83).2) rfl) (s1 (lod (v := .d (eApiPart v83)) rfl (ld_rop ts92 ta92 rfl)) (s1 (alo (k := 1) zo92 rfl) (s0 (sto rfl rfl (sB (d' := .d (eApiPart v83)) ts92 rfl rfl rfl rfl rfl rfl rfl)) (sn (SC.region ?_)))))))))
   refine sm rfl (s1 (far (k := 0) rfl fo92_0 ts3 rfl) (s1 (lod rfl (ld_box ts3 ta3 rfl rfl)) (s1 (bsn (k := 2) (ds := List.map eI [v83.Col]) (off := 0) (l' := [v83.Col].length) rfl un50 ei3 rfl rfl (by rfl) rfl rfl rfl) (s1 (app rfl rfl rfl rfl bc50 (aF (f := eI) (xs := y75) (k := 3) rfl un50 ei3 rfl (el_full (xs := [v83.Col]) rfl) hg84 rfl)) (sa rfl (SO.nil ?_))))))
   change SC _ _ _ _ _
   have q := si h3; subst q
   exact SC.region (s1 (bi rfl rfl q_i64_add) (sm rfl (SO.nil (lf (wc [3] [3] (by kernel_rfl) rfl (by kernel_rfl))))))
  ·have q := si h3; subst q; have q : _ = _ := hv3; subst q; have q := si h1; subst q
   exact SC.exit ((wq rfl))
 ·rintro y71 h0
  have q := si h0; subst q
  exact sr (sm rfl (sa rfl (sn (SC.ret (finR (Wk.trans (Wk.frz (i := 2) (x := .slc 0 1 0 y71.length none) rfl rfl (fF rfl rfl rfl)) (wc (e' := [(2, .d ((eL 1 eI) y71))]) [] [] (by kernel_rfl) rfl (by kernel_rfl))) (lresT rfl lresN) rfl)))))
noncomputable def slices_Index_int_int (p0 : List Int) (p1 : Int) : Option Int :=
 bindE (Y := Unit) (E := Int)
 (Option.bind (α := Unit ⊕ Int)
 (loop (Y := Int) (W := Unit ⊕ Int) (fun y46 =>
 bif (decide (y46 < (p0.length : Int))) then
 Option.bind (getI p0 y46) fun v51 =>
 bif (p1 == v51) then
 some (Sum.inr (Sum.inr y46))
 else
 some (Sum.inl (w64 (y46 + (1 : Int))))
 else
 some (Sum.inr (Sum.inl ()))) (0 : Int))
 (Sum.elim (fun e => some (Sum.inl e)) (fun e => some (Sum.inr e))))
 (fun _ =>
 some (-1 : Int))
 (fun e => some e)
theorem slices_Index_int_int_ok (p0 : List Int) (p1 : Int) (r : Int) (h0 : slices_Index_int_int p0 p1 = some r) : CallAt Tryd.prog 101 [.d ((eL 1 eI) p0), .d (eI p1)] [] (.d (eI r)) [] := by
 unfold slices_Index_int_int at h0
 refine fn0 [0, 1] Tryd.func101 rfl rfl rfl rfl rfl ?_
 refine sr (sa rfl (sn (SC.seqB h0 (fun y => ⟨mk 19 [], []⟩) ?_ ?_)))
 ·intro u1_44 h1 h0
  obtain ⟨u2_50, h2, h1⟩ := ob h1
  refine sr (sm rfl (s1 (len rfl rfl rfl (len_lst un50)) (sm rfl (sn (SC.blk (SC.loopB h2 (fun y => ⟨mk 19 [(0, .d ((eL 1 eI) p0)), (1, .d (eI p1)), (7, .d (eI (p0.length : Int))), (8, .d (eI y))], []⟩) (wq rfl) ?_))))))
  intro n52
  rintro y46 w2_49 h3 hv3
  refine sr (s1 (bi rfl rfl q_i64_lss) (sn (sq (cB h3 rfl (fun h3 => ?_) (fun h3 => ?_)))))
  ·obtain ⟨v51, hv51, h3⟩ := ob h3
   refine sk (sq (SC.blk (sr (sm rfl (sa rfl (sn (sr (sm rfl (sm rfl ?_)))))))))
   refine sm rfl (s1 (ial rfl rfl un50 ts3 (getI_some hv51).1 (map_get (getI_some hv51).2) rfl) (s1 (lod rfl (ld_rop ts3 ta3 rfl)) (s1 (bi rfl rfl q_i64_eql) (sn (cB h3 rfl (fun h3 => ?_) (fun h3 => ?_))))))
   ·have q := si h3; subst q; have q : _ = _ := hv3; subst q; have q := si h1; subst q; have q := si h0; subst q
    exact sr (sm rfl (sa rfl (sn (SC.ret (finR (Wk.refl _) (lresT rfl lresN) rfl)))))
   ·refine SC.skip ?_
    change SC _ _ _ _ _
    have q := si h3; subst q
    exact SC.region (s1 (bi rfl rfl q_i64_add) (sm rfl (SO.nil (lf (wq rfl)))))
  ·have q := si h3; subst q; have q : _ = _ := hv3; subst q; have q := si h1; subst q
   exact SC.exit (lf (wq rfl))
 ·intro _ h0
  have q := si h0; subst q
  exact sr (sa rfl (sn (SC.ret (finR (Wk.refl _) (lresT rfl lresN) rfl))))
noncomputable def slices_Contains_int_int (p0 : List Int) (p1 : Int) : Option Bool :=
 Option.bind (slices_Index_int_int p0 p1) fun r7 =>
 some (decide (r7 ≥ (0 : Int)))
theorem slices_Contains_int_int_ok (p0 : List Int) (p1 : Int) (r : Bool) (h0 : slices_Contains_int_int p0 p1 = some r) : CallAt Tryd.prog 94 [.d ((eL 1 eI) p0), .d (eI p1)] [] (.d (eB r)) [] := by
 unfold slices_Contains_int_int at h0
 refine fn0 [0, 1] Tryd.func94 rfl rfl rfl rfl rfl ?_
 obtain ⟨r7, hq6, h0⟩ := ob h0; have q := si h0; subst q
 refine sr (sa rfl (sn (sr (sm rfl (sm rfl (c0 (slices_Index_int_int_ok p0 p1 _ hq6) wf rfl rfl rfl cb101 rfl (fun _ => rfl) (fun _ => rfl) (s1 (bi rfl rfl q_i64_geq) (sa rfl (sn ?_)))))))))
 exact SC.ret (finR (Wk.refl _) (lresT rfl lresN) rfl)
noncomputable def schema_index_1 (p0 : Int) (p1 : List Int) (p2 : ApiTable) : Option Bool :=
 Option.bind (α := Bool)
 (Option.bind (slices_Contains_int_int p1 p0) fun r29 =>
 bif r29 then
 some true
 else
 Option.bind (slices_Contains_int_int p2.Primary p0) fun r31 =>
 some r31)
 fun y26 =>
 some y26
theorem schema_index_1_ok (p0 : Int) (p1 : List Int) (p2 : ApiTable) (r : Bool) (h0 : schema_index_1 p0 p1 p2 = some r) : CallAt Tryd.prog 93 [.d (eI p0), .ref 0 0 0, .ref 1 0 0] [.box (.d ((eL 1 eI) p1)), .box (.d (eApiTable p2))] (.d (eB r)) [.box (.d ((eL 1 eI) p1)), .box (.d (eApiTable p2))] := by
 unfold schema_index_1 at h0
 refine fn0 [0, 1, 2] Tryd.func93 rfl rfl rfl rfl rfl ?_
 refine sr (sa rfl (sn (SC.seqP h0 (fun y => ⟨mk 14 [(4, .d (eB y))], [.box (.d ((eL 1 eI) p1)), .box (.d (eApiTable p2))]⟩) ?_ ?_)))
 ·intro u1_27 h1
  obtain ⟨r29, hq28, h1⟩ := ob h1
  refine SC.region (s1 (lod rfl (ld_box ts50 ta50 rfl rfl)) (sm rfl (c0 (slices_Contains_int_int_ok p1 p0 _ hq28) wf rfl rfl rfl cb94 rfl (fun _ => rfl) (fun _ => rfl) (sm rfl (sp h1 (fun h1 => ?_) (fun h1 => ?_))))))
  ·have q := si h1; subst q
   exact kw rfl (kw rfl (kw rfl (kw rfl (s1 (pkt rfl rfl) (sa rfl (SO.nil ((wq rfl))))))))
  ·obtain ⟨r31, hq30, h1⟩ := ob h1; have q := si h1; subst q
   exact gw rfl (far (k := 2) rfl fo53_2 ts50 rfl) (gw rfl (lod rfl (ld_box ts50 ta50 rfl rfl)) (gw rfl (mv rfl) (c0 (slices_Contains_int_int_ok p2.Primary p0 _ hq30) (ww rfl) rfl rfl rfl cb94 rfl (fun _ => rfl) (fun _ => rfl) (s1 (pkf rfl rfl) (sa rfl (SO.nil ((wq rfl))))))))
 ·rintro y26 h0
  have q := si h0; subst q
  exact SC.ret (finR (Wk.refl _) (lresT rfl lresN) rfl)
noncomputable def slices_IndexFunc_int_int_2 (p0 : List Int) (p1 : List Int) (p2 : ApiTable) : Option Int :=
 bindE (Y := Unit) (E := Int)
 (Option.bind (α := Unit ⊕ Int)
 (loop (Y := Int) (W := Unit ⊕ Int) (fun y78 =>
 bif (decide (y78 < (p0.length : Int))) then
 Option.bind (getI p0 y78) fun v85 =>
 Option.bind (schema_index_1 v85 p1 p2) fun r87 =>
 bif r87 then
 some (Sum.inr (Sum.inr y78))
 else
 some (Sum.inl (w64 (y78 + (1 : Int))))
 else
 some (Sum.inr (Sum.inl ()))) (0 : Int))
 (Sum.elim (fun e => some (Sum.inl e)) (fun e => some (Sum.inr e))))
 (fun _ =>
 some (-1 : Int))
 (fun e => some e)
theorem slices_IndexFunc_int_int_2_ok (p0 : List Int) (p1 : List Int) (p2 : ApiTable) (r : Int) (h0 : slices_IndexFunc_int_int_2 p0 p1 p2 = some r) : CallAt Tryd.prog 90 [.d ((eL 1 eI) p0), .fn (.func 93) [] [.ref 0 0 0, .ref 1 0 0]] [.box (.d ((eL 1 eI) p1)), .box (.d (eApiTable p2))] (.d (eI r)) [.box (.d ((eL 1 eI) p1)), .box (.d (eApiTable p2))] := by
 unfold slices_IndexFunc_int_int_2 at h0
 refine fn0 [0, 1] Tryd.func90 rfl rfl rfl rfl rfl ?_
 refine sr (sa rfl (sn (SC.seqB h0 (fun y => ⟨mk 19 [], [.box (.d ((eL 1 eI) p1)), .box (.d (eApiTable p2))]⟩) ?_ ?_)))
 ·intro u1_74 h1 h0
  obtain ⟨u2_84, h2, h1⟩ := ob h1
  refine sr (sm rfl (s1 (len rfl rfl rfl (len_lst un50)) (sm rfl (sn (SC.blk (SC.loopB h2 (fun y => ⟨mk 19 [(0, .d ((eL 1 eI) p0)), (1, .fn (.func 93) [] [.ref 0 0 0, .ref 1 0 0]), (7, .d (eI (p0.length : Int))), (8, .d (eI y))], [.box (.d ((eL 1 eI) p1)), .box (.d (eApiTable p2))]⟩) (wq rfl) ?_))))))
  intro n88
  rintro y78 w2_83 h3 hv3
  refine sr (s1 (bi rfl rfl q_i64_lss) (sn (sq (cB h3 rfl (fun h3 => ?_) (fun h3 => ?_)))))
  ·obtain ⟨v85, hv85, h3⟩ := ob h3; obtain ⟨r87, hq86, h3⟩ := ob h3
   refine sk (sq (SC.blk (sr (sm rfl (sa rfl (sn (sr (sm rfl (sm rfl ?_)))))))))
   refine sm rfl (s1 (ial rfl rfl un50 ts3 (getI_some hv85).1 (map_get (getI_some hv85).2) rfl) (s1 (lod rfl (ld_rop ts3 ta3 rfl)) (cq [0, 1] [] (schema_index_1_ok v85 p1 p2 _ hq86) wf rfl rfl rfl cb93 rfl rfl rfl rfl rfl rfl rfl rfl (sn (cB h3 rfl (fun h3 => ?_) (fun h3 => ?_))))))
   ·have q := si h3; subst q; have q : _ = _ := hv3; subst q; have q := si h1; subst q; have q := si h0; subst q
    exact sr (sm rfl (sa rfl (sn (SC.ret (finR (Wk.refl _) (lresT rfl lresN) rfl)))))
   ·refine SC.skip ?_
    change SC _ _ _ _ _
    have q := si h3; subst q
    exact SC.region (s1 (bi rfl rfl q_i64_add) (sm rfl (SO.nil (lf (wq rfl)))))
  ·have q := si h3; subst q; have q : _ = _ := hv3; subst q; have q := si h1; subst q
   exact SC.exit (lf (wq rfl))
 ·intro _ h0
  have q := si h0; subst q
  exact sr (sa rfl (sn (SC.ret (finR (Wk.refl _) (lresT rfl lresN) rfl))))
noncomputable def slices_ContainsFunc_int_int_2 (p0 : List Int) (p1 : List Int) (p2 : ApiTable) : Option Bool :=
 Option.bind (slices_IndexFunc_int_int_2 p0 p1 p2) fun r7 =>
 some (decide (r7 ≥ (0 : Int)))
theorem slices_ContainsFunc_int_int_2_ok (p0 : List Int) (p1 : List Int) (p2 : ApiTable) (r : Bool) (h0 : slices_ContainsFunc_int_int_2 p0 p1 p2 = some r) : CallAt Tryd.prog 63 [.d ((eL 1 eI) p0), .fn (.func 93) [] [.ref 0 0 0, .ref 1 0 0]] [.box (.d ((eL 1 eI) p1)), .box (.d (eApiTable p2))] (.d (eB r)) [.box (.d ((eL 1 eI) p1)), .box (.d (eApiTable p2))] := by
 unfold slices_ContainsFunc_int_int_2 at h0
 refine fn0 [0, 1] Tryd.func63 rfl rfl rfl rfl rfl ?_
 obtain ⟨r7, hq6, h0⟩ := ob h0; have q := si h0; subst q
 refine sr (sa rfl (sn (sr (sm rfl (sm rfl (cq [0, 1] [] (slices_IndexFunc_int_int_2_ok p0 p1 p2 _ hq6) wf rfl rfl rfl cb90 rfl rfl rfl rfl rfl rfl rfl rfl (s1 (bi rfl rfl q_i64_geq) (sa rfl (sn ?_)))))))))
 exact SC.ret (finR (Wk.refl _) (lresT rfl lresN) rfl)
noncomputable def schema_index (p0 : ApiTable) (p1 : ApiIndex) : Option Int :=
 Option.bind (schema_cols p1.Parts) fun r35 =>
 Option.bind (slices_ContainsFunc_int_int_2 p1.Extra r35 p0) fun r37 =>
 Option.bind (α := Bool)
 (bif (decide ((r35.length : Int) < (1 : Int))) then
 some true
 else
 bif (decide ((r35.length : Int) > (4 : Int))) then
 some true
 else
 Option.bind (schema_places (p0.Cols.length : Int) r35) fun r45 =>
 bif (!r45) then
 some true
 else
 Option.bind (schema_places (p0.Cols.length : Int) p1.Extra) fun r47 =>
 bif (!r47) then
 some true
 else
 some r37)
 fun y42 =>
 bif y42 then
 some (1 : Int)
 else
 Option.bind (schema_KeyMax p0.Cols p1.Parts) fun r49 =>
 bif (decide (r49 > (128 : Int))) then
 some (7 : Int)
 else
 some (0 : Int)
theorem schema_index_ok (p0 : ApiTable) (p1 : ApiIndex) (r : Int) (h0 : schema_index p0 p1 = some r) : CallAt Tryd.prog 68 [.d (eApiTable p0), .d (eApiIndex p1)] [] (.d (eI r)) [] := by
 unfold schema_index at h0
 refine fn0 [0, 1] Tryd.func68 rfl rfl rfl rfl rfl ?_
 obtain ⟨r35, hq34, h0⟩ := ob h0; obtain ⟨r37, hq36, h0⟩ := ob h0
 refine sr (s1 (bxo (k := 0) rfl rfl rfl) (s1 (bxo (k := 1) rfl rfl rfl) (sa rfl (sn (sr (s1 (far (k := 1) rfl fo53_1 ts49 rfl) (s1 (lod rfl (ld_box ts49 ta49 rfl rfl)) (s1 (len rfl rfl rfl (len_lst un49)) (sa rfl ?_)))))))))
 refine sn (sr (s1 (far (k := 1) rfl fo85_1 ts83 rfl) (s1 (lod rfl (ld_box ts83 ta83 rfl rfl)) (c0 (schema_cols_ok p1.Parts _ hq34) wf rfl rfl rfl cb92 rfl (fun _ => rfl) (fun _ => rfl) (s1 (alo (k := 2) zo50 rfl) (s0 (sto rfl rfl (sC ts50 rfl rfl rfl rfl rfl rfl)) (sn (sr (s1 (far (k := 2) rfl fo85_2 ts50 rfl) ?_)))))))))
 refine s1 (lod rfl (ld_box ts50 ta50 rfl rfl)) (s1 (mkf rfl rfl) (cq [2, 0] [] (slices_ContainsFunc_int_int_2_ok p1.Extra r35 p0 _ hq36) wf rfl rfl rfl cb63 rfl rfl rfl rfl rfl rfl rfl rfl (sa rfl (sn (sq (SC.blk (SC.seqP h0 (fun y => ⟨mk 50 [(2, .ref 0 0 0), (3, .ref 1 0 0), (18, .d (eB y))], [.box (.d (eApiTable p0)), .box (.d (eApiIndex p1))]⟩) ?_ ?_)))))))
 ·intro u1_43 h1
  refine SC.region (s1 (lod rfl (ld_box ts50 ta50 rfl rfl)) (s1 (len rfl rfl rfl (len_lst un50)) (s1 (bi rfl rfl q_i64_lss) (sm rfl (sp h1 (fun h1 => ?_) (fun h1 => ?_))))))
  ·have q := si h1; subst q
   refine kw rfl (kw rfl (kw rfl (s1 (pkt rfl rfl) (sm rfl (kw rfl (kw rfl (kw rfl (kw rfl (s1 (pkt rfl rfl) ?_)))))))))
   refine sm rfl (kw rfl (kw rfl (kw rfl (kw rfl (kw rfl (s1 (pkt rfl rfl) (sm rfl (kw rfl (s1 (pkt rfl rfl) ?_)))))))))
   exact sa rfl (SO.nil ((wc [0, 1] [0, 1] (by kernel_rfl) rfl (by kernel_rfl))))
  ·refine gw rfl (lod rfl (ld_box ts50 ta50 rfl rfl)) (gw rfl (len rfl rfl rfl (len_lst un50)) (gw rfl (bi rfl rfl q_i64_gtr) (s1 (pkf rfl rfl) (sm rfl (sp h1 (fun h1 => ?_) (fun h1 => ?_))))))
   ·have q := si h1; subst q
    refine kw rfl (kw rfl (kw rfl (kw rfl (s1 (pkt rfl rfl) (sm rfl (kw rfl (kw rfl (kw rfl (kw rfl ?_)))))))))
    exact kw rfl (s1 (pkt rfl rfl) (sm rfl (kw rfl (s1 (pkt rfl rfl) (sa rfl (SO.nil ((wc [0, 1] [0, 1] (by kernel_rfl) rfl (by kernel_rfl)))))))))
   ·obtain ⟨r45, hq44, h1⟩ := ob h1
    refine gw rfl (mv rfl) (gw rfl (lod rfl (ld_box ts50 ta50 rfl rfl)) (c0 (schema_places_ok (p0.Cols.length : Int) r35 _ hq44) (ww rfl) rfl rfl rfl cb62 rfl (fun _ => rfl) (fun _ => rfl) (gw rfl (nt rfl) (s1 (pkf rfl rfl) (sm rfl (sp h1 (fun h1 => ?_) (fun h1 => ?_)))))))
    ·have q := si h1; subst q
     refine kw rfl (kw rfl (kw rfl (kw rfl (kw rfl (s1 (pkt rfl rfl) (sm rfl (kw rfl (s1 (pkt rfl rfl) (sa rfl ?_)))))))))
     exact SO.nil ((wc [0, 1] [0, 1] (by kernel_rfl) rfl (by kernel_rfl)))
    ·obtain ⟨r47, hq46, h1⟩ := ob h1
     refine gw rfl (mv rfl) (gw rfl (far (k := 2) rfl fo85_2 ts50 rfl) (gw rfl (lod rfl (ld_box ts50 ta50 rfl rfl)) (c0 (schema_places_ok (p0.Cols.length : Int) p1.Extra _ hq46) (ww rfl) rfl rfl rfl cb62 rfl (fun _ => rfl) (fun _ => rfl) (gw rfl (nt rfl) (s1 (pkf rfl rfl) (sm rfl (sp h1 (fun h1 => ?_) (fun h1 => ?_))))))))
     ·have q := si h1; subst q
      exact kw rfl (s1 (pkt rfl rfl) (sa rfl (SO.nil ((wc [0, 1] [0, 1] (by kernel_rfl) rfl (by kernel_rfl))))))
     ·have q := si h1; subst q
      exact gw rfl (mv rfl) (s1 (pkf rfl rfl) (sa rfl (SO.nil ((wc [0, 1] [0, 1] (by kernel_rfl) rfl (by kernel_rfl))))))
 ·rintro y42 h0
  refine cB h0 rfl (fun h0 => ?_) (fun h0 => ?_)
  ·have q := si h0; subst q
   exact sr (sa rfl (sn (SC.ret (finR (wc (e' := [(4, .d (eI (1 : Int)))]) [] [] (by kernel_rfl) rfl (by kernel_rfl)) (lresT rfl lresN) rfl))))
  ·obtain ⟨r49, hq48, h0⟩ := ob h0
   refine sr (s1 (far (k := 1) rfl fo53_1 ts49 rfl) (s1 (lod rfl (ld_box ts49 ta49 rfl rfl)) (s1 (far (k := 1) rfl fo85_1 ts83 rfl) (s1 (lod rfl (ld_box ts83 ta83 rfl rfl)) (c0 (schema_KeyMax_ok p0.Cols p1.Parts _ hq48) wf rfl rfl rfl cb66 rfl (fun _ => rfl) (fun _ => rfl) (s1 (bi rfl rfl q_i64_gtr) (sa rfl (sn (cB h0 rfl (fun h0 => ?_) (fun h0 => ?_))))))))))
   ·have q := si h0; subst q
    exact sr (sa rfl (sn (SC.ret (finR (wc (e' := [(4, .d (eI (7 : Int)))]) [] [] (by kernel_rfl) rfl (by kernel_rfl)) (lresT rfl lresN) rfl))))
   ·refine SC.skip ?_
    change SC _ _ _ _ _
    have q := si h0; subst q
    exact sr (sa rfl (sn (SC.ret (finR (wc (e' := [(4, .d (eI (0 : Int)))]) [] [] (by kernel_rfl) rfl (by kernel_rfl)) (lresT rfl lresN) rfl))))
noncomputable def schema_Check (p0 : ApiTable) : Option Int :=
 Option.bind (value_Name p0.Name) fun r145 =>
 bif (!r145) then
 some (1 : Int)
 else
 Option.bind (schema_columns p0.Cols) fun r147 =>
 bif (r147 != (0 : Int)) then
 some r147
 else
 Option.bind (α := Bool)
 (bif (decide ((p0.Primary.length : Int) < (1 : Int))) then
 some true
 else
 bif (decide ((p0.Primary.length : Int) > (4 : Int))) then
 some true
 else
 Option.bind (schema_places (p0.Cols.length : Int) p0.Primary) fun r153 =>
 some (!r153))
 fun y150 =>
 bif y150 then
 some (1 : Int)
 else
 Option.bind (slices_ContainsFunc_int_int_1 p0.Primary p0) fun r155 =>
 bif r155 then
 some (1 : Int)
 else
 Option.bind (α := Bool)
 (Option.bind (schema_RowMax p0.Cols) fun r165 =>
 bif (decide (r165 > (512 : Int))) then
 some true
 else
 Option.bind (schema_up p0.Primary) fun r167 =>
 Option.bind (schema_KeyMax p0.Cols r167) fun r169 =>
 bif (decide (r169 > (128 : Int))) then
 some true
 else
 some (decide ((p0.Indexes.length : Int) > (6 : Int))))
 fun y162 =>
 bif y162 then
 some (7 : Int)
 else
 bindE (Y := Unit) (E := Int)
 (Option.bind (α := Unit ⊕ Int)
 (loop (Y := Int × (List ((List UInt8) × Bool))) (W := Unit ⊕ Int) (fun (y198, y199) =>
 bif (decide (y198 < (p0.Indexes.length : Int))) then
 Option.bind (getI p0.Indexes y198) fun v209 =>
 Option.bind (value_Name v209.Name) fun r211 =>
 bif (!r211) then
 some (Sum.inr (Sum.inr (1 : Int)))
 else
 bif (Option.getD (mget y199 v209.Name) false) then
 some (Sum.inr (Sum.inr (6 : Int)))
 else
 Option.bind (schema_index p0 v209) fun r213 =>
 bif (r213 != (0 : Int)) then
 some (Sum.inr (Sum.inr r213))
 else
 some (Sum.inl ((w64 (y198 + (1 : Int))), (mset y199 v209.Name true)))
 else
 some (Sum.inr (Sum.inl ()))) ((0 : Int), ([] : List ((List UInt8) × Bool))))
 (Sum.elim (fun e => some (Sum.inl e)) (fun e => some (Sum.inr e))))
 (fun _ =>
 some (0 : Int))
 (fun e => some e)
theorem schema_Check_ok (p0 : ApiTable) (r : Int) (h0 : schema_Check p0 = some r) : CallAt Tryd.prog 34 [.d (eApiTable p0)] [] (.d (eI r)) [] := by
 unfold schema_Check at h0
 refine fn0 [0] Tryd.func34 rfl rfl rfl rfl rfl ?_
 obtain ⟨r145, hq144, h0⟩ := ob h0
 refine sr (s1 (bxo (k := 0) rfl rfl rfl) (sa rfl (sn (sq (sr (s1 (far (k := 0) rfl fo53_0 ts9 rfl) (s1 (lod rfl (ld_box ts9 ta9 rfl rfl)) (c0 (value_Name_ok p0.Name _ hq144) wf rfl rfl rfl cb60 rfl (fun _ => rfl) (fun _ => rfl) (s1 (nt rfl) ?_)))))))))
 refine sn (cB h0 rfl (fun h0 => ?_) (fun h0 => ?_))
 ·have q := si h0; subst q
  exact sr (sa rfl (sn (SC.ret (finR (wc (e' := [(2, .d (eI (1 : Int)))]) [] [] (by kernel_rfl) rfl (by kernel_rfl)) (lresT rfl lresN) rfl))))
 ·obtain ⟨r147, hq146, h0⟩ := ob h0
  refine sk (sq (sr (s1 (far (k := 1) rfl fo53_1 ts49 rfl) (s1 (lod rfl (ld_box ts49 ta49 rfl rfl)) (c0 (schema_columns_ok p0.Cols _ hq146) wf rfl rfl rfl cb61 rfl (fun _ => rfl) (fun _ => rfl) (sa rfl (sn (sr (sm rfl ?_)))))))))
  refine s1 (bi rfl rfl q_i64_neq) (sn (cB h0 rfl (fun h0 => ?_) (fun h0 => ?_)))
  ·have q := si h0; subst q
   exact sr (sm rfl (sa rfl (sn (SC.ret (finR (wc (e' := [(2, .d (eI r147))]) [] [] (by kernel_rfl) rfl (by kernel_rfl)) (lresT rfl lresN) rfl)))))
  ·refine sk (sq (SC.seqP h0 (fun y => ⟨mk 88 [(1, .ref 0 0 0), (36, .d (eB y))], [.box (.d (eApiTable p0))]⟩) ?_ ?_))
   ·intro u1_151 h1
    refine SC.region (s1 (far (k := 2) rfl fo53_2 ts50 rfl) (s1 (lod rfl (ld_box ts50 ta50 rfl rfl)) (s1 (len rfl rfl rfl (len_lst un50)) (s1 (bi rfl rfl q_i64_lss) (sm rfl (sp h1 (fun h1 => ?_) (fun h1 => ?_)))))))
    ·have q := si h1; subst q
     refine kw rfl (kw rfl (kw rfl (kw rfl (s1 (pkt rfl rfl) (sm rfl (kw rfl (kw rfl (kw rfl (kw rfl ?_)))))))))
     exact kw rfl (kw rfl (kw rfl (s1 (pkt rfl rfl) (SO.nil ((wq rfl))))))
    ·refine gw rfl (far (k := 2) rfl fo53_2 ts50 rfl) (gw rfl (lod rfl (ld_box ts50 ta50 rfl rfl)) (gw rfl (len rfl rfl rfl (len_lst un50)) (gw rfl (bi rfl rfl q_i64_gtr) (s1 (pkf rfl rfl) (sm rfl (sp h1 (fun h1 => ?_) (fun h1 => ?_)))))))
     ·have q := si h1; subst q
      exact kw rfl (kw rfl (kw rfl (kw rfl (kw rfl (kw rfl (kw rfl (s1 (pkt rfl rfl) (SO.nil ((wq rfl))))))))))
     ·obtain ⟨r153, hq152, h1⟩ := ob h1; have q := si h1; subst q
      exact gw rfl (far (k := 1) rfl fo53_1 ts49 rfl) (gw rfl (lod rfl (ld_box ts49 ta49 rfl rfl)) (gw rfl (len rfl rfl rfl (len_lst un49)) (gw rfl (far (k := 2) rfl fo53_2 ts50 rfl) (gw rfl (lod rfl (ld_box ts50 ta50 rfl rfl)) (c0 (schema_places_ok (p0.Cols.length : Int) p0.Primary _ hq152) (ww rfl) rfl rfl rfl cb62 rfl (fun _ => rfl) (fun _ => rfl) (gw rfl (nt rfl) (s1 (pkf rfl rfl) (SO.nil ((wq rfl))))))))))
   ·rintro y150 h0
    refine cB h0 rfl (fun h0 => ?_) (fun h0 => ?_)
    ·have q := si h0; subst q
     exact sr (sa rfl (sn (SC.ret (finR (wc (e' := [(2, .d (eI (1 : Int)))]) [] [] (by kernel_rfl) rfl (by kernel_rfl)) (lresT rfl lresN) rfl))))
    ·obtain ⟨r155, hq154, h0⟩ := ob h0
     refine sk (sq (sr (s1 (far (k := 2) rfl fo53_2 ts50 rfl) (s1 (lod rfl (ld_box ts50 ta50 rfl rfl)) (s1 (mkf rfl rfl) (cq [0] [] (slices_ContainsFunc_int_int_1_ok p0.Primary p0 _ hq154) wf rfl rfl rfl cb63 rfl rfl rfl rfl rfl rfl rfl rfl (sn (cB h0 rfl (fun h0 => ?_) (fun h0 => ?_)))))))))
     ·have q := si h0; subst q
      exact sr (sa rfl (sn (SC.ret (finR (wc (e' := [(2, .d (eI (1 : Int)))]) [] [] (by kernel_rfl) rfl (by kernel_rfl)) (lresT rfl lresN) rfl))))
     ·refine sk (sq (SC.seqP h0 (fun y => ⟨mk 88 [(1, .ref 0 0 0), (59, .d (eB y))], [.box (.d (eApiTable p0))]⟩) ?_ ?_))
      ·intro u1_163 h1
       obtain ⟨r165, hq164, h1⟩ := ob h1
       refine SC.draws (by kernel_rfl) (t1 ([], false) (far (k := 1) rfl fo53_1 ts49 rfl) rfl (t1 ([0], false) (lod rfl (ld_box ts49 ta49 rfl rfl)) rfl (tc0 (schema_RowMax_ok p0.Cols _ hq164) wf rfl rfl rfl cb65 rfl (fun _ => rfl) (fun _ => rfl) (t1 ([], false) (bi rfl rfl q_i64_gtr) rfl (t1 ([], false) (mv rfl) rfl (tp h1 (fun h1 => ?_) (fun h1 => ?_)))))))
       ·have q := si h1; subst q
        refine jw rfl (jw rfl (jw rfl (jw rfl (jw rfl (jw rfl (jw rfl (t1 ([], false) (pkt rfl rfl) rfl (t1 ([], false) (mv rfl) rfl (jw rfl ?_)))))))))
        refine jw rfl (jw rfl (jw rfl (t1 ([], false) (pkt rfl rfl) rfl (ST.nil (And.intro (by decide +kernel) ?_)))))
        exact (wq rfl)
       ·obtain ⟨r167, hq166, h1⟩ := ob h1; obtain ⟨r169, hq168, h1⟩ := ob h1
        refine u1 ([], false) (ww rfl) (far (k := 1) rfl fo53_1 ts49 rfl) rfl (u1 ([0], false) (ww rfl) (lod rfl (ld_box ts49 ta49 rfl rfl)) rfl (u1 ([], false) (ww rfl) (far (k := 2) rfl fo53_2 ts50 rfl) rfl (u1 ([0], false) (ww rfl) (lod rfl (ld_box ts50 ta50 rfl rfl)) rfl (tc0 (schema_up_ok p0.Primary _ hq166) (ww rfl) rfl rfl rfl cb67 rfl (fun _ => rfl) (fun _ => rfl) (tc0 (schema_KeyMax_ok p0.Cols r167 _ hq168) (ww rfl) rfl rfl rfl cb66 rfl (fun _ => rfl) (fun _ => rfl) (u1 ([], false) (ww rfl) (bi rfl rfl q_i64_gtr) rfl (t1 ([], false) (pkf rfl rfl) rfl (t1 ([], false) (mv rfl) rfl (tp h1 (fun h1 => ?_) (fun h1 => ?_))))))))))
        ·have q := si h1; subst q
         refine jw rfl (jw rfl (jw rfl (jw rfl (t1 ([], false) (pkt rfl rfl) rfl (ST.nil (And.intro (by decide +kernel) ?_))))))
         exact (wq rfl)
        ·have q := si h1; subst q
         refine u1 ([], false) (ww rfl) (far (k := 3) rfl fo53_3 ts51 rfl) rfl (u1 ([0], false) (ww rfl) (lod rfl (ld_box ts51 ta51 rfl rfl)) rfl (u1 ([], false) (ww rfl) (len rfl rfl rfl (len_lst un51)) rfl (u1 ([], false) (ww rfl) (bi rfl rfl q_i64_gtr) rfl (t1 ([], false) (pkf rfl rfl) rfl (ST.nil (And.intro (by decide +kernel) ?_))))))
         exact (wq rfl)
      ·rintro y162 h0
       refine cB h0 rfl (fun h0 => ?_) (fun h0 => ?_)
       ·have q := si h0; subst q
        exact sr (sa rfl (sn (SC.ret (finR (wc (e' := [(2, .d (eI (7 : Int)))]) [] [] (by kernel_rfl) rfl (by kernel_rfl)) (lresT rfl lresN) rfl))))
       ·refine sk (sr (s1 (mkm (f := eS) (g := eB) (i := 1) un136 rfl) (sa rfl (sn (SC.seqB h0 (fun y => ⟨mk 88 [], []⟩) ?_ ?_)))))
        ·intro u1_192 h1 h0
         obtain ⟨u2_208, h2, h1⟩ := ob h1
         refine sr (s1 (far (k := 3) rfl fo53_3 ts51 rfl) (s1 (lod rfl (ld_box ts51 ta51 rfl rfl)) (s1 (len rfl rfl rfl (len_lst un51)) (sm rfl (sn (SC.blk (SC.loopB h2 (fun y => ⟨mk 88 [(1, .ref 0 0 0), (4, .mapr 1), (62, .d ((eL 6 eApiIndex) p0.Indexes)), (63, .d (eI (p0.Indexes.length : Int))), (64, .d (eI y.1))], [.box (.d (eApiTable p0)), .map (List.map (eM eS eB) y.2)]⟩) (wq rfl) ?_)))))))
         intro n214
         rintro ⟨y198, y199⟩ w2_207 h3 hv3
         refine sr (s1 (bi rfl rfl q_i64_lss) (sn (sq (cB h3 rfl (fun h3 => ?_) (fun h3 => ?_)))))
         ·obtain ⟨v209, hv209, h3⟩ := ob h3; obtain ⟨r211, hq210, h3⟩ := ob h3
          refine sk (sq (SC.blk (sr (s1 (ial rfl rfl un51 ts85 (getI_some hv209).1 (map_get (getI_some hv209).2) rfl) (s1 (lod (v := .d (eApiIndex v209)) rfl (ld_rop ts85 ta85 rfl)) (s1 (alo (k := 2) zo85 rfl) (s0 (sto rfl rfl (sB (d' := .d (eApiIndex v209)) ts85 rfl rfl rfl rfl rfl rfl rfl)) (sn (sq ?_)))))))))
          refine SC.blk (sr (s1 (far (k := 0) rfl fo85_0 ts9 rfl) (s1 (lod rfl (ld_box ts9 ta9 rfl rfl)) (c0 (value_Name_ok v209.Name _ hq210) wf rfl rfl rfl cb60 rfl (fun _ => rfl) (fun _ => rfl) (s1 (nt rfl) (sa rfl (sn (cB h3 rfl (fun h3 => ?_) (fun h3 => ?_)))))))))
          ·have q := si h3; subst q; have q : _ = _ := hv3; subst q; have q := si h1; subst q; have q := si h0; subst q
           exact sr (sa rfl (sn (SC.ret (finR (wc (e' := [(2, .d (eI (1 : Int)))]) [] [] (by kernel_rfl) rfl (by kernel_rfl)) (lresT rfl lresN) rfl))))
          ·refine sr (sm rfl (s1 (far (k := 0) rfl fo85_0 ts9 rfl) (s1 (lod rfl (ld_box ts9 ta9 rfl rfl)) (s1 (mlk (f := eS) (g := eB) (k := v209.Name) (v := false) kq_str rfl rfl un136 un9 rfl zo4 rfl) (sa rfl (sn (cB h3 rfl (fun h3 => ?_) (fun h3 => ?_))))))))
           ·have q := si h3; subst q; have q : _ = _ := hv3; subst q; have q := si h1; subst q; have q := si h0; subst q
            exact sr (sa rfl (sn (SC.ret (finR (wc (e' := [(2, .d (eI (6 : Int)))]) [] [] (by kernel_rfl) rfl (by kernel_rfl)) (lresT rfl lresN) rfl))))
           ·refine SC.skip ?_
            change SC _ _ _ _ _
            obtain ⟨r213, hq212, h3⟩ := ob h3
            refine sr (sm rfl (s1 (far (k := 0) rfl fo85_0 ts9 rfl) (s1 (lod rfl (ld_box ts9 ta9 rfl rfl)) (s0 (mpu (f := eS) (g := eB) (k := v209.Name) (v := true) kq_str rfl rfl rfl rfl un136 un9 rfl rfl rfl) (sn (sr (s1 (lod (v := .d (eApiTable p0)) rfl (ld_box ts53 ta53 rfl rfl)) (s1 (lod (v := .d (eApiIndex v209)) rfl (ld_box ts85 ta85 rfl rfl)) (c0 (schema_index_ok p0 v209 _ hq212) wf rfl rfl rfl cb68 rfl (fun _ => rfl) (fun _ => rfl) ?_)))))))))
            refine sa rfl (sn (sr (sm rfl (s1 (bi rfl rfl q_i64_neq) (sn (cB h3 rfl (fun h3 => ?_) (fun h3 => ?_)))))))
            ·have q := si h3; subst q; have q : _ = _ := hv3; subst q; have q := si h1; subst q; have q := si h0; subst q
             exact sr (sm rfl (sa rfl (sn (SC.ret (finR (wc (e' := [(2, .d (eI r213))]) [] [] (by kernel_rfl) rfl (by kernel_rfl)) (lresT rfl lresN) rfl)))))
            ·refine SC.skip ?_
             change SC _ _ _ _ _
             have q := si h3; subst q
             exact SC.region (s1 (bi rfl rfl q_i64_add) (sm rfl (SO.nil (lf (wc [0, 1] [0, 1] (by kernel_rfl) rfl (by kernel_rfl))))))
         ·have q := si h3; subst q; have q : _ = _ := hv3; subst q; have q := si h1; subst q
          exact SC.exit (lf (wc [] [] (by kernel_rfl) rfl (by kernel_rfl)))
        ·intro _ h0
         have q := si h0; subst q
         exact sr (sa rfl (sn (SC.ret (finR (Wk.refl _) (lresT rfl lresN) rfl))))
noncomputable def catalog_right_1 (p0 : Int) : Option Bool :=
 Option.bind (α := Bool)
 (bif (decide (p0 ≥ (1 : Int))) then
 some (decide (p0 ≤ (65535 : Int)))
 else
 some false)
 fun y6 =>
 some y6
theorem catalog_right_1_ok (p0 : Int) (r : Bool) (h0 : catalog_right_1 p0 = some r) : CallAt Tryd.prog 33 [.d (eI p0)] [] (.d (eB r)) [] := by
 unfold catalog_right_1 at h0
 refine fn0 [0] Tryd.func33 rfl rfl rfl rfl rfl ?_
 refine sr (sa rfl (sn (SC.seqP h0 (fun y => ⟨mk 9 [(2, .d (eB y))], []⟩) ?_ ?_)))
 ·intro u1_7 h1
  refine SC.region (sm rfl (s1 (bi rfl rfl q_i64_geq) (sm rfl (sp h1 (fun h1 => ?_) (fun h1 => ?_)))))
  ·have q := si h1; subst q
   exact gw rfl (mv rfl) (gw rfl (bi rfl rfl q_i64_leq) (s1 (pkt rfl rfl) (sa rfl (SO.nil ((wq rfl))))))
  ·have q := si h1; subst q
   exact kw rfl (kw rfl (s1 (pkf rfl rfl) (sa rfl (SO.nil ((wq rfl))))))
 ·rintro y6 h0
  have q := si h0; subst q
  exact SC.ret (finR (Wk.refl _) (lresT rfl lresN) rfl)
noncomputable def catalog_right_2 (p0 : ApiIndex) : Option Bool :=
 Option.bind (catalog_right_1 p0.Tree) fun r7 =>
 some (!r7)
theorem catalog_right_2_ok (p0 : ApiIndex) (r : Bool) (h0 : catalog_right_2 p0 = some r) : CallAt Tryd.prog 36 [.d (eApiIndex p0), .ref 0 0 0] [.box (.fn (.func 33) [] [])] (.d (eB r)) [.box (.fn (.func 33) [] [])] := by
 unfold catalog_right_2 at h0
 refine fn0 [0, 1] Tryd.func36 rfl rfl rfl rfl rfl ?_
 obtain ⟨r7, hq6, h0⟩ := ob h0; have q := si h0; subst q
 refine sr (s1 (bxo (k := 1) rfl rfl rfl) (sa rfl (sn (sr (s1 (lod rfl (ld_box ts99 ta99 rfl rfl)) (s1 (far (k := 5) rfl fo85_5 ts3 rfl) (s1 (lod rfl (ld_box ts3 ta3 rfl rfl)) (c0 (catalog_right_1_ok p0.Tree _ hq6) wf rfl rfl rfl cb33 rfl (fun _ => rfl) (fun _ => rfl) (s1 (nt rfl) ?_)))))))))
 exact sa rfl (sn (SC.ret (finR (wc (e' := [(3, .d (eB (!r7)))]) [0] [0] (by kernel_rfl) rfl (by kernel_rfl)) (lresT rfl lresN) rfl)))
noncomputable def slices_IndexFunc_api_Index_api_Index_2 (p0 : List ApiIndex) : Option Int :=
 bindE (Y := Unit) (E := Int)
 (Option.bind (α := Unit ⊕ Int)
 (loop (Y := Int) (W := Unit ⊕ Int) (fun y78 =>
 bif (decide (y78 < (p0.length : Int))) then
 Option.bind (getI p0 y78) fun v85 =>
 Option.bind (catalog_right_2 v85) fun r87 =>
 bif r87 then
 some (Sum.inr (Sum.inr y78))
 else
 some (Sum.inl (w64 (y78 + (1 : Int))))
 else
 some (Sum.inr (Sum.inl ()))) (0 : Int))
 (Sum.elim (fun e => some (Sum.inl e)) (fun e => some (Sum.inr e))))
 (fun _ =>
 some (-1 : Int))
 (fun e => some e)
theorem slices_IndexFunc_api_Index_api_Index_2_ok (p0 : List ApiIndex) (r : Int) (h0 : slices_IndexFunc_api_Index_api_Index_2 p0 = some r) : CallAt Tryd.prog 69 [.d ((eL 6 eApiIndex) p0), .fn (.func 36) [] [.ref 0 0 0]] [.box (.fn (.func 33) [] [])] (.d (eI r)) [.box (.fn (.func 33) [] [])] := by
 unfold slices_IndexFunc_api_Index_api_Index_2 at h0
 refine fn0 [0, 1] Tryd.func69 rfl rfl rfl rfl rfl ?_
 refine sr (sa rfl (sn (SC.seqB h0 (fun y => ⟨mk 19 [], [.box (.fn (.func 33) [] [])]⟩) ?_ ?_)))
 ·intro u1_74 h1 h0
  obtain ⟨u2_84, h2, h1⟩ := ob h1
  refine sr (sm rfl (s1 (len rfl rfl rfl (len_lst un51)) (sm rfl (sn (SC.blk (SC.loopB h2 (fun y => ⟨mk 19 [(0, .d ((eL 6 eApiIndex) p0)), (1, .fn (.func 36) [] [.ref 0 0 0]), (7, .d (eI (p0.length : Int))), (8, .d (eI y))], [.box (.fn (.func 33) [] [])]⟩) (wq rfl) ?_))))))
  intro n88
  rintro y78 w2_83 h3 hv3
  refine sr (s1 (bi rfl rfl q_i64_lss) (sn (sq (cB h3 rfl (fun h3 => ?_) (fun h3 => ?_)))))
  ·obtain ⟨v85, hv85, h3⟩ := ob h3; obtain ⟨r87, hq86, h3⟩ := ob h3
   refine sk (sq (SC.blk (sr (sm rfl (sa rfl (sn (sr (sm rfl (sm rfl ?_)))))))))
   refine sm rfl (s1 (ial rfl rfl un51 ts85 (getI_some hv85).1 (map_get (getI_some hv85).2) rfl) (s1 (lod (v := .d (eApiIndex v85)) rfl (ld_rop ts85 ta85 rfl)) (cq [0] [] (catalog_right_2_ok v85 _ hq86) wf rfl rfl rfl cb36 rfl rfl rfl rfl rfl rfl rfl rfl (sn (cB h3 rfl (fun h3 => ?_) (fun h3 => ?_))))))
   ·have q := si h3; subst q; have q : _ = _ := hv3; subst q; have q := si h1; subst q; have q := si h0; subst q
    exact sr (sm rfl (sa rfl (sn (SC.ret (finR (Wk.refl _) (lresT rfl lresN) rfl)))))
   ·refine SC.skip ?_
    change SC _ _ _ _ _
    have q := si h3; subst q
    exact SC.region (s1 (bi rfl rfl q_i64_add) (sm rfl (SO.nil (lf (wq rfl)))))
  ·have q := si h3; subst q; have q : _ = _ := hv3; subst q; have q := si h1; subst q
   exact SC.exit (lf (wq rfl))
 ·intro _ h0
  have q := si h0; subst q
  exact sr (sa rfl (sn (SC.ret (finR (Wk.refl _) (lresT rfl lresN) rfl))))
noncomputable def slices_ContainsFunc_api_Index_api_Index_1 (p0 : List ApiIndex) : Option Bool :=
 Option.bind (slices_IndexFunc_api_Index_api_Index_2 p0) fun r7 =>
 some (decide (r7 ≥ (0 : Int)))
theorem slices_ContainsFunc_api_Index_api_Index_1_ok (p0 : List ApiIndex) (r : Bool) (h0 : slices_ContainsFunc_api_Index_api_Index_1 p0 = some r) : CallAt Tryd.prog 35 [.d ((eL 6 eApiIndex) p0), .fn (.func 36) [] [.ref 0 0 0]] [.box (.fn (.func 33) [] [])] (.d (eB r)) [.box (.fn (.func 33) [] [])] := by
 unfold slices_ContainsFunc_api_Index_api_Index_1 at h0
 refine fn0 [0, 1] Tryd.func35 rfl rfl rfl rfl rfl ?_
 obtain ⟨r7, hq6, h0⟩ := ob h0; have q := si h0; subst q
 refine sr (sa rfl (sn (sr (sm rfl (sm rfl (cq [0] [] (slices_IndexFunc_api_Index_api_Index_2_ok p0 _ hq6) wf rfl rfl rfl cb69 rfl rfl rfl rfl rfl rfl rfl rfl (s1 (bi rfl rfl q_i64_geq) (sa rfl (sn ?_)))))))))
 exact SC.ret (finR (Wk.refl _) (lresT rfl lresN) rfl)
noncomputable def catalog_right (p0 : ApiTable) : Option Bool :=
 Option.bind (α := Bool)
 (Option.bind (schema_Check p0) fun r39 =>
 bif (r39 == (0 : Int)) then
 Option.bind (catalog_right_1 p0.Tree) fun r41 =>
 bif r41 then
 Option.bind (slices_ContainsFunc_api_Index_api_Index_1 p0.Indexes) fun r43 =>
 some (!r43)
 else
 some false
 else
 some false)
 fun y36 =>
 some y36
theorem catalog_right_ok (p0 : ApiTable) (r : Bool) (h0 : catalog_right p0 = some r) : CallAt Tryd.prog 20 [.d (eApiTable p0)] [] (.d (eB r)) [] := by
 unfold catalog_right at h0
 refine fn0 [0] Tryd.func20 rfl rfl rfl rfl rfl ?_
 refine sr (s1 (bxo (k := 0) rfl rfl rfl) (sa rfl (sn (sr (s1 (alo (k := 1) zo99 rfl) (s0 (sto (b := .fn (.func 33) [] []) rfl rfl (sC ts99 rfl rfl rfl rfl rfl rfl)) (sn (SC.seqP h0 (fun y => ⟨mk 20 [(2, .d (eB y))], []⟩) ?_ ?_))))))))
 ·intro u1_37 h1
  obtain ⟨r39, hq38, h1⟩ := ob h1
  refine SC.region (s1 (lod (v := .d (eApiTable p0)) rfl (ld_box ts53 ta53 rfl rfl)) (c0 (schema_Check_ok p0 _ hq38) wf rfl rfl rfl cb34 rfl (fun _ => rfl) (fun _ => rfl) (s1 (bi rfl rfl q_i64_eql) (sm rfl (sp h1 (fun h1 => ?_) (fun h1 => ?_))))))
  ·obtain ⟨r41, hq40, h1⟩ := ob h1
   refine gw rfl (lod rfl (ld_box ts99 ta99 rfl rfl)) (gw rfl (far (k := 4) rfl fo53_4 ts3 rfl) (gw rfl (lod rfl (ld_box ts3 ta3 rfl rfl)) (c0 (catalog_right_1_ok p0.Tree _ hq40) (ww rfl) rfl rfl rfl cb33 rfl (fun _ => rfl) (fun _ => rfl) (s1 (pkt rfl rfl) (sm rfl (sp h1 (fun h1 => ?_) (fun h1 => ?_)))))))
   ·obtain ⟨r43, hq42, h1⟩ := ob h1; have q := si h1; subst q
    exact gw rfl (far (k := 3) rfl fo53_3 ts51 rfl) (gw rfl (lod rfl (ld_box ts51 ta51 rfl rfl)) (gw rfl (mkf rfl rfl) (cq [1] [] (slices_ContainsFunc_api_Index_api_Index_1_ok p0.Indexes _ hq42) (ww rfl) rfl rfl rfl cb35 rfl rfl rfl rfl rfl rfl rfl rfl (gw rfl (nt rfl) (s1 (pkt rfl rfl) (sa rfl (SO.nil ((wc [] [] (by kernel_rfl) rfl (by kernel_rfl))))))))))
   ·have q := si h1; subst q
    exact kw rfl (kw rfl (kw rfl (kw rfl (kw rfl (s1 (pkf rfl rfl) (sa rfl (SO.nil ((wc [] [] (by kernel_rfl) rfl (by kernel_rfl))))))))))
  ·have q := si h1; subst q
   refine kw rfl (kw rfl (kw rfl (kw rfl (s1 (pkf rfl rfl) (sm rfl (kw rfl (kw rfl (kw rfl (kw rfl ?_)))))))))
   exact kw rfl (s1 (pkf rfl rfl) (sa rfl (SO.nil ((wc [] [] (by kernel_rfl) rfl (by kernel_rfl))))))
 ·rintro y36 h0
  have q := si h0; subst q
  exact SC.ret (finR (Wk.refl _) (lresT rfl lresN) rfl)
noncomputable def pack_Out_put (p0 : List UInt8) : Option Unit :=
 bif decide (p0.length * 1 ≤ room) then
 some ()
 else none
theorem pack_Out_put_ok (p0 : List UInt8) (r : Unit) (h0 : pack_Out_put p0 = some r) : CallAt Tryd.prog 37 [.ref 0 0 0, .d ((eL 1 eU8) p0)] [.box (.d (.agg [.nils]))] (.tuple []) [.box (.agg [.slc 1 1 0 p0.length none]), .row 1 (List.map eU8 p0) true] := by
 unfold pack_Out_put at h0
 refine fn0 [0, 1] Tryd.func37 rfl rfl rfl rfl rfl ?_
 obtain ⟨hg3, h0⟩ := gd h0; have q := si h0; subst q
 refine sr (sm rfl (s1 (bi (v := .d (eB true)) rfl rfl (fun _ _ => nil_neq un79)) (sn (cT rfl (SC.region (sm rfl (sm rfl (s1 (nkr rfl) (s1 (far (k := 0) rfl fo74_0 ts72 rfl) ?_)))))))))
 exact s1 (lod rfl (ld_box ts72 ta72 rfl rfl)) (sm rfl (s1 (app rfl rfl rfl rfl bc72 (aN (f := eU8) (k := 1) un72 ei5 el_lst hg3 rfl)) (s1 (nkr rfl) (s1 (far (k := 0) rfl fo74_0 ts72 rfl) (s0 (sto rfl rfl (sB (d' := .agg [.slc 1 1 0 p0.length none]) ts72 rfl rfl rfl rfl rfl rfl rfl)) (SO.nil (finN (Wk.refl _) lresN rfl)))))))
noncomputable def pack_Out_U16_1 (p0 : UInt16) : Option Unit :=
 Option.bind (pack_Out_put [((shr16 p0 8).toUInt8), (p0.toUInt8)]) fun _ =>
 some ()
theorem pack_Out_U16_1_ok (p0 : UInt16) (r : Unit) (h0 : pack_Out_U16_1 p0 = some r) : CallAt Tryd.prog 21 [.ref 0 0 0, .d (eU16 p0)] [.box (.d (.agg [.nils]))] (.tuple []) [.box (.agg [.slc 1 1 0 ([((shr16 p0 8).toUInt8), (p0.toUInt8)].length) none]), .row 1 (List.map eU8 [((shr16 p0 8).toUInt8), (p0.toUInt8)]) true] := by
 unfold pack_Out_U16_1 at h0
 refine fn0 [0, 1] Tryd.func21 rfl rfl rfl rfl rfl ?_
 obtain ⟨_, hq3, h0⟩ := ob h0; have q := si h0; subst q
 refine SC.region (sm rfl (sm rfl (s1 (bi (v := .d (eU16 (shr16 p0 8))) rfl rfl (fun X Y => b_u16_shr _ X Y p0 _ (by decide))) (s1 (cvo rfl (cv_u16_u8 un76 un5 (shr16 p0 8))) (sm rfl (s1 (cvo rfl (cv_u16_u8 un76 un5 p0)) (s1 (bsn (k := 1) (ds := List.map eU8 [((shr16 p0 8).toUInt8), (p0.toUInt8)]) (off := 0) (l' := [((shr16 p0 8).toUInt8), (p0.toUInt8)].length) rfl un72 ei5 rfl rfl (by rfl) rfl rfl rfl) (cq (args' := [.ref 0 0 0, .slc 1 1 0 ([((shr16 p0 8).toUInt8), (p0.toUInt8)].length) none]) (σc := [.box (.d (.agg [.nils])), .row 1 (List.map eU8 [((shr16 p0 8).toUInt8), (p0.toUInt8)]) true]) [0, 1] [2] (CallAt.frz (ArgF.keep (ArgF.frz (fF rfl rfl rfl) (ArgF.nil _))) (fq [0] [2] (pack_Out_put_ok [((shr16 p0 8).toUInt8), (p0.toUInt8)] _ hq3) rfl rfl rfl rfl rfl rfl rfl rfl)) wf rfl rfl rfl cb37 rfl rfl rfl rfl rfl rfl rfl rfl (SO.nil ?_)))))))))
 exact finN (wc (e' := []) [0, 2] [0] (by kernel_rfl) rfl (by kernel_rfl)) lresN rfl
noncomputable def pack_Out_put_1 (p0 : List UInt8) (p1 : List UInt8) : Option Unit :=
 bif decide ((p1.length + p0.length) * 1 ≤ room) then
 some ()
 else none
theorem pack_Out_put_1_ok (p0 : List UInt8) (p1 : List UInt8) (r : Unit) (h0 : pack_Out_put_1 p0 p1 = some r) : CallAt Tryd.prog 37 [.ref 0 0 0, .d ((eL 1 eU8) p0)] [.box (.agg [.slc 1 1 0 p1.length none]), .row 1 (List.map eU8 p1) true] (.tuple []) [.box (.agg [.slc 2 1 0 ((p1 ++ p0).length) none]), .dead, .row 1 (List.map eU8 (p1 ++ p0)) true] := by
 unfold pack_Out_put_1 at h0
 refine fn0 [0, 1] Tryd.func37 rfl rfl rfl rfl rfl ?_
 obtain ⟨hg3, h0⟩ := gd h0; have q := si h0; subst q
 refine sr (sm rfl (s1 (bi (v := .d (eB true)) rfl rfl (fun _ _ => nil_neq un79)) (sn (cT rfl (SC.region (sm rfl (sm rfl (s1 (nkr rfl) (s1 (far (k := 0) rfl fo74_0 ts72 rfl) ?_)))))))))
 exact s1 (lod rfl (ld_box ts72 ta72 rfl rfl)) (sm rfl (s1 (app rfl rfl rfl rfl bc72 (aF (f := eU8) (xs := p1) (k := 2) rfl un72 ei5 rfl el_lst hg3 rfl)) (s1 (nkr rfl) (s1 (far (k := 0) rfl fo74_0 ts72 rfl) (s0 (sto rfl rfl (sB (d' := .agg [.slc 2 1 0 ((p1 ++ p0).length) none]) ts72 rfl rfl rfl rfl rfl rfl rfl)) (SO.nil (finN (Wk.refl _) lresN rfl)))))))
noncomputable def pack_Out_U8 (p0 : UInt8) (p1 : List UInt8) : Option Unit :=
 Option.bind (pack_Out_put_1 [p0] p1) fun _ =>
 some ()
theorem pack_Out_U8_ok (p0 : UInt8) (p1 : List UInt8) (r : Unit) (h0 : pack_Out_U8 p0 p1 = some r) : CallAt Tryd.prog 22 [.ref 0 0 0, .d (eU8 p0)] [.box (.agg [.slc 1 1 0 p1.length none]), .row 1 (List.map eU8 p1) true] (.tuple []) [.box (.agg [.slc 2 1 0 ((p1 ++ [p0]).length) none]), .dead, .row 1 (List.map eU8 (p1 ++ [p0])) true] := by
 unfold pack_Out_U8 at h0
 refine fn0 [0, 1] Tryd.func22 rfl rfl rfl rfl rfl ?_
 obtain ⟨_, hq3, h0⟩ := ob h0; have q := si h0; subst q
 exact SC.region (sm rfl (sm rfl (s1 (bsn (k := 2) (ds := List.map eU8 [p0]) (off := 0) (l' := [p0].length) rfl un72 ei5 rfl rfl (by rfl) rfl rfl rfl) (cq (args' := [.ref 0 0 0, .slc 1 1 0 ([p0].length) none]) (σc := [.box (.agg [.slc 2 1 0 p1.length none]), .row 1 (List.map eU8 [p0]) true, .row 1 (List.map eU8 p1) true]) [0, 2, 1] [3] (CallAt.frz (ArgF.keep (ArgF.frz (fF rfl rfl rfl) (ArgF.nil _))) (fq [0, 2] [3] (pack_Out_put_1_ok [p0] p1 _ hq3) rfl rfl rfl rfl rfl rfl rfl rfl)) wf rfl rfl rfl cb37 rfl rfl rfl rfl rfl rfl rfl rfl (SO.nil (finN (wc (e' := []) [0, 1, 3] [0, 1] (by kernel_rfl) rfl (by kernel_rfl)) lresN rfl))))))
noncomputable def catalog_places (p0 : List Int) (p1 : List UInt8) : Option ((List UInt8)) :=
 Option.bind (pack_Out_U8 (u8i (p0.length : Int)) p1) fun _ =>
 Option.bind (α := (List UInt8))
 (loop (Y := Int × (List UInt8)) (W := (List UInt8)) (fun (y33, y34) =>
 bif (decide (y33 < (p0.length : Int))) then
 Option.bind (getI p0 y33) fun v41 =>
 Option.bind (pack_Out_U8 (u8i v41) y34) fun _ =>
 some (Sum.inl ((w64 (y33 + (1 : Int))), (y34 ++ [(u8i v41)])))
 else
 some (Sum.inr y34)) ((0 : Int), (p1 ++ [(u8i (p0.length : Int))])))
 (fun e => some e)
theorem catalog_places_ok (p0 : List Int) (p1 : List UInt8) (r : (List UInt8)) (h0 : catalog_places p0 p1 = some r) : CallAt Tryd.prog 23 [.ref 0 0 0, .d ((eL 1 eI) p0)] [.box (.agg [.slc 1 1 0 p1.length none]), .row 1 (List.map eU8 p1) true] (.tuple []) [.box (.agg [.slc 2 1 0 r.length none]), .dead, .row 1 (List.map eU8 r) true] := by
 unfold catalog_places at h0
 refine fn0 [0, 1] Tryd.func23 rfl rfl rfl rfl rfl ?_
 obtain ⟨_, hq30, h0⟩ := ob h0; obtain ⟨u1_40, h1, h0⟩ := ob h0
 refine sr (sm rfl (sm rfl (s1 (len rfl rfl rfl (len_lst un50)) (s1 (cvo rfl (cv_i64_u8 un3 un5 (p0.length : Int))) (cq [0, 1] [2] (pack_Out_U8_ok (u8i (p0.length : Int)) p1 _ hq30) wf rfl rfl rfl cb22 rfl rfl rfl rfl rfl rfl rfl rfl (sn (sr (sm rfl (s1 (len rfl rfl rfl (len_lst un50)) ?_)))))))))
 refine sm rfl (sn (SC.blk (SC.loopB h1 (fun y => ⟨mk 22 [(0, .ref 0 0 0), (11, .d ((eL 1 eI) p0)), (12, .d (eI (p0.length : Int))), (13, .d (eI y.1))], [.box (.agg [.slc 2 1 0 y.2.length none]), .dead, .row 1 (List.map eU8 y.2) true]⟩) (wq rfl) ?_)))
 intro n43
 rintro ⟨y33, y34⟩ w1_39 h2 hv2
 refine sr (s1 (bi rfl rfl q_i64_lss) (sn (sq (cB h2 rfl (fun h2 => ?_) (fun h2 => ?_)))))
 ·obtain ⟨v41, hv41, h2⟩ := ob h2; obtain ⟨_, hq42, h2⟩ := ob h2
  refine sk (sq (SC.blk (sr (s1 (ial rfl rfl un50 ts3 (getI_some hv41).1 (map_get (getI_some hv41).2) rfl) (s1 (lod rfl (ld_rop ts3 ta3 rfl)) (sa rfl (sn (SC.region (sm rfl ?_)))))))))
  refine sm rfl (s1 (cvo rfl (cv_i64_u8 un3 un5 v41)) (cq [0, 2] [3] (pack_Out_U8_ok (u8i v41) y34 _ hq42) wf rfl rfl rfl cb22 rfl rfl rfl rfl rfl rfl rfl rfl (SO.nil ?_)))
  change SC _ _ _ _ _
  have q := si h2; subst q
  exact SC.region (s1 (bi rfl rfl q_i64_add) (sm rfl (SO.nil (lf (wc [0, 1, 3] [0, 1, 0] (by kernel_rfl) rfl (by kernel_rfl))))))
 ·have q := si h2; subst q; have q : _ = _ := hv2; subst q; have q := si h0; subst q
  exact SC.exit (finN (Wk.refl _) lresN rfl)
noncomputable def pack_Out_Bytes (p0 : List UInt8) : Option Unit :=
 bif decide (p0.length * 1 ≤ room) then
 some ()
 else none
theorem pack_Out_Bytes_ok (p0 : List UInt8) (r : Unit) (h0 : pack_Out_Bytes p0 = some r) : CallAt Tryd.prog 24 [.ref 0 0 0] [.box (.agg [.slc 1 1 0 p0.length none]), .row 1 (List.map eU8 p0) true] (.slc 2 1 0 p0.length none) [.box (.agg [.slc 1 1 0 p0.length none]), .row 1 (List.map eU8 p0) true, .row 1 (List.map eU8 p0) true] := by
 unfold pack_Out_Bytes at h0
 refine fn0 [0] Tryd.func24 rfl rfl rfl rfl rfl ?_
 obtain ⟨hg3, h0⟩ := gd h0; have q := si h0; subst q
 refine sr (s1 (asg (v := .d .nils) rfl) (sn (sq (sr (sm rfl (s1 (bi (v := .d (eB false)) rfl rfl (fun _ _ => nil_eql un79)) (sn (cF rfl (sk ?_)))))))))
 exact sr (sm rfl (s1 (nkr rfl) (s1 (far (k := 0) rfl fo74_0 ts72 rfl) (s1 (lod rfl (ld_box ts72 ta72 rfl rfl)) (s1 (app rfl rfl rfl rfl bc72 (aN (f := eU8) (k := 2) un72 ei5 (el_full (xs := p0) rfl) hg3 rfl)) (sa rfl (sn (SC.ret (finR (Wk.refl _) (lresT rfl lresN) rfl)))))))))
noncomputable def catalog_sub (p0 : List UInt8) (p1 : UInt8) (p2 : Int) : Option Unit :=
 bif decide (([116] : List UInt8).length + p0.length ≤ 9223372036854775807) then
 bif decide ((([116] : List UInt8) ++ p0).length + [(0 : UInt8), p1, (u8i p2)].length ≤ 9223372036854775807) then
 some ()
 else none
 else none
theorem catalog_sub_ok (p0 : List UInt8) (p1 : UInt8) (p2 : Int) (r : Unit) (h0 : catalog_sub p0 p1 p2 = some r) : CallAt Tryd.prog 25 [.d (eS p0), .d (eU8 p1), .d (eI p2)] [] (.d (eS ((([116] : List UInt8) ++ p0) ++ [(0 : UInt8), p1, (u8i p2)]))) [] := by
 unfold catalog_sub at h0
 refine fn0 [0, 1, 2] Tryd.func25 rfl rfl rfl rfl rfl ?_
 obtain ⟨hg5, h0⟩ := gd h0; obtain ⟨hg6, h0⟩ := gd h0; have q := si h0; subst q
 refine sr (s1 (asg (v := .d (eS ([] : List UInt8))) rfl) (sn (sr (sm rfl (s1 (bi (v := .d (eS (([116] : List UInt8) ++ p0))) rfl rfl (fun X Y => b_str_add _ X Y ([116] : List UInt8) p0 hg5)) (sm rfl (sm rfl (s1 (cvo rfl (cv_i64_u8 un3 un5 p2)) (s1 (bsn (k := 0) (ds := List.map eU8 [(0 : UInt8), p1, (u8i p2)]) (off := 0) (l' := [(0 : UInt8), p1, (u8i p2)].length) rfl un72 ei5 rfl rfl (by rfl) rfl rfl rfl) ?_)))))))))
 exact s1 (cvo (v := .d (eS [(0 : UInt8), p1, (u8i p2)])) rfl (cv_bytes_str un72 un9 un5 (el_full (xs := [(0 : UInt8), p1, (u8i p2)]) rfl) (fun _ hh => by cases hh))) (s1 (bi (v := .d (eS ((([116] : List UInt8) ++ p0) ++ [(0 : UInt8), p1, (u8i p2)]))) rfl rfl (fun X Y => b_str_add _ X Y (([116] : List UInt8) ++ p0) [(0 : UInt8), p1, (u8i p2)] hg6)) (sa rfl (sn (SC.ret (finR (wc (e' := [(6, .d (eS ((([116] : List UInt8) ++ p0) ++ [(0 : UInt8), p1, (u8i p2)])))]) [] [] (by kernel_rfl) rfl (by kernel_rfl)) (lresT rfl lresN) rfl)))))
noncomputable def pack_Out_Text_1 (p0 : List UInt8) : Option (Bool × (List UInt8)) :=
 Option.bind (α := Unit)
 (some ())
 fun _ =>
 bif (decide ((p0.length : Int) > (65535 : Int))) then
 some (false, ([] : List UInt8))
 else
 Option.bind (pack_Out_U16_1 (u16i (p0.length : Int))) fun _ =>
 bif decide (([((shr16 (u16i (p0.length : Int)) 8).toUInt8), ((u16i (p0.length : Int)).toUInt8)].length + p0.length) * 1 ≤ room) then
 some (true, ([((shr16 (u16i (p0.length : Int)) 8).toUInt8), ((u16i (p0.length : Int)).toUInt8)] ++ p0))
 else none
theorem pack_Out_Text_1_ok (p0 : List UInt8) (r : Bool × (List UInt8)) (h0 : pack_Out_Text_1 p0 = some r) : CallAt Tryd.prog 38 [.ref 0 0 0, .d (eS p0)] [.box (.d (.agg [.nils]))] (.d (eB r.1)) [.box (.agg [.slc 1 1 0 r.2.length none]), .row 1 (List.map eU8 r.2) true] := by
 unfold pack_Out_Text_1 at h0
 refine fn0 [0, 1] Tryd.func38 rfl rfl rfl rfl rfl ?_
 refine sr (sa rfl (sn (sq (SC.seqP h0 (fun y => ⟨mk 26 [(0, .ref 0 0 0), (1, .d (eS p0)), (11, .d (eB (decide ((p0.length : Int) > (65535 : Int)))))], [.box (.d (.agg [.nils]))]⟩) ?_ ?_))))
 ·intro u1_9 h1
  have q := si h1; subst q
  exact SC.region (sm rfl (s1 (bi (v := .d (eB false)) rfl rfl (fun _ _ => nil_eql un79)) (sm rfl (gw rfl (mv rfl) (gw rfl (len rfl rfl rfl (len_str un9)) (gw rfl (bi rfl rfl q_i64_gtr) (s1 (pkf rfl rfl) (SO.nil ((wq rfl))))))))))
 ·intro _ h0
  refine cB h0 rfl (fun h0 => ?_) (fun h0 => ?_)
  ·have q := si h0; subst q
   exact sr (sa rfl (sn (SC.ret (finR (Wk.trans (Wk.pushE (σ' := [.box (.d (.agg [.nils])), .row 1 (List.map eU8 ([] : List UInt8)) true]) (.row 1 [] true) (fun _ hh => by cases hh) rfl) (Wk.trans (Wk.boxE (id := 0) (y := .agg [.slc 1 1 0 (([] : List UInt8).length) none]) (σ' := [.box (.agg [.slc 1 1 0 (([] : List UInt8).length) none]), .row 1 (List.map eU8 ([] : List UInt8)) true]) rfl (AWs.cons (AW.slcn _ _ _) AWs.nil) rfl) (wq (e' := [(4, .d (eB false))]) rfl))) (lresT rfl lresN) rfl))))
  ·obtain ⟨_, hq10, h0⟩ := ob h0; obtain ⟨hg11, h0⟩ := gd h0; have q := si h0; subst q
   refine sk (sr (sm rfl (sm rfl (s1 (len rfl rfl rfl (len_str un9)) (s1 (cvo rfl (cv_i64_u16 un3 un76 (p0.length : Int))) (cq [0] [1] (pack_Out_U16_1_ok (u16i (p0.length : Int)) _ hq10) wf rfl rfl rfl cb21 rfl rfl rfl rfl rfl rfl rfl rfl (sn (sr (sm rfl ?_)))))))))
   refine sm rfl (s1 (nkr rfl) (s1 (far (k := 0) rfl fo74_0 ts72 rfl) (s1 (lod rfl (ld_box ts72 ta72 rfl rfl)) (sm rfl (s1 (app rfl rfl rfl rfl bc9 (aF (f := eU8) (xs := [((shr16 (u16i (p0.length : Int)) 8).toUInt8), ((u16i (p0.length : Int)).toUInt8)]) (k := 2) rfl un72 ei5 rfl el_str hg11 rfl)) (s1 (nkr rfl) (s1 (far (k := 0) rfl fo74_0 ts72 rfl) (s0 (sto rfl rfl (sB (d' := .agg [.slc 2 1 0 (([((shr16 (u16i (p0.length : Int)) 8).toUInt8), ((u16i (p0.length : Int)).toUInt8)] ++ p0).length) none]) ts72 rfl rfl rfl rfl rfl rfl rfl)) (sn ?_)))))))))
   exact sr (sa rfl (sn (SC.ret (finR (wc (e' := [(4, .d (eB true))]) [0, 2] [0] (by kernel_rfl) rfl (by kernel_rfl)) (lresT rfl lresN) rfl))))
noncomputable def pack_Out_Flag_1 (p0 : Bool) (p1 : List UInt8) : Option ((List UInt8)) :=
 bif p0 then
 Option.bind (pack_Out_put_1 [(1 : UInt8)] p1) fun _ =>
 some (p1 ++ [(1 : UInt8)])
 else
 Option.bind (pack_Out_put_1 [(0 : UInt8)] p1) fun _ =>
 some (p1 ++ [(0 : UInt8)])
theorem pack_Out_Flag_1_ok (p0 : Bool) (p1 : List UInt8) (r : (List UInt8)) (h0 : pack_Out_Flag_1 p0 p1 = some r) : CallAt Tryd.prog 39 [.ref 0 0 0, .d (eB p0)] [.box (.agg [.slc 1 1 0 p1.length none]), .row 1 (List.map eU8 p1) true] (.tuple []) [.box (.agg [.slc 2 1 0 r.length none]), .dead, .row 1 (List.map eU8 r) true] := by
 unfold pack_Out_Flag_1 at h0
 refine fn0 [0, 1] Tryd.func39 rfl rfl rfl rfl rfl ?_
 refine sr (sm rfl (sn (cB h0 rfl (fun h0 => ?_) (fun h0 => ?_))))
 ·obtain ⟨_, hq6, h0⟩ := ob h0; have q := si h0; subst q
  exact SC.region (sm rfl (s1 (bsn (k := 2) (ds := List.map eU8 [(1 : UInt8)]) (off := 0) (l' := [(1 : UInt8)].length) rfl un72 ei5 rfl rfl (by rfl) rfl rfl rfl) (cq (args' := [.ref 0 0 0, .slc 1 1 0 ([(1 : UInt8)].length) none]) (σc := [.box (.agg [.slc 2 1 0 p1.length none]), .row 1 (List.map eU8 [(1 : UInt8)]) true, .row 1 (List.map eU8 p1) true]) [0, 2, 1] [3] (CallAt.frz (ArgF.keep (ArgF.frz (fF rfl rfl rfl) (ArgF.nil _))) (fq [0, 2] [3] (pack_Out_put_1_ok [(1 : UInt8)] p1 _ hq6) rfl rfl rfl rfl rfl rfl rfl rfl)) wf rfl rfl rfl cb37 rfl rfl rfl rfl rfl rfl rfl rfl (SO.nil (finN (wc (e' := []) [0, 1, 3] [0, 1] (by kernel_rfl) rfl (by kernel_rfl)) lresN rfl)))))
 ·obtain ⟨_, hq7, h0⟩ := ob h0; have q := si h0; subst q
  exact SC.region (sm rfl (s1 (bsn (k := 2) (ds := List.map eU8 [(0 : UInt8)]) (off := 0) (l' := [(0 : UInt8)].length) rfl un72 ei5 rfl rfl (by rfl) rfl rfl rfl) (cq (args' := [.ref 0 0 0, .slc 1 1 0 ([(0 : UInt8)].length) none]) (σc := [.box (.agg [.slc 2 1 0 p1.length none]), .row 1 (List.map eU8 [(0 : UInt8)]) true, .row 1 (List.map eU8 p1) true]) [0, 2, 1] [3] (CallAt.frz (ArgF.keep (ArgF.frz (fF rfl rfl rfl) (ArgF.nil _))) (fq [0, 2] [3] (pack_Out_put_1_ok [(0 : UInt8)] p1 _ hq7) rfl rfl rfl rfl rfl rfl rfl rfl)) wf rfl rfl rfl cb37 rfl rfl rfl rfl rfl rfl rfl rfl (SO.nil (finN (wc (e' := []) [0, 1, 3] [0, 1] (by kernel_rfl) rfl (by kernel_rfl)) lresN rfl)))))
noncomputable def pack_Out_U16 (p0 : UInt16) (p1 : List UInt8) : Option Unit :=
 Option.bind (pack_Out_put_1 [((shr16 p0 8).toUInt8), (p0.toUInt8)] p1) fun _ =>
 some ()
theorem pack_Out_U16_ok (p0 : UInt16) (p1 : List UInt8) (r : Unit) (h0 : pack_Out_U16 p0 p1 = some r) : CallAt Tryd.prog 21 [.ref 0 0 0, .d (eU16 p0)] [.box (.agg [.slc 1 1 0 p1.length none]), .row 1 (List.map eU8 p1) true] (.tuple []) [.box (.agg [.slc 2 1 0 ((p1 ++ [((shr16 p0 8).toUInt8), (p0.toUInt8)]).length) none]), .dead, .row 1 (List.map eU8 (p1 ++ [((shr16 p0 8).toUInt8), (p0.toUInt8)])) true] := by
 unfold pack_Out_U16 at h0
 refine fn0 [0, 1] Tryd.func21 rfl rfl rfl rfl rfl ?_
 obtain ⟨_, hq3, h0⟩ := ob h0; have q := si h0; subst q
 refine SC.region (sm rfl (sm rfl (s1 (bi (v := .d (eU16 (shr16 p0 8))) rfl rfl (fun X Y => b_u16_shr _ X Y p0 _ (by decide))) (s1 (cvo rfl (cv_u16_u8 un76 un5 (shr16 p0 8))) (sm rfl (s1 (cvo rfl (cv_u16_u8 un76 un5 p0)) (s1 (bsn (k := 2) (ds := List.map eU8 [((shr16 p0 8).toUInt8), (p0.toUInt8)]) (off := 0) (l' := [((shr16 p0 8).toUInt8), (p0.toUInt8)].length) rfl un72 ei5 rfl rfl (by rfl) rfl rfl rfl) (cq (args' := [.ref 0 0 0, .slc 1 1 0 ([((shr16 p0 8).toUInt8), (p0.toUInt8)].length) none]) (σc := [.box (.agg [.slc 2 1 0 p1.length none]), .row 1 (List.map eU8 [((shr16 p0 8).toUInt8), (p0.toUInt8)]) true, .row 1 (List.map eU8 p1) true]) [0, 2, 1] [3] (CallAt.frz (ArgF.keep (ArgF.frz (fF rfl rfl rfl) (ArgF.nil _))) (fq [0, 2] [3] (pack_Out_put_1_ok [((shr16 p0 8).toUInt8), (p0.toUInt8)] p1 _ hq3) rfl rfl rfl rfl rfl rfl rfl rfl)) wf rfl rfl rfl cb37 rfl rfl rfl rfl rfl rfl rfl rfl (SO.nil ?_)))))))))
 exact finN (wc (e' := []) [0, 1, 3] [0, 1] (by kernel_rfl) rfl (by kernel_rfl)) lresN rfl
noncomputable def pack_Out_U32 (p0 : UInt32) (p1 : List UInt8) : Option Unit :=
 Option.bind (pack_Out_U16 ((shr32 p0 16).toUInt16) p1) fun _ =>
 Option.bind (pack_Out_U16 (p0.toUInt16) (p1 ++ [((shr16 ((shr32 p0 16).toUInt16) 8).toUInt8), (((shr32 p0 16).toUInt16).toUInt8)])) fun _ =>
 some ()
theorem pack_Out_U32_ok (p0 : UInt32) (p1 : List UInt8) (r : Unit) (h0 : pack_Out_U32 p0 p1 = some r) : CallAt Tryd.prog 70 [.ref 0 0 0, .d (eU32 p0)] [.box (.agg [.slc 1 1 0 p1.length none]), .row 1 (List.map eU8 p1) true] (.tuple []) [.box (.agg [.slc 2 1 0 (((p1 ++ [((shr16 ((shr32 p0 16).toUInt16) 8).toUInt8), (((shr32 p0 16).toUInt16).toUInt8)]) ++ [((shr16 (p0.toUInt16) 8).toUInt8), ((p0.toUInt16).toUInt8)]).length) none]), .dead, .row 1 (List.map eU8 ((p1 ++ [((shr16 ((shr32 p0 16).toUInt16) 8).toUInt8), (((shr32 p0 16).toUInt16).toUInt8)]) ++ [((shr16 (p0.toUInt16) 8).toUInt8), ((p0.toUInt16).toUInt8)])) true] := by
 unfold pack_Out_U32 at h0
 refine fn0 [0, 1] Tryd.func70 rfl rfl rfl rfl rfl ?_
 obtain ⟨_, hq5, h0⟩ := ob h0; obtain ⟨_, hq6, h0⟩ := ob h0; have q := si h0; subst q
 refine sr (sm rfl (sm rfl (s1 (bi (v := .d (eU32 (shr32 p0 16))) rfl rfl (fun X Y => b_u32_shr _ X Y p0 _ (by decide))) (s1 (cvo rfl (cv_u32_u16 un128 un76 (shr32 p0 16))) (cq [0, 1] [2] (pack_Out_U16_ok ((shr32 p0 16).toUInt16) p1 _ hq5) wf rfl rfl rfl cb21 rfl rfl rfl rfl rfl rfl rfl rfl (sn (SC.region (sm rfl (sm rfl ?_)))))))))
 exact s1 (cvo rfl (cv_u32_u16 un128 un76 p0)) (cq [0, 2] [3] (pack_Out_U16_ok (p0.toUInt16) (p1 ++ [((shr16 ((shr32 p0 16).toUInt16) 8).toUInt8), (((shr32 p0 16).toUInt16).toUInt8)]) _ hq6) wf rfl rfl rfl cb21 rfl rfl rfl rfl rfl rfl rfl rfl (SO.nil (finN (wc (e' := []) [0, 1, 3] [0, 1] (by kernel_rfl) rfl (by kernel_rfl)) lresN rfl)))
noncomputable def pack_Out_U64 (p0 : UInt64) (p1 : List UInt8) : Option Unit :=
 Option.bind (pack_Out_U32 ((shr64 p0 32).toUInt32) p1) fun _ =>
 Option.bind (pack_Out_U32 (p0.toUInt32) ((p1 ++ [((shr16 ((shr32 ((shr64 p0 32).toUInt32) 16).toUInt16) 8).toUInt8), (((shr32 ((shr64 p0 32).toUInt32) 16).toUInt16).toUInt8)]) ++ [((shr16 (((shr64 p0 32).toUInt32).toUInt16) 8).toUInt8), ((((shr64 p0 32).toUInt32).toUInt16).toUInt8)])) fun _ =>
 some ()
theorem pack_Out_U64_ok (p0 : UInt64) (p1 : List UInt8) (r : Unit) (h0 : pack_Out_U64 p0 p1 = some r) : CallAt Tryd.prog 40 [.ref 0 0 0, .d (eU64 p0)] [.box (.agg [.slc 1 1 0 p1.length none]), .row 1 (List.map eU8 p1) true] (.tuple []) [.box (.agg [.slc 2 1 0 (((((p1 ++ [((shr16 ((shr32 ((shr64 p0 32).toUInt32) 16).toUInt16) 8).toUInt8), (((shr32 ((shr64 p0 32).toUInt32) 16).toUInt16).toUInt8)]) ++ [((shr16 (((shr64 p0 32).toUInt32).toUInt16) 8).toUInt8), ((((shr64 p0 32).toUInt32).toUInt16).toUInt8)]) ++ [((shr16 ((shr32 (p0.toUInt32) 16).toUInt16) 8).toUInt8), (((shr32 (p0.toUInt32) 16).toUInt16).toUInt8)]) ++ [((shr16 ((p0.toUInt32).toUInt16) 8).toUInt8), (((p0.toUInt32).toUInt16).toUInt8)]).length) none]), .dead, .row 1 (List.map eU8 ((((p1 ++ [((shr16 ((shr32 ((shr64 p0 32).toUInt32) 16).toUInt16) 8).toUInt8), (((shr32 ((shr64 p0 32).toUInt32) 16).toUInt16).toUInt8)]) ++ [((shr16 (((shr64 p0 32).toUInt32).toUInt16) 8).toUInt8), ((((shr64 p0 32).toUInt32).toUInt16).toUInt8)]) ++ [((shr16 ((shr32 (p0.toUInt32) 16).toUInt16) 8).toUInt8), (((shr32 (p0.toUInt32) 16).toUInt16).toUInt8)]) ++ [((shr16 ((p0.toUInt32).toUInt16) 8).toUInt8), (((p0.toUInt32).toUInt16).toUInt8)])) true] := by
 unfold pack_Out_U64 at h0
 refine fn0 [0, 1] Tryd.func40 rfl rfl rfl rfl rfl ?_
 obtain ⟨_, hq5, h0⟩ := ob h0; obtain ⟨_, hq6, h0⟩ := ob h0; have q := si h0; subst q
 refine sr (sm rfl (sm rfl (s1 (bi (v := .d (eU64 (shr64 p0 32))) rfl rfl (fun X Y => b_u64_shr _ X Y p0 _ (by decide))) (s1 (cvo rfl (cv_u64_u32 un35 un128 (shr64 p0 32))) (cq [0, 1] [2] (pack_Out_U32_ok ((shr64 p0 32).toUInt32) p1 _ hq5) wf rfl rfl rfl cb70 rfl rfl rfl rfl rfl rfl rfl rfl (sn (SC.region (sm rfl (sm rfl ?_)))))))))
 exact s1 (cvo rfl (cv_u64_u32 un35 un128 p0)) (cq [0, 2] [3] (pack_Out_U32_ok (p0.toUInt32) ((p1 ++ [((shr16 ((shr32 ((shr64 p0 32).toUInt32) 16).toUInt16) 8).toUInt8), (((shr32 ((shr64 p0 32).toUInt32) 16).toUInt16).toUInt8)]) ++ [((shr16 (((shr64 p0 32).toUInt32).toUInt16) 8).toUInt8), ((((shr64 p0 32).toUInt32).toUInt16).toUInt8)]) _ hq6) wf rfl rfl rfl cb70 rfl rfl rfl rfl rfl rfl rfl rfl (SO.nil (finN (wc (e' := []) [0, 1, 3] [0, 1] (by kernel_rfl) rfl (by kernel_rfl)) lresN rfl)))
noncomputable def pack_Out_Text (p0 : List UInt8) (p1 : List UInt8) : Option (Bool × (List UInt8)) :=
 Option.bind (α := Unit)
 (some ())
 fun _ =>
 bif (decide ((p0.length : Int) > (65535 : Int))) then
 some (false, p1)
 else
 Option.bind (pack_Out_U16 (u16i (p0.length : Int)) p1) fun _ =>
 bif decide (((p1 ++ [((shr16 (u16i (p0.length : Int)) 8).toUInt8), ((u16i (p0.length : Int)).toUInt8)]).length + p0.length) * 1 ≤ room) then
 some (true, ((p1 ++ [((shr16 (u16i (p0.length : Int)) 8).toUInt8), ((u16i (p0.length : Int)).toUInt8)]) ++ p0))
 else none
theorem pack_Out_Text_ok (p0 : List UInt8) (p1 : List UInt8) (r : Bool × (List UInt8)) (h0 : pack_Out_Text p0 p1 = some r) : CallAt Tryd.prog 38 [.ref 0 0 0, .d (eS p0)] [.box (.agg [.slc 1 1 0 p1.length none]), .row 1 (List.map eU8 p1) true] (.d (eB r.1)) [.box (.agg [.slc 2 1 0 r.2.length none]), .dead, .row 1 (List.map eU8 r.2) true] := by
 unfold pack_Out_Text at h0
 refine fn0 [0, 1] Tryd.func38 rfl rfl rfl rfl rfl ?_
 refine sr (sa rfl (sn (sq (SC.seqP h0 (fun y => ⟨mk 26 [(0, .ref 0 0 0), (1, .d (eS p0)), (11, .d (eB (decide ((p0.length : Int) > (65535 : Int)))))], [.box (.agg [.slc 1 1 0 p1.length none]), .row 1 (List.map eU8 p1) true]⟩) ?_ ?_))))
 ·intro u1_9 h1
  have q := si h1; subst q
  exact SC.region (sm rfl (s1 (bi (v := .d (eB false)) rfl rfl (fun _ _ => nil_eql un79)) (sm rfl (gw rfl (mv rfl) (gw rfl (len rfl rfl rfl (len_str un9)) (gw rfl (bi rfl rfl q_i64_gtr) (s1 (pkf rfl rfl) (SO.nil ((wq rfl))))))))))
 ·intro _ h0
  refine cB h0 rfl (fun h0 => ?_) (fun h0 => ?_)
  ·have q := si h0; subst q
   exact sr (sa rfl (sn (SC.ret (finR (Wk.trans (wq (e' := [(4, .d (eB false))]) rfl) (Wk.trans (Wk.move (e' := [(4, .d (eB false))]) (os := [.box (.agg [.slc 2 1 0 p1.length none]), .row 1 (List.map eU8 p1) true]) (o := .row 1 (List.map eU8 p1) true) (σ' := [.box (.agg [.slc 2 1 0 p1.length none]), .dead, .row 1 (List.map eU8 p1) true]) 1 (Nat.le_of_ble_eq_true rfl) rfl rfl rfl rfl) (wq (e' := [(4, .d (eB false))]) rfl))) (lresT rfl lresN) rfl))))
  ·obtain ⟨_, hq10, h0⟩ := ob h0; obtain ⟨hg11, h0⟩ := gd h0; have q := si h0; subst q
   refine sk (sr (sm rfl (sm rfl (s1 (len rfl rfl rfl (len_str un9)) (s1 (cvo rfl (cv_i64_u16 un3 un76 (p0.length : Int))) (cq [0, 1] [2] (pack_Out_U16_ok (u16i (p0.length : Int)) p1 _ hq10) wf rfl rfl rfl cb21 rfl rfl rfl rfl rfl rfl rfl rfl (sn (sr (sm rfl ?_)))))))))
   refine sm rfl (s1 (nkr rfl) (s1 (far (k := 0) rfl fo74_0 ts72 rfl) (s1 (lod rfl (ld_box ts72 ta72 rfl rfl)) (sm rfl (s1 (app rfl rfl rfl rfl bc9 (aF (f := eU8) (xs := (p1 ++ [((shr16 (u16i (p0.length : Int)) 8).toUInt8), ((u16i (p0.length : Int)).toUInt8)])) (k := 3) rfl un72 ei5 rfl el_str hg11 rfl)) (s1 (nkr rfl) (s1 (far (k := 0) rfl fo74_0 ts72 rfl) (s0 (sto rfl rfl (sB (d' := .agg [.slc 3 1 0 (((p1 ++ [((shr16 (u16i (p0.length : Int)) 8).toUInt8), ((u16i (p0.length : Int)).toUInt8)]) ++ p0).length) none]) ts72 rfl rfl rfl rfl rfl rfl rfl)) (sn ?_)))))))))
   exact sr (sa rfl (sn (SC.ret (finR (Wk.trans (wq (e' := [(4, .d (eB true))]) rfl) (wc (e' := [(4, .d (eB true))]) [0, 1, 3] [0, 1] (by kernel_rfl) rfl (by kernel_rfl))) (lresT rfl lresN) rfl))))
noncomputable def catalog_putColumn (p0 : ApiColumn) : Option ((List UInt8)) :=
 Option.bind (pack_Out_Text_1 p0.Name) fun (r29, r30) =>
 Option.bind (pack_Out_U8 (u8i p0.Kind) r30) fun _ =>
 Option.bind (pack_Out_U8 (u8i p0.Max) (r30 ++ [(u8i p0.Kind)])) fun _ =>
 Option.bind (pack_Out_Flag_1 p0.Nulls ((r30 ++ [(u8i p0.Kind)]) ++ [(u8i p0.Max)])) fun r34 =>
 Option.bind (pack_Out_U8 (u8i p0.Default.Kind) r34) fun _ =>
 Option.bind (pack_Out_U64 p0.Default.N (r34 ++ [(u8i p0.Default.Kind)])) fun _ =>
 Option.bind (pack_Out_Text p0.Default.S (((((r34 ++ [(u8i p0.Default.Kind)]) ++ [((shr16 ((shr32 ((shr64 p0.Default.N 32).toUInt32) 16).toUInt16) 8).toUInt8), (((shr32 ((shr64 p0.Default.N 32).toUInt32) 16).toUInt16).toUInt8)]) ++ [((shr16 (((shr64 p0.Default.N 32).toUInt32).toUInt16) 8).toUInt8), ((((shr64 p0.Default.N 32).toUInt32).toUInt16).toUInt8)]) ++ [((shr16 ((shr32 (p0.Default.N.toUInt32) 16).toUInt16) 8).toUInt8), (((shr32 (p0.Default.N.toUInt32) 16).toUInt16).toUInt8)]) ++ [((shr16 ((p0.Default.N.toUInt32).toUInt16) 8).toUInt8), (((p0.Default.N.toUInt32).toUInt16).toUInt8)])) fun (r38, r39) =>
 Option.bind (pack_Out_Bytes r39) fun _ =>
 some r39
theorem catalog_putColumn_ok (p0 : ApiColumn) (r : (List UInt8)) (h0 : catalog_putColumn p0 = some r) : CallAt Tryd.prog 26 [.d (eApiColumn p0)] [] (.d (eS r)) [] := by
 unfold catalog_putColumn at h0
 refine fn0 [0] Tryd.func26 rfl rfl rfl rfl rfl ?_
 obtain ⟨⟨r29, r30⟩, hq28, h0⟩ := ob h0; obtain ⟨_, hq31, h0⟩ := ob h0; obtain ⟨_, hq32, h0⟩ := ob h0; obtain ⟨r34, hq33, h0⟩ := ob h0; obtain ⟨_, hq35, h0⟩ := ob h0; obtain ⟨_, hq36, h0⟩ := ob h0; obtain ⟨⟨r38, r39⟩, hq37, h0⟩ := ob h0; obtain ⟨_, hq40, h0⟩ := ob h0; have q := si h0; subst q
 refine sr (s1 (bxo (k := 0) rfl rfl rfl) (s1 (asg (v := .d (eS ([] : List UInt8))) rfl) (sn (sr (s1 (alo (k := 1) zo74 rfl) (sn (sr (s1 (far (k := 0) rfl fo62_0 ts9 rfl) (s1 (lod rfl (ld_box ts9 ta9 rfl rfl)) ?_)))))))))
 refine cq [1] [2] (pack_Out_Text_1_ok p0.Name _ hq28) wf rfl rfl rfl cb38 rfl rfl rfl rfl rfl rfl rfl rfl (sn (sr (s1 (far (k := 1) rfl fo62_1 ts3 rfl) (s1 (lod rfl (ld_box ts3 ta3 rfl rfl)) (s1 (cvo rfl (cv_i64_u8 un3 un5 p0.Kind)) (cq [1, 2] [3] (pack_Out_U8_ok (u8i p0.Kind) r30 _ hq31) wf rfl rfl rfl cb22 rfl rfl rfl rfl rfl rfl rfl rfl (sn (sr (s1 (far (k := 2) rfl fo62_2 ts3 rfl) ?_)))))))))
 refine s1 (lod rfl (ld_box ts3 ta3 rfl rfl)) (s1 (cvo rfl (cv_i64_u8 un3 un5 p0.Max)) (cq [1, 3] [4] (pack_Out_U8_ok (u8i p0.Max) (r30 ++ [(u8i p0.Kind)]) _ hq32) wf rfl rfl rfl cb22 rfl rfl rfl rfl rfl rfl rfl rfl (sn (sr (s1 (far (k := 3) rfl fo62_3 ts4 rfl) (s1 (lod rfl (ld_box ts4 ta4 rfl rfl)) (cq [1, 4] [5] (pack_Out_Flag_1_ok p0.Nulls ((r30 ++ [(u8i p0.Kind)]) ++ [(u8i p0.Max)]) _ hq33) wf rfl rfl rfl cb39 rfl rfl rfl rfl rfl rfl rfl rfl (sn (sr ?_)))))))))
 refine s1 (far (k := 4) rfl fo62_4 ts60 rfl) (s1 (far (k := 4) rfl fo60_0 ts3 rfl) (s1 (lod rfl (ld_box ts3 ta3 rfl rfl)) (s1 (cvo rfl (cv_i64_u8 un3 un5 p0.Default.Kind)) (cq [1, 5] [6] (pack_Out_U8_ok (u8i p0.Default.Kind) r34 _ hq35) wf rfl rfl rfl cb22 rfl rfl rfl rfl rfl rfl rfl rfl (sn (sr (s1 (far (k := 4) rfl fo62_4 ts60 rfl) (s1 (far (k := 5) rfl fo60_1 ts35 rfl) (s1 (lod rfl (ld_box ts35 ta35 rfl rfl)) ?_)))))))))
 refine cq [1, 6] [7] (pack_Out_U64_ok p0.Default.N (r34 ++ [(u8i p0.Default.Kind)]) _ hq36) wf rfl rfl rfl cb40 rfl rfl rfl rfl rfl rfl rfl rfl (sn (sr (s1 (far (k := 4) rfl fo62_4 ts60 rfl) (s1 (far (k := 6) rfl fo60_2 ts9 rfl) (s1 (lod rfl (ld_box ts9 ta9 rfl rfl)) (cq [1, 7] [8] (pack_Out_Text_ok p0.Default.S (((((r34 ++ [(u8i p0.Default.Kind)]) ++ [((shr16 ((shr32 ((shr64 p0.Default.N 32).toUInt32) 16).toUInt16) 8).toUInt8), (((shr32 ((shr64 p0.Default.N 32).toUInt32) 16).toUInt16).toUInt8)]) ++ [((shr16 (((shr64 p0.Default.N 32).toUInt32).toUInt16) 8).toUInt8), ((((shr64 p0.Default.N 32).toUInt32).toUInt16).toUInt8)]) ++ [((shr16 ((shr32 (p0.Default.N.toUInt32) 16).toUInt16) 8).toUInt8), (((shr32 (p0.Default.N.toUInt32) 16).toUInt16).toUInt8)]) ++ [((shr16 ((p0.Default.N.toUInt32).toUInt16) 8).toUInt8), (((p0.Default.N.toUInt32).toUInt16).toUInt8)]) _ hq37) wf rfl rfl rfl cb38 rfl rfl rfl rfl rfl rfl rfl rfl (sn (sr (cq [1, 8] [9] (pack_Out_Bytes_ok r39 _ hq40) wf rfl rfl rfl cb24 rfl rfl rfl rfl rfl rfl rfl rfl ?_)))))))))
 exact s1 (cvo (v := .d (eS r39)) rfl (cv_bytes_str un72 un9 un5 (el_full (xs := r39) rfl) (fun _ hh => by cases hh))) (sa rfl (sn (SC.ret (finR (wc (e' := [(2, .d (eS r39))]) [] [] (by kernel_rfl) rfl (by kernel_rfl)) (lresT rfl lresN) rfl))))
noncomputable def catalog_putIndex (p0 : ApiIndex) : Option ((List UInt8)) :=
 Option.bind (pack_Out_Text_1 p0.Name) fun (r107, r108) =>
 Option.bind (pack_Out_U8 (u8i (p0.Parts.length : Int)) r108) fun _ =>
 Option.bind (α := (List UInt8))
 (Option.bind (α := (List UInt8))
 (loop (Y := Int × (List UInt8)) (W := (List UInt8)) (fun (y135, y136) =>
 bif (decide (y135 < (p0.Parts.length : Int))) then
 Option.bind (getI p0.Parts y135) fun v145 =>
 Option.bind (pack_Out_U8 (u8i v145.Col) y136) fun _ =>
 Option.bind (pack_Out_Flag_1 v145.Down (y136 ++ [(u8i v145.Col)])) fun r148 =>
 some (Sum.inl ((w64 (y135 + (1 : Int))), r148))
 else
 some (Sum.inr y136)) ((0 : Int), (r108 ++ [(u8i (p0.Parts.length : Int))])))
 (fun e => some e))
 fun y129 =>
 Option.bind (catalog_places p0.Extra y129) fun r151 =>
 Option.bind (pack_Out_Flag_1 p0.Unique r151) fun r153 =>
 Option.bind (pack_Out_Flag_1 p0.Ready r153) fun r155 =>
 Option.bind (pack_Out_U16 (u16i p0.Tree) r155) fun _ =>
 Option.bind (pack_Out_Bytes (r155 ++ [((shr16 (u16i p0.Tree) 8).toUInt8), ((u16i p0.Tree).toUInt8)])) fun _ =>
 some (r155 ++ [((shr16 (u16i p0.Tree) 8).toUInt8), ((u16i p0.Tree).toUInt8)])
theorem catalog_putIndex_ok (p0 : ApiIndex) (r : (List UInt8)) (h0 : catalog_putIndex p0 = some r) : CallAt Tryd.prog 27 [.d (eApiIndex p0)] [] (.d (eS r)) [] := by
 unfold catalog_putIndex at h0
 refine fn0 [0] Tryd.func27 rfl rfl rfl rfl rfl ?_
 obtain ⟨⟨r107, r108⟩, hq106, h0⟩ := ob h0; obtain ⟨_, hq109, h0⟩ := ob h0
 refine sr (s1 (bxo (k := 0) rfl rfl rfl) (s1 (asg (v := .d (eS ([] : List UInt8))) rfl) (sn (sr (s1 (alo (k := 1) zo74 rfl) (sn (sr (s1 (far (k := 0) rfl fo85_0 ts9 rfl) (s1 (lod rfl (ld_box ts9 ta9 rfl rfl)) ?_)))))))))
 refine cq [1] [2] (pack_Out_Text_1_ok p0.Name _ hq106) wf rfl rfl rfl cb38 rfl rfl rfl rfl rfl rfl rfl rfl (sn (sr (s1 (far (k := 1) rfl fo85_1 ts83 rfl) (s1 (lod rfl (ld_box ts83 ta83 rfl rfl)) (s1 (len rfl rfl rfl (len_lst un83)) (s1 (cvo rfl (cv_i64_u8 un3 un5 (p0.Parts.length : Int))) (cq [1, 2] [3] (pack_Out_U8_ok (u8i (p0.Parts.length : Int)) r108 _ hq109) wf rfl rfl rfl cb22 rfl rfl rfl rfl rfl rfl rfl rfl (sn (SC.seqP h0 (fun y => ⟨mk 44 [(1, .ref 0 0 0), (3, .ref 1 0 0)], [.box (.d (eApiIndex p0)), .box (.agg [.slc 2 1 0 y.length none]), .row 1 (List.map eU8 y) true]⟩) ?_ ?_)))))))))
 ·intro u1_130 h1
  obtain ⟨u2_144, h2, h1⟩ := ob h1
  refine sr (s1 (far (k := 1) rfl fo85_1 ts83 rfl) (s1 (lod rfl (ld_box ts83 ta83 rfl rfl)) (s1 (len rfl rfl rfl (len_lst un83)) (sm rfl (sn (SC.blk (SC.loopB h2 (fun y => ⟨mk 44 [(1, .ref 0 0 0), (3, .ref 1 0 0), (15, .d ((eL 2 eApiPart) p0.Parts)), (16, .d (eI (p0.Parts.length : Int))), (17, .d (eI y.1))], [.box (.d (eApiIndex p0)), .box (.agg [.slc 2 1 0 y.2.length none]), .row 1 (List.map eU8 y.2) true]⟩) (wc [0, 1, 3] [0, 1] (by kernel_rfl) rfl (by kernel_rfl)) ?_)))))))
  intro n149
  rintro ⟨y135, y136⟩ w2_143 h3 hv3
  refine sr (s1 (bi rfl rfl q_i64_lss) (sn (sq (cB h3 rfl (fun h3 => ?_) (fun h3 => ?_)))))
  ·obtain ⟨v145, hv145, h3⟩ := ob h3; obtain ⟨_, hq146, h3⟩ := ob h3; obtain ⟨r148, hq147, h3⟩ := ob h3
   refine sk (sq (SC.blk (sr (s1 (ial rfl rfl un83 ts92 (getI_some hv145).1 (map_get (getI_some hv145).2) rfl) (s1 (lod (v := .d (eApiPart v145)) rfl (ld_rop ts92 ta92 rfl)) (s1 (alo (k := 3) zo92 rfl) (s0 (sto rfl rfl (sB (d' := .d (eApiPart v145)) ts92 rfl rfl rfl rfl rfl rfl rfl)) (sn (sr ?_)))))))))
   refine s1 (far (k := 0) rfl fo92_0 ts3 rfl) (s1 (lod rfl (ld_box ts3 ta3 rfl rfl)) (s1 (cvo rfl (cv_i64_u8 un3 un5 v145.Col)) (cq [1, 2] [4] (pack_Out_U8_ok (u8i v145.Col) y136 _ hq146) wf rfl rfl rfl cb22 rfl rfl rfl rfl rfl rfl rfl rfl (sn (SC.region (s1 (far (k := 1) rfl fo92_1 ts4 rfl) (s1 (lod rfl (ld_box ts4 ta4 rfl rfl)) (cq [1, 4] [5] (pack_Out_Flag_1_ok v145.Down (y136 ++ [(u8i v145.Col)]) _ hq147) wf rfl rfl rfl cb39 rfl rfl rfl rfl rfl rfl rfl rfl (SO.nil ?_)))))))))
   change SC _ _ _ _ _
   have q := si h3; subst q
   exact SC.region (s1 (bi rfl rfl q_i64_add) (sm rfl (SO.nil (lf (wc [0, 1, 5] [0, 1] (by kernel_rfl) rfl (by kernel_rfl))))))
  ·have q := si h3; subst q; have q : _ = _ := hv3; subst q; have q := si h1; subst q
   exact SC.exit ((wq rfl))
 ·rintro y129 h0
  obtain ⟨r151, hq150, h0⟩ := ob h0; obtain ⟨r153, hq152, h0⟩ := ob h0; obtain ⟨r155, hq154, h0⟩ := ob h0; obtain ⟨_, hq156, h0⟩ := ob h0; obtain ⟨_, hq157, h0⟩ := ob h0; have q := si h0; subst q
  refine sr (s1 (far (k := 2) rfl fo85_2 ts50 rfl) (s1 (lod rfl (ld_box ts50 ta50 rfl rfl)) (cq [1, 2] [3] (catalog_places_ok p0.Extra y129 _ hq150) wf rfl rfl rfl cb23 rfl rfl rfl rfl rfl rfl rfl rfl (sn (sr (s1 (far (k := 3) rfl fo85_3 ts4 rfl) (s1 (lod rfl (ld_box ts4 ta4 rfl rfl)) (cq [1, 3] [4] (pack_Out_Flag_1_ok p0.Unique r151 _ hq152) wf rfl rfl rfl cb39 rfl rfl rfl rfl rfl rfl rfl rfl (sn ?_)))))))))
  refine sr (s1 (far (k := 4) rfl fo85_4 ts4 rfl) (s1 (lod rfl (ld_box ts4 ta4 rfl rfl)) (cq [1, 4] [5] (pack_Out_Flag_1_ok p0.Ready r153 _ hq154) wf rfl rfl rfl cb39 rfl rfl rfl rfl rfl rfl rfl rfl (sn (sr (s1 (far (k := 5) rfl fo85_5 ts3 rfl) (s1 (lod rfl (ld_box ts3 ta3 rfl rfl)) (s1 (cvo rfl (cv_i64_u16 un3 un76 p0.Tree)) (cq [1, 5] [6] (pack_Out_U16_ok (u16i p0.Tree) r155 _ hq156) wf rfl rfl rfl cb21 rfl rfl rfl rfl rfl rfl rfl rfl ?_)))))))))
  exact sn (sr (cq [1, 6] [7] (pack_Out_Bytes_ok (r155 ++ [((shr16 (u16i p0.Tree) 8).toUInt8), ((u16i p0.Tree).toUInt8)]) _ hq157) wf rfl rfl rfl cb24 rfl rfl rfl rfl rfl rfl rfl rfl (s1 (cvo (v := .d (eS (r155 ++ [((shr16 (u16i p0.Tree) 8).toUInt8), ((u16i p0.Tree).toUInt8)]))) rfl (cv_bytes_str un72 un9 un5 (el_full (xs := (r155 ++ [((shr16 (u16i p0.Tree) 8).toUInt8), ((u16i p0.Tree).toUInt8)])) rfl) (fun _ hh => by cases hh))) (sa rfl (sn (SC.ret (finR (wc (e' := [(2, .d (eS (r155 ++ [((shr16 (u16i p0.Tree) 8).toUInt8), ((u16i p0.Tree).toUInt8)])))]) [] [] (by kernel_rfl) rfl (by kernel_rfl)) (lresT rfl lresN) rfl)))))))
noncomputable def catalog_Pairs (p0 : ApiTable) : Option ((List ApiPair) × Int) :=
 Option.bind (catalog_right p0) fun r206 =>
 bif (!r206) then
 some (([] : List ApiPair), (1 : Int))
 else
 Option.bind (pack_Out_U16_1 (u16i p0.Tree)) fun _ =>
 Option.bind (pack_Out_U8 (u8i (p0.Cols.length : Int)) [((shr16 (u16i p0.Tree) 8).toUInt8), ((u16i p0.Tree).toUInt8)]) fun _ =>
 Option.bind (catalog_places p0.Primary ([((shr16 (u16i p0.Tree) 8).toUInt8), ((u16i p0.Tree).toUInt8)] ++ [(u8i (p0.Cols.length : Int))])) fun r210 =>
 Option.bind (pack_Out_U8 (u8i (p0.Indexes.length : Int)) r210) fun _ =>
 bif decide (([116] : List UInt8).length + p0.Name.length ≤ 9223372036854775807) then
 Option.bind (pack_Out_Bytes (r210 ++ [(u8i (p0.Indexes.length : Int))])) fun _ =>
 Option.bind (α := (List ApiPair))
 (Option.bind (α := (List ApiPair))
 (loop (Y := (List ApiPair) × Int) (W := (List ApiPair)) (fun (y243, y244) =>
 bif (decide (y244 < (p0.Cols.length : Int))) then
 Option.bind (getI p0.Cols y244) fun v254 =>
 Option.bind (catalog_sub p0.Name (99 : UInt8) y244) fun _ =>
 Option.bind (catalog_putColumn v254) fun r257 =>
 bif decide ((y243.length + [(ApiPair.mk ((([116] : List UInt8) ++ p0.Name) ++ [(0 : UInt8), (99 : UInt8), (u8i y244)]) r257)].length) * 32 ≤ room) then
 some (Sum.inl ((y243 ++ [(ApiPair.mk ((([116] : List UInt8) ++ p0.Name) ++ [(0 : UInt8), (99 : UInt8), (u8i y244)]) r257)]), (w64 (y244 + (1 : Int)))))
 else none
 else
 some (Sum.inr y243)) ([(ApiPair.mk (([116] : List UInt8) ++ p0.Name) (r210 ++ [(u8i (p0.Indexes.length : Int))]))], (0 : Int)))
 (fun e => some e))
 fun y236 =>
 Option.bind (α := (List ApiPair))
 (Option.bind (α := (List ApiPair))
 (loop (Y := (List ApiPair) × Int) (W := (List ApiPair)) (fun (y289, y290) =>
 bif (decide (y290 < (p0.Indexes.length : Int))) then
 Option.bind (getI p0.Indexes y290) fun v300 =>
 Option.bind (catalog_sub p0.Name (105 : UInt8) y290) fun _ =>
 Option.bind (catalog_putIndex v300) fun r303 =>
 bif decide ((y289.length + [(ApiPair.mk ((([116] : List UInt8) ++ p0.Name) ++ [(0 : UInt8), (105 : UInt8), (u8i y290)]) r303)].length) * 32 ≤ room) then
 some (Sum.inl ((y289 ++ [(ApiPair.mk ((([116] : List UInt8) ++ p0.Name) ++ [(0 : UInt8), (105 : UInt8), (u8i y290)]) r303)]), (w64 (y290 + (1 : Int)))))
 else none
 else
 some (Sum.inr y289)) (y236, (0 : Int)))
 (fun e => some e))
 fun y282 =>
 some (y282, (0 : Int))
 else none
theorem catalog_Pairs_ok (p0 : ApiTable) (r : (List ApiPair) × Int) (h0 : catalog_Pairs p0 = some r) : CallAt Tryd.prog 11 [.d (eApiTable p0)] [] (.tuple [.d ((eL 2 eApiPair) r.1), .d (eI r.2)]) [] := by
 unfold catalog_Pairs at h0
 refine fn0 [0] Tryd.func11 rfl rfl rfl rfl rfl ?_
 obtain ⟨r206, hq205, h0⟩ := ob h0
 refine sr (s1 (bxo (k := 0) rfl rfl rfl) (s1 (asg (v := .d .nils) rfl) (sa rfl (sn (sq (sr (s1 (lod (v := .d (eApiTable p0)) rfl (ld_box ts53 ta53 rfl rfl)) (c0 (catalog_right_ok p0 _ hq205) wf rfl rfl rfl cb20 rfl (fun _ => rfl) (fun _ => rfl) (s1 (nt rfl) ?_)))))))))
 refine sn (cB h0 rfl (fun h0 => ?_) (fun h0 => ?_))
 ·have q := si h0; subst q
  exact sr (s1 (asg (v := .d .nils) rfl) (sa rfl (sn (SC.ret (finR (Wk.trans (Wk.env (e' := [(2, .d ((eL 2 eApiPair) ([] : List ApiPair))), (3, .d (eI (1 : Int)))]) (EW.cons (AW.nl _) (EW.cons (AW.refl _) EW.nil))) (wc (e' := [(2, .d ((eL 2 eApiPair) ([] : List ApiPair))), (3, .d (eI (1 : Int)))]) [] [] (by kernel_rfl) rfl (by kernel_rfl))) (lresT rfl (lresT rfl lresN)) rfl)))))
 ·obtain ⟨_, hq207, h0⟩ := ob h0; obtain ⟨_, hq208, h0⟩ := ob h0; obtain ⟨r210, hq209, h0⟩ := ob h0; obtain ⟨_, hq211, h0⟩ := ob h0; obtain ⟨hg212, h0⟩ := gd h0; obtain ⟨_, hq213, h0⟩ := ob h0
  refine sk (sr (s1 (alo (k := 1) zo74 rfl) (sn (sr (s1 (far (k := 4) rfl fo53_4 ts3 rfl) (s1 (lod rfl (ld_box ts3 ta3 rfl rfl)) (s1 (cvo rfl (cv_i64_u16 un3 un76 p0.Tree)) (cq [1] [2] (pack_Out_U16_1_ok (u16i p0.Tree) _ hq207) wf rfl rfl rfl cb21 rfl rfl rfl rfl rfl rfl rfl rfl (sn ?_)))))))))
  refine sr (s1 (far (k := 1) rfl fo53_1 ts49 rfl) (s1 (lod rfl (ld_box ts49 ta49 rfl rfl)) (s1 (len rfl rfl rfl (len_lst un49)) (s1 (cvo rfl (cv_i64_u8 un3 un5 (p0.Cols.length : Int))) (cq [1, 2] [3] (pack_Out_U8_ok (u8i (p0.Cols.length : Int)) [((shr16 (u16i p0.Tree) 8).toUInt8), ((u16i p0.Tree).toUInt8)] _ hq208) wf rfl rfl rfl cb22 rfl rfl rfl rfl rfl rfl rfl rfl (sn (sr (s1 (far (k := 2) rfl fo53_2 ts50 rfl) (s1 (lod rfl (ld_box ts50 ta50 rfl rfl)) ?_)))))))))
  refine cq [1, 3] [4] (catalog_places_ok p0.Primary ([((shr16 (u16i p0.Tree) 8).toUInt8), ((u16i p0.Tree).toUInt8)] ++ [(u8i (p0.Cols.length : Int))]) _ hq209) wf rfl rfl rfl cb23 rfl rfl rfl rfl rfl rfl rfl rfl (sn (sr (s1 (far (k := 3) rfl fo53_3 ts51 rfl) (s1 (lod rfl (ld_box ts51 ta51 rfl rfl)) (s1 (len rfl rfl rfl (len_lst un51)) (s1 (cvo rfl (cv_i64_u8 un3 un5 (p0.Indexes.length : Int))) (cq [1, 4] [5] (pack_Out_U8_ok (u8i (p0.Indexes.length : Int)) r210 _ hq211) wf rfl rfl rfl cb22 rfl rfl rfl rfl rfl rfl rfl rfl (sn (sd (by kernel_rfl) ?_)))))))))
  refine t1 ([], false) (far (k := 0) rfl fo53_0 ts9 rfl) rfl (t1 ([0], false) (lod rfl (ld_box ts9 ta9 rfl rfl)) rfl (t1 ([], false) (bi (v := .d (eS (([116] : List UInt8) ++ p0.Name))) rfl rfl (fun X Y => b_str_add _ X Y ([116] : List UInt8) p0.Name hg212)) rfl (tq [1, 5] [6] ([1, 5, 6], true) (pack_Out_Bytes_ok (r210 ++ [(u8i (p0.Indexes.length : Int))]) _ hq213) wf rfl rfl rfl cb24 rfl rfl rfl rfl rfl rfl rfl rfl rfl (t1 ([6], false) (cvo (v := .d (eS (r210 ++ [(u8i (p0.Indexes.length : Int))]))) rfl (cv_bytes_str un72 un9 un5 (el_full (xs := (r210 ++ [(u8i (p0.Indexes.length : Int))])) rfl) (fun _ hh => by cases hh))) rfl (t1 ([], false) (bld rfl (bd25_0_1 (([116] : List UInt8) ++ p0.Name) (r210 ++ [(u8i (p0.Indexes.length : Int))]))) rfl (t1 ([7], true) (bsn (k := 7) (ds := List.map eApiPair [(ApiPair.mk (([116] : List UInt8) ++ p0.Name) (r210 ++ [(u8i (p0.Indexes.length : Int))]))]) (off := 0) (l' := [(ApiPair.mk (([116] : List UInt8) ++ p0.Name) (r210 ++ [(u8i (p0.Indexes.length : Int))]))].length) rfl un22 ei25 rfl rfl (by rfl) rfl rfl rfl) rfl (t1 ([], false) (asg rfl) rfl (tn (by decide +kernel) (SC.seqP h0 (fun y => ⟨mk 76 [(1, .ref 0 0 0), (5, .slc 1 2 0 y.length none)], [.box (.d (eApiTable p0)), .row 2 (List.map eApiPair y) true]⟩) ?_ ?_)))))))))
  ·intro u1_237 h1
   obtain ⟨u2_253, h2, h1⟩ := ob h1
   refine sr (s1 (far (k := 1) rfl fo53_1 ts49 rfl) (s1 (lod rfl (ld_box ts49 ta49 rfl rfl)) (s1 (len rfl rfl rfl (len_lst un49)) (sm rfl (sn (SC.blk (SC.loopB h2 (fun y => ⟨mk 76 [(1, .ref 0 0 0), (5, .slc 1 2 0 y.1.length none), (38, .d ((eL 7 eApiColumn) p0.Cols)), (39, .d (eI (p0.Cols.length : Int))), (40, .d (eI y.2))], [.box (.d (eApiTable p0)), .row 2 (List.map eApiPair y.1) true]⟩) (wc [0, 7] [0, 7] (by kernel_rfl) rfl (by kernel_rfl)) ?_)))))))
   intro n259
   rintro ⟨y243, y244⟩ w2_252 h3 hv3
   refine sr (s1 (bi rfl rfl q_i64_lss) (sn (sq (cB h3 rfl (fun h3 => ?_) (fun h3 => ?_)))))
   ·obtain ⟨v254, hv254, h3⟩ := ob h3; obtain ⟨_, hq255, h3⟩ := ob h3; obtain ⟨r257, hq256, h3⟩ := ob h3; obtain ⟨hg258, h3⟩ := gd h3
    refine sk (sq (SC.blk (sr (sm rfl (s1 (ial rfl rfl un49 ts62 (getI_some hv254).1 (map_get (getI_some hv254).2) rfl) (s1 (lod (v := .d (eApiColumn v254)) rfl (ld_rop ts62 ta62 rfl)) (s1 (alo (k := 2) zo62 rfl) (sa rfl (s0 (sto rfl rfl (sB (d' := .d (eApiColumn v254)) ts62 rfl rfl rfl rfl rfl rfl rfl)) ?_)))))))))
    refine sn (SC.draws (by kernel_rfl) (t1 ([], false) (mv rfl) rfl (t1 ([], false) (far (k := 0) rfl fo53_0 ts9 rfl) rfl (t1 ([0], false) (lod rfl (ld_box ts9 ta9 rfl rfl)) rfl (t1 ([], false) (mv rfl) rfl (tc0 (catalog_sub_ok p0.Name (99 : UInt8) y244 _ hq255) wf rfl rfl rfl cb25 rfl (fun _ => rfl) (fun _ => rfl) (t1 ([2], false) (lod (v := .d (eApiColumn v254)) rfl (ld_box ts62 ta62 rfl rfl)) rfl (tc0 (catalog_putColumn_ok v254 _ hq256) wf rfl rfl rfl cb26 rfl (fun _ => rfl) (fun _ => rfl) (t1 ([], false) (bld rfl (bd25_0_1 ((([116] : List UInt8) ++ p0.Name) ++ [(0 : UInt8), (99 : UInt8), (u8i y244)]) r257)) rfl ?_)))))))))
    refine t1 ([3], true) (bsn (k := 3) (ds := List.map eApiPair [(ApiPair.mk ((([116] : List UInt8) ++ p0.Name) ++ [(0 : UInt8), (99 : UInt8), (u8i y244)]) r257)]) (off := 0) (l' := [(ApiPair.mk ((([116] : List UInt8) ++ p0.Name) ++ [(0 : UInt8), (99 : UInt8), (u8i y244)]) r257)].length) rfl un22 ei25 rfl rfl (by rfl) rfl rfl rfl) rfl (t1 ([1, 3, 4], true) (app rfl rfl rfl rfl bc22 (aF (f := eApiPair) (xs := y243) (k := 4) rfl un22 ei25 rfl (el_full (xs := [(ApiPair.mk ((([116] : List UInt8) ++ p0.Name) ++ [(0 : UInt8), (99 : UInt8), (u8i y244)]) r257)]) rfl) hg258 rfl)) rfl (t1 ([], false) (asg rfl) rfl (ST.nil (And.intro (by decide +kernel) ?_))))
    change SC _ _ _ _ _
    have q := si h3; subst q
    exact SC.region (s1 (bi rfl rfl q_i64_add) (sm rfl (SO.nil (lf (wc [0, 4] [0, 4] (by kernel_rfl) rfl (by kernel_rfl))))))
   ·have q := si h3; subst q; have q : _ = _ := hv3; subst q; have q := si h1; subst q
    exact SC.exit ((wq rfl))
  ·rintro y236 h0
   refine SC.seqP h0 (fun y => ⟨mk 76 [(5, .slc 0 2 0 y.length none)], [.row 2 (List.map eApiPair y) true]⟩) ?_ ?_
   ·intro u1_283 h1
    obtain ⟨u2_299, h2, h1⟩ := ob h1
    refine sr (s1 (far (k := 3) rfl fo53_3 ts51 rfl) (s1 (lod rfl (ld_box ts51 ta51 rfl rfl)) (s1 (len rfl rfl rfl (len_lst un51)) (sm rfl (sn (SC.blk (SC.loopB h2 (fun y => ⟨mk 76 [(1, .ref 0 0 0), (5, .slc 1 2 0 y.1.length none), (57, .d ((eL 6 eApiIndex) p0.Indexes)), (58, .d (eI (p0.Indexes.length : Int))), (59, .d (eI y.2))], [.box (.d (eApiTable p0)), .row 2 (List.map eApiPair y.1) true]⟩) (wq rfl) ?_)))))))
    intro n305
    rintro ⟨y289, y290⟩ w2_298 h3 hv3
    refine sr (s1 (bi rfl rfl q_i64_lss) (sn (sq (cB h3 rfl (fun h3 => ?_) (fun h3 => ?_)))))
    ·obtain ⟨v300, hv300, h3⟩ := ob h3; obtain ⟨_, hq301, h3⟩ := ob h3; obtain ⟨r303, hq302, h3⟩ := ob h3; obtain ⟨hg304, h3⟩ := gd h3
     refine sk (sq (SC.blk (sr (sm rfl (s1 (ial rfl rfl un51 ts85 (getI_some hv300).1 (map_get (getI_some hv300).2) rfl) (s1 (lod (v := .d (eApiIndex v300)) rfl (ld_rop ts85 ta85 rfl)) (s1 (alo (k := 2) zo85 rfl) (sa rfl (s0 (sto rfl rfl (sB (d' := .d (eApiIndex v300)) ts85 rfl rfl rfl rfl rfl rfl rfl)) ?_)))))))))
     refine sn (SC.draws (by kernel_rfl) (t1 ([], false) (mv rfl) rfl (t1 ([], false) (far (k := 0) rfl fo53_0 ts9 rfl) rfl (t1 ([0], false) (lod rfl (ld_box ts9 ta9 rfl rfl)) rfl (t1 ([], false) (mv rfl) rfl (tc0 (catalog_sub_ok p0.Name (105 : UInt8) y290 _ hq301) wf rfl rfl rfl cb25 rfl (fun _ => rfl) (fun _ => rfl) (t1 ([2], false) (lod (v := .d (eApiIndex v300)) rfl (ld_box ts85 ta85 rfl rfl)) rfl (tc0 (catalog_putIndex_ok v300 _ hq302) wf rfl rfl rfl cb27 rfl (fun _ => rfl) (fun _ => rfl) (t1 ([], false) (bld rfl (bd25_0_1 ((([116] : List UInt8) ++ p0.Name) ++ [(0 : UInt8), (105 : UInt8), (u8i y290)]) r303)) rfl ?_)))))))))
     refine t1 ([3], true) (bsn (k := 3) (ds := List.map eApiPair [(ApiPair.mk ((([116] : List UInt8) ++ p0.Name) ++ [(0 : UInt8), (105 : UInt8), (u8i y290)]) r303)]) (off := 0) (l' := [(ApiPair.mk ((([116] : List UInt8) ++ p0.Name) ++ [(0 : UInt8), (105 : UInt8), (u8i y290)]) r303)].length) rfl un22 ei25 rfl rfl (by rfl) rfl rfl rfl) rfl (t1 ([1, 3, 4], true) (app rfl rfl rfl rfl bc22 (aF (f := eApiPair) (xs := y289) (k := 4) rfl un22 ei25 rfl (el_full (xs := [(ApiPair.mk ((([116] : List UInt8) ++ p0.Name) ++ [(0 : UInt8), (105 : UInt8), (u8i y290)]) r303)]) rfl) hg304 rfl)) rfl (t1 ([], false) (asg rfl) rfl (ST.nil (And.intro (by decide +kernel) ?_))))
     change SC _ _ _ _ _
     have q := si h3; subst q
     exact SC.region (s1 (bi rfl rfl q_i64_add) (sm rfl (SO.nil (lf (wc [0, 4] [0, 4] (by kernel_rfl) rfl (by kernel_rfl))))))
    ·have q := si h3; subst q; have q : _ = _ := hv3; subst q; have q := si h1; subst q
     exact SC.exit ((wc [1] [1] (by kernel_rfl) rfl (by kernel_rfl)))
   ·rintro y282 h0
    have q := si h0; subst q
    exact sr (sm rfl (sa rfl (sa rfl (sn (SC.ret (finR (Wk.trans (Wk.frz (i := 2) (x := .slc 0 2 0 y282.length none) rfl rfl (fF rfl rfl rfl)) (wc (e' := [(2, .d ((eL 2 eApiPair) y282)), (3, .d (eI (0 : Int)))]) [] [] (by kernel_rfl) rfl (by kernel_rfl))) (lresT rfl (lresT rfl lresN)) rfl))))))
noncomputable def pack_To (p0 : List UInt8) : Option Unit :=
 bif decide (p0.length * 1 ≤ room) then
 some ()
 else none
theorem pack_To_ok (p0 : List UInt8) (r : Unit) (h0 : pack_To p0 = some r) : CallAt Tryd.prog 72 [.d ((eL 1 eU8) p0)] [] (.ref 0 0 0) [.box (.agg [.slc 1 1 0 p0.length none, .d (eB false)]), .row 1 (List.map eU8 p0) true] := by
 unfold pack_To at h0
 refine fn0 [0] Tryd.func72 rfl rfl rfl rfl rfl ?_
 obtain ⟨hg3, h0⟩ := gd h0; have q := si h0; subst q
 refine sr (s1 (asg (v := .d .nilp) rfl) (sn (sr (sm rfl (s1 (app rfl rfl rfl rfl bc72 (aN (f := eU8) (k := 0) un72 ei5 el_lst hg3 rfl)) (s1 (bld (v := .agg [.slc 0 1 0 p0.length none, .d (eB false)]) rfl (by rfl)) (s1 (bxo (k := 1) rfl rfl rfl) (sa rfl (sn ?_)))))))))
 exact SC.ret (finR (wc (e' := [(2, .ref 0 0 0)]) [1, 0] [1] (by kernel_rfl) rfl (by kernel_rfl)) (lresT rfl lresN) rfl)
end Lv
