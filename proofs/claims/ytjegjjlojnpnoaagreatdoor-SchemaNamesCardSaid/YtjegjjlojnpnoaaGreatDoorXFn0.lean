/- Part of the proof of a law: functions and their walks. -/
import Derived.Test.YtjegjjlojnpnoaaGreatDoorXPrims
namespace Lv
open Go Go.Proofs
set_option linter.unusedVariables false
set_option linter.unusedSimpArgs false
set_option linter.unusedSectionVars false
set_option maxRecDepth 100000
variable [BaseTab] [TabOk]
noncomputable def law17_people : Option Unit :=
 some ()
theorem law17_people_ok (r : Unit) (h0 : law17_people = some r) : CallAt Tryz.prog 20 [] [] (.agg [.d (eS ([112, 101, 111, 112, 108, 101] : List UInt8)), .slc 1 7 0 ([(ApiColumn.mk ([105, 100] : List UInt8) (1 : Int) (0 : Int) false (ApiValue.mk (1 : Int) (0 : UInt64) ([] : List UInt8))), (ApiColumn.mk ([110, 97, 109, 101] : List UInt8) (5 : Int) (4 : Int) true (ApiValue.mk (0 : Int) (0 : UInt64) ([] : List UInt8))), (ApiColumn.mk ([97, 103, 101] : List UInt8) (2 : Int) (0 : Int) false (ApiValue.mk (2 : Int) (0 : UInt64) ([] : List UInt8)))].length) none, .slc 2 1 0 ([(0 : Int)].length) none, .d .nils, .d (eI (0 : Int))]) [.box (.agg [.d (eS ([112, 101, 111, 112, 108, 101] : List UInt8)), .slc 1 7 0 ([(ApiColumn.mk ([105, 100] : List UInt8) (1 : Int) (0 : Int) false (ApiValue.mk (1 : Int) (0 : UInt64) ([] : List UInt8))), (ApiColumn.mk ([110, 97, 109, 101] : List UInt8) (5 : Int) (4 : Int) true (ApiValue.mk (0 : Int) (0 : UInt64) ([] : List UInt8))), (ApiColumn.mk ([97, 103, 101] : List UInt8) (2 : Int) (0 : Int) false (ApiValue.mk (2 : Int) (0 : UInt64) ([] : List UInt8)))].length) none, .slc 2 1 0 ([(0 : Int)].length) none, .d .nils, .d (eI (0 : Int))]), .row 7 (List.map eApiColumn [(ApiColumn.mk ([105, 100] : List UInt8) (1 : Int) (0 : Int) false (ApiValue.mk (1 : Int) (0 : UInt64) ([] : List UInt8))), (ApiColumn.mk ([110, 97, 109, 101] : List UInt8) (5 : Int) (4 : Int) true (ApiValue.mk (0 : Int) (0 : UInt64) ([] : List UInt8))), (ApiColumn.mk ([97, 103, 101] : List UInt8) (2 : Int) (0 : Int) false (ApiValue.mk (2 : Int) (0 : UInt64) ([] : List UInt8)))]) true, .row 1 (List.map eI [(0 : Int)]) true] := by
 unfold law17_people at h0
 refine fn0 [] Tryz.func20 rfl rfl rfl rfl rfl ?_
 have q := si h0; subst q
 refine sr (s1 (alo (k := 0) zo26 rfl) (sn (sr (s1 (bld rfl (bd40_0 (1 : Int))) (s1 (bld rfl (bd42_0_1_4 ([105, 100] : List UInt8) (1 : Int) (ApiValue.mk (1 : Int) (0 : UInt64) ([] : List UInt8)))) (s1 (bld rfl (bd42_0_1_2_3 ([110, 97, 109, 101] : List UInt8) (5 : Int) (4 : Int) true)) (s1 (bld rfl (bd40_0 (2 : Int))) (s1 (bld rfl (bd42_0_1_4 ([97, 103, 101] : List UInt8) (2 : Int) (ApiValue.mk (2 : Int) (0 : UInt64) ([] : List UInt8)))) (s1 (bsn (k := 1) (ds := List.map eApiColumn [(ApiColumn.mk ([105, 100] : List UInt8) (1 : Int) (0 : Int) false (ApiValue.mk (1 : Int) (0 : UInt64) ([] : List UInt8))), (ApiColumn.mk ([110, 97, 109, 101] : List UInt8) (5 : Int) (4 : Int) true (ApiValue.mk (0 : Int) (0 : UInt64) ([] : List UInt8))), (ApiColumn.mk ([97, 103, 101] : List UInt8) (2 : Int) (0 : Int) false (ApiValue.mk (2 : Int) (0 : UInt64) ([] : List UInt8)))]) (off := 0) (l' := [(ApiColumn.mk ([105, 100] : List UInt8) (1 : Int) (0 : Int) false (ApiValue.mk (1 : Int) (0 : UInt64) ([] : List UInt8))), (ApiColumn.mk ([110, 97, 109, 101] : List UInt8) (5 : Int) (4 : Int) true (ApiValue.mk (0 : Int) (0 : UInt64) ([] : List UInt8))), (ApiColumn.mk ([97, 103, 101] : List UInt8) (2 : Int) (0 : Int) false (ApiValue.mk (2 : Int) (0 : UInt64) ([] : List UInt8)))].length) rfl un22 ei42 rfl rfl (by rfl) rfl rfl rfl) ?_)))))))))
 exact s1 (bsn (k := 2) (ds := List.map eI [(0 : Int)]) (off := 0) (l' := [(0 : Int)].length) rfl un23 ei3 rfl rfl (by rfl) rfl rfl rfl) (s1 (bld rfl (bd26_0_1_2 ([112, 101, 111, 112, 108, 101] : List UInt8))) (s0 (sto rfl rfl (sB (d' := .agg [.d (eS ([112, 101, 111, 112, 108, 101] : List UInt8)), .slc 1 7 0 ([(ApiColumn.mk ([105, 100] : List UInt8) (1 : Int) (0 : Int) false (ApiValue.mk (1 : Int) (0 : UInt64) ([] : List UInt8))), (ApiColumn.mk ([110, 97, 109, 101] : List UInt8) (5 : Int) (4 : Int) true (ApiValue.mk (0 : Int) (0 : UInt64) ([] : List UInt8))), (ApiColumn.mk ([97, 103, 101] : List UInt8) (2 : Int) (0 : Int) false (ApiValue.mk (2 : Int) (0 : UInt64) ([] : List UInt8)))].length) none, .slc 2 1 0 ([(0 : Int)].length) none, .d .nils, .d (eI (0 : Int))]) ts26 rfl rfl rfl rfl rfl rfl rfl)) (sn (SC.ret (finR (Wk.refl _) (lresC rfl (ld_box ts26 ta26 rfl rfl) lresN) rfl)))))
noncomputable def value_Name (p0 : List UInt8) : Option Bool :=
 Option.bind (α := Bool)
 (bif (p0 == ([] : List UInt8)) then
 some true
 else
 some (decide ((p0.length : Int) > (16 : Int))))
 fun y45 =>
 bif y45 then
 some false
 else
 bindE (Y := Unit) (E := Bool)
 (Option.bind (α := Unit ⊕ Bool)
 (loop (Y := Int) (W := Unit ⊕ Bool) (fun y73 =>
 bif (decide (y73 < (p0.length : Int))) then
 Option.bind (getI p0 y73) fun v82 =>
 Option.bind (α := Bool)
 (bif (decide ((97 : UInt8) ≤ v82)) then
 some (decide (v82 ≤ (122 : UInt8)))
 else
 some false)
 fun y83 =>
 Option.bind (α := Bool)
 (bif (!y83) then
 bif (y73 == (0 : Int)) then
 some true
 else
 bif (v82 != (95 : UInt8)) then
 bif (decide (v82 < (48 : UInt8))) then
 some true
 else
 some (decide ((57 : UInt8) < v82))
 else
 some false
 else
 some false)
 fun y85 =>
 bif y85 then
 some (Sum.inr (Sum.inr false))
 else
 some (Sum.inl (w64 (y73 + (1 : Int))))
 else
 some (Sum.inr (Sum.inl ()))) (0 : Int))
 (Sum.elim (fun e => some (Sum.inl e)) (fun e => some (Sum.inr e))))
 (fun _ =>
 some true)
 (fun e => some e)
theorem value_Name_ok (p0 : List UInt8) (r : Bool) (h0 : value_Name p0 = some r) : CallAt Tryz.prog 33 [.d (eS p0)] [] (.d (eB r)) [] := by
 unfold value_Name at h0
 refine fn0 [0] Tryz.func33 rfl rfl rfl rfl rfl ?_
 refine sr (sa rfl (sn (sq (SC.seqP h0 (fun y => ⟨mk 46 [(0, .d (eS p0)), (12, .d (eB y))], []⟩) ?_ ?_))))
 ·intro u1_46 h1
  refine SC.region (sm rfl (s1 (bi rfl rfl (q_str_eql (b := ([] : List UInt8)))) (sm rfl (sp h1 (fun h1 => ?_) (fun h1 => ?_)))))
  ·have q := si h1; subst q
   exact kw rfl (kw rfl (kw rfl (s1 (pkt rfl rfl) (SO.nil ((wq rfl))))))
  ·have q := si h1; subst q
   exact gw rfl (mv rfl) (gw rfl (len rfl rfl rfl (len_str un9)) (gw rfl (bi rfl rfl q_i64_gtr) (s1 (pkf rfl rfl) (SO.nil ((wq rfl))))))
 ·rintro y45 h0
  refine cB h0 rfl (fun h0 => ?_) (fun h0 => ?_)
  ·have q := si h0; subst q
   exact sr (sa rfl (sn (SC.ret (finR (Wk.refl _) (lresT rfl lresN) rfl))))
  ·refine sk (SC.seqB h0 (fun y => ⟨mk 46 [], []⟩) ?_ ?_)
   ·intro u1_67 h1 h0
    obtain ⟨u2_81, h2, h1⟩ := ob h1
    refine sr (sm rfl (s1 (len rfl rfl rfl (len_str un9)) (sm rfl (sn (SC.blk (SC.loopB h2 (fun y => ⟨mk 46 [(0, .d (eS p0)), (14, .d (eI (p0.length : Int))), (15, .d (eI y))], []⟩) (wq rfl) ?_))))))
    intro n87
    rintro y73 w2_80 h3 hv3
    refine sr (s1 (bi rfl rfl q_i64_lss) (sn (sq (cB h3 rfl (fun h3 => ?_) (fun h3 => ?_)))))
    ·obtain ⟨v82, hv82, h3⟩ := ob h3
     refine sk (sq (SC.blk (sr (sm rfl (sa rfl (sn (sr (sm rfl (sm rfl ?_)))))))))
     refine s1 (ixs rfl rfl rfl rfl (ix_str un9 (getI_some hv82).1 (getI_some hv82).2)) (sa rfl (sn (SC.seqP h3 (fun y => ⟨mk 46 [(0, .d (eS p0)), (3, .d (eI y73)), (4, .d (eU8 v82)), (5, .d (eB y)), (14, .d (eI (p0.length : Int))), (15, .d (eI y73))], []⟩) ?_ ?_)))
     ·intro u4_84 h4
      refine SC.region (sm rfl (s1 (bi rfl rfl (q_u8_geq (b := (97 : UInt8)))) (sm rfl (sp h4 (fun h4 => ?_) (fun h4 => ?_)))))
      ·have q := si h4; subst q
       exact gw rfl (mv rfl) (gw rfl (bi rfl rfl (q_u8_leq (b := (122 : UInt8)))) (s1 (pkt rfl rfl) (sa rfl (SO.nil ((wq rfl))))))
      ·have q := si h4; subst q
       exact kw rfl (kw rfl (s1 (pkf rfl rfl) (sa rfl (SO.nil ((wq rfl))))))
     ·rintro y83 h3
      refine SC.seqP h3 (fun y => ⟨mk 46 [(0, .d (eS p0)), (14, .d (eI (p0.length : Int))), (15, .d (eI y73)), (44, .d (eB y))], []⟩) ?_ ?_
      ·intro u4_86 h4
       refine SC.region (sm rfl (s1 (nt rfl) (sm rfl (sp h4 (fun h4 => ?_) (fun h4 => ?_)))))
       ·refine gw rfl (mv rfl) (gw rfl (bi rfl rfl q_i64_eql) (gw rfl (mv rfl) (sp h4 (fun h4 => ?_) (fun h4 => ?_))))
        ·have q := si h4; subst q
         refine kw rfl (kw rfl (kw rfl (kw rfl (kw rfl (kw rfl (kw rfl (kw rfl (kw rfl (kw rfl ?_)))))))))
         exact gw rfl (pkt rfl rfl) (s1 (pkt rfl rfl) (SO.nil ((wq rfl))))
        ·refine gw rfl (mv rfl) (gw rfl (bi rfl rfl (q_u8_neq (b := (95 : UInt8)))) (gw rfl (mv rfl) (sp h4 (fun h4 => ?_) (fun h4 => ?_))))
         ·refine gw rfl (mv rfl) (gw rfl (bi rfl rfl (q_u8_lss (b := (48 : UInt8)))) (gw rfl (mv rfl) (sp h4 (fun h4 => ?_) (fun h4 => ?_))))
          ·have q := si h4; subst q
           exact kw rfl (kw rfl (gw rfl (pkt rfl rfl) (gw rfl (pkt rfl rfl) (gw rfl (pkf rfl rfl) (s1 (pkt rfl rfl) (SO.nil ((wq rfl))))))))
          ·have q := si h4; subst q
           exact gw rfl (mv rfl) (gw rfl (bi rfl rfl (q_u8_gtr (b := (57 : UInt8)))) (gw rfl (pkf rfl rfl) (gw rfl (pkt rfl rfl) (gw rfl (pkf rfl rfl) (s1 (pkt rfl rfl) (SO.nil ((wq rfl))))))))
         ·have q := si h4; subst q
          refine kw rfl (kw rfl (kw rfl (kw rfl (kw rfl (kw rfl (gw rfl (pkf rfl rfl) (gw rfl (pkf rfl rfl) (s1 (pkt rfl rfl) (SO.nil ?_)))))))))
          exact (wq rfl)
       ·have q := si h4; subst q
        refine kw rfl (kw rfl (kw rfl (kw rfl (kw rfl (kw rfl (kw rfl (kw rfl (kw rfl (kw rfl ?_)))))))))
        exact kw rfl (kw rfl (kw rfl (kw rfl (s1 (pkf rfl rfl) (SO.nil ((wq rfl)))))))
      ·rintro y85 h3
       refine cB h3 rfl (fun h3 => ?_) (fun h3 => ?_)
       ·have q := si h3; subst q; have q : _ = _ := hv3; subst q; have q := si h1; subst q; have q := si h0; subst q
        exact sr (sa rfl (sn (SC.ret (finR (Wk.refl _) (lresT rfl lresN) rfl))))
       ·refine SC.skip ?_
        change SC _ _ _ _ _
        have q := si h3; subst q
        exact SC.region (s1 (bi rfl rfl q_i64_add) (sm rfl (SO.nil (lf (wq rfl)))))
    ·have q := si h3; subst q; have q : _ = _ := hv3; subst q; have q := si h1; subst q
     exact SC.exit (lf (wq rfl))
   ·intro _ h0
    have q := si h0; subst q
    exact sr (sa rfl (sn (SC.ret (finR (Wk.refl _) (lresT rfl lresN) rfl))))
noncomputable def value_long (p0 : Int) : Option Bool :=
 Option.bind (α := Bool)
 (bif (p0 == (4 : Int)) then
 some true
 else
 some (p0 == (5 : Int)))
 fun y4 =>
 some y4
theorem value_long_ok (p0 : Int) (r : Bool) (h0 : value_long p0 = some r) : CallAt Tryz.prog 64 [.d (eI p0)] [] (.d (eB r)) [] := by
 unfold value_long at h0
 refine fn0 [0] Tryz.func64 rfl rfl rfl rfl rfl ?_
 refine sr (sa rfl (sn (SC.seqP h0 (fun y => ⟨mk 9 [(2, .d (eB y))], []⟩) ?_ ?_)))
 ·intro u1_5 h1
  refine SC.region (sm rfl (s1 (bi rfl rfl q_i64_eql) (sm rfl (sp h1 (fun h1 => ?_) (fun h1 => ?_)))))
  ·have q := si h1; subst q
   exact kw rfl (kw rfl (s1 (pkt rfl rfl) (sa rfl (SO.nil ((wq rfl))))))
  ·have q := si h1; subst q
   exact gw rfl (mv rfl) (gw rfl (bi rfl rfl q_i64_eql) (s1 (pkf rfl rfl) (sa rfl (SO.nil ((wq rfl))))))
 ·rintro y4 h0
  have q := si h0; subst q
  exact SC.ret (finR (Wk.refl _) (lresT rfl lresN) rfl)
noncomputable def value_Valid (p0 : ApiValue) : Option Bool :=
 bif (p0.Kind == (0 : Int)) then
 some (eqApiValue p0 (ApiValue.mk (0 : Int) (0 : UInt64) ([] : List UInt8)))
 else
 Option.bind (α := Bool)
 (bif (p0.Kind == (1 : Int)) then
 some (p0.Kind == (1 : Int))
 else
 some (p0.Kind == (2 : Int)))
 fun y14 =>
 bif y14 then
 some (p0.S == ([] : List UInt8))
 else
 bif (p0.Kind == (3 : Int)) then
 Option.bind (α := Bool)
 (bif (decide (p0.N ≤ (1 : UInt64))) then
 some (p0.S == ([] : List UInt8))
 else
 some false)
 fun y16 =>
 some y16
 else
 bif (p0.Kind == (4 : Int)) then
 Option.bind (α := Bool)
 (bif (p0.N == (0 : UInt64)) then
 some (decide ((p0.S.length : Int) ≤ (64 : Int)))
 else
 some false)
 fun y18 =>
 some y18
 else
 bif (p0.Kind == (5 : Int)) then
 Option.bind (α := Bool)
 (bif (p0.N == (0 : UInt64)) then
 bif (decide ((p0.S.length : Int) ≤ (64 : Int))) then
 Option.bind (validF p0.S) fun r24 =>
 some r24
 else
 some false
 else
 some false)
 fun y22 =>
 some y22
 else
 some false
theorem value_Valid_ok (p0 : ApiValue) (r : Bool) (h0 : value_Valid p0 = some r) : CallAt Tryz.prog 74 [.d (eApiValue p0)] [] (.d (eB r)) [] := by
 unfold value_Valid at h0
 refine fn0 [0] Tryz.func74 rfl rfl rfl rfl rfl ?_
 refine sr (s1 (bxo (k := 0) rfl rfl rfl) (sa rfl (sn (sq (sr (s1 (far (k := 0) rfl fo40_0 ts3 rfl) (s1 (lod rfl (ld_box ts3 ta3 rfl rfl)) (sn (SC.blk ?_)))))))))
 refine sr (s1 (bi rfl rfl q_i64_eql) (sa rfl (sn (cB h0 rfl (fun h0 => ?_) (fun h0 => ?_)))))
 ·have q := si h0; subst q
  exact sr (s1 (lod (v := .d (eApiValue p0)) rfl (ld_box ts40 ta40 rfl rfl)) (s1 (bld rfl (bd40_ )) (s1 (bi (v := .d (eB (eqApiValue p0 (ApiValue.mk (0 : Int) (0 : UInt64) ([] : List UInt8))))) rfl rfl (fun X Y => eqApiValue_eql_40 X Y p0 (ApiValue.mk (0 : Int) (0 : UInt64) ([] : List UInt8)))) (sa rfl (sn (SC.ret (finR (wc (e' := [(2, .d (eB (eqApiValue p0 (ApiValue.mk (0 : Int) (0 : UInt64) ([] : List UInt8)))))]) [] [] (by kernel_rfl) rfl (by kernel_rfl)) (lresT rfl lresN) rfl)))))))
 ·refine SC.seqP h0 (fun y => ⟨mk 53 [(1, .ref 0 0 0), (4, .d (eI p0.Kind)), (10, .d (eB y))], [.box (.d (eApiValue p0))]⟩) ?_ ?_
  ·intro u1_15 h1
   refine sr (s1 (bi rfl rfl q_i64_eql) (sa rfl (sn (cB h1 rfl (fun h1 => ?_) (fun h1 => ?_)))))
   ·have q := si h1; subst q
    exact SC.skip ((wq rfl))
   ·have q := si h1; subst q
    exact SC.region (s1 (bi rfl rfl q_i64_eql) (sa rfl (SO.nil ((wq rfl)))))
  ·rintro y14 h0
   refine cB h0 rfl (fun h0 => ?_) (fun h0 => ?_)
   ·have q := si h0; subst q
    exact sr (s1 (far (k := 2) rfl fo40_2 ts9 rfl) (s1 (lod rfl (ld_box ts9 ta9 rfl rfl)) (s1 (bi rfl rfl (q_str_eql (b := ([] : List UInt8)))) (sa rfl (sn (SC.ret (finR (wc (e' := [(2, .d (eB (p0.S == ([] : List UInt8))))]) [] [] (by kernel_rfl) rfl (by kernel_rfl)) (lresT rfl lresN) rfl)))))))
   ·refine sr (s1 (bi rfl rfl q_i64_eql) (sa rfl (sn (cB h0 rfl (fun h0 => ?_) (fun h0 => ?_)))))
    ·refine SC.seqP h0 (fun y => ⟨mk 53 [(2, .d (eB y))], []⟩) ?_ ?_
     ·intro u1_17 h1
      refine SC.region (s1 (far (k := 1) rfl fo40_1 ts38 rfl) (s1 (lod rfl (ld_box ts38 ta38 rfl rfl)) (s1 (bi rfl rfl (q_u64_leq (b := (1 : UInt64)))) (sm rfl (sp h1 (fun h1 => ?_) (fun h1 => ?_))))))
      ·have q := si h1; subst q
       exact gw rfl (far (k := 2) rfl fo40_2 ts9 rfl) (gw rfl (lod rfl (ld_box ts9 ta9 rfl rfl)) (gw rfl (bi rfl rfl (q_str_eql (b := ([] : List UInt8)))) (s1 (pkt rfl rfl) (sa rfl (SO.nil ((wc [] [] (by kernel_rfl) rfl (by kernel_rfl))))))))
      ·have q := si h1; subst q
       exact kw rfl (kw rfl (kw rfl (s1 (pkf rfl rfl) (sa rfl (SO.nil ((wc [] [] (by kernel_rfl) rfl (by kernel_rfl))))))))
     ·rintro y16 h0
      have q := si h0; subst q
      exact SC.ret (finR (Wk.refl _) (lresT rfl lresN) rfl)
    ·refine sr (s1 (bi rfl rfl q_i64_eql) (sa rfl (sn (cB h0 rfl (fun h0 => ?_) (fun h0 => ?_)))))
     ·refine SC.seqP h0 (fun y => ⟨mk 53 [(2, .d (eB y))], []⟩) ?_ ?_
      ·intro u1_19 h1
       refine SC.region (s1 (far (k := 1) rfl fo40_1 ts38 rfl) (s1 (lod rfl (ld_box ts38 ta38 rfl rfl)) (s1 (bi rfl rfl (q_u64_eql (b := (0 : UInt64)))) (sm rfl (sp h1 (fun h1 => ?_) (fun h1 => ?_))))))
       ·have q := si h1; subst q
        exact gw rfl (far (k := 2) rfl fo40_2 ts9 rfl) (gw rfl (lod rfl (ld_box ts9 ta9 rfl rfl)) (gw rfl (len rfl rfl rfl (len_str un9)) (gw rfl (bi rfl rfl q_i64_leq) (s1 (pkt rfl rfl) (sa rfl (SO.nil ((wc [] [] (by kernel_rfl) rfl (by kernel_rfl)))))))))
       ·have q := si h1; subst q
        exact kw rfl (kw rfl (kw rfl (kw rfl (s1 (pkf rfl rfl) (sa rfl (SO.nil ((wc [] [] (by kernel_rfl) rfl (by kernel_rfl)))))))))
      ·rintro y18 h0
       have q := si h0; subst q
       exact SC.ret (finR (Wk.refl _) (lresT rfl lresN) rfl)
     ·refine sr (s1 (bi rfl rfl q_i64_eql) (sa rfl (sn (cB h0 rfl (fun h0 => ?_) (fun h0 => ?_)))))
      ·refine SC.seqP h0 (fun y => ⟨mk 53 [(2, .d (eB y))], []⟩) ?_ ?_
       ·intro u1_23 h1
        refine SC.region (s1 (far (k := 1) rfl fo40_1 ts38 rfl) (s1 (lod rfl (ld_box ts38 ta38 rfl rfl)) (s1 (bi rfl rfl (q_u64_eql (b := (0 : UInt64)))) (sm rfl (sp h1 (fun h1 => ?_) (fun h1 => ?_))))))
        ·refine gw rfl (far (k := 2) rfl fo40_2 ts9 rfl) (gw rfl (lod rfl (ld_box ts9 ta9 rfl rfl)) (gw rfl (len rfl rfl rfl (len_str un9)) (gw rfl (bi rfl rfl q_i64_leq) (s1 (pkt rfl rfl) (sm rfl (sp h1 (fun h1 => ?_) (fun h1 => ?_)))))))
         ·obtain ⟨r24, hq25, h1⟩ := ob h1; have q := si h1; subst q
          exact gw rfl (far (k := 2) rfl fo40_2 ts9 rfl) (gw rfl (lod rfl (ld_box ts9 ta9 rfl rfl)) (c0 (valid_ok p0.S _ hq25) (ww rfl) rfl rfl rfl cb82 rfl (fun _ => rfl) (fun _ => rfl) (s1 (pkt rfl rfl) (sa rfl (SO.nil ((wc [] [] (by kernel_rfl) rfl (by kernel_rfl))))))))
         ·have q := si h1; subst q
          exact kw rfl (kw rfl (kw rfl (s1 (pkf rfl rfl) (sa rfl (SO.nil ((wc [] [] (by kernel_rfl) rfl (by kernel_rfl))))))))
        ·have q := si h1; subst q
         refine kw rfl (kw rfl (kw rfl (kw rfl (s1 (pkf rfl rfl) (sm rfl (kw rfl (kw rfl (kw rfl (s1 (pkf rfl rfl) ?_)))))))))
         exact sa rfl (SO.nil ((wc [] [] (by kernel_rfl) rfl (by kernel_rfl))))
       ·rintro y22 h0
        have q := si h0; subst q
        exact SC.ret (finR (Wk.refl _) (lresT rfl lresN) rfl)
      ·refine SC.skip ?_
       change SC _ _ _ _ _
       have q := si h0; subst q
       exact sr (sa rfl (sn (SC.ret (finR (wc (e' := [(2, .d (eB false))]) [] [] (by kernel_rfl) rfl (by kernel_rfl)) (lresT rfl lresN) rfl))))
noncomputable def value_Fits (p0 : ApiColumn) (p1 : ApiValue) : Option Int :=
 Option.bind (value_Valid p1) fun r10 =>
 bif (!r10) then
 some (8 : Int)
 else
 bif (p1.Kind == (0 : Int)) then
 bif p0.Nulls then
 some (0 : Int)
 else
 some (8 : Int)
 else
 bif (p1.Kind != p0.Kind) then
 some (8 : Int)
 else
 Option.bind (α := Bool)
 (Option.bind (value_long p1.Kind) fun r16 =>
 bif r16 then
 some (decide ((p1.S.length : Int) > p0.Max))
 else
 some false)
 fun y14 =>
 bif y14 then
 some (7 : Int)
 else
 some (0 : Int)
theorem value_Fits_ok (p0 : ApiColumn) (p1 : ApiValue) (r : Int) (h0 : value_Fits p0 p1 = some r) : CallAt Tryz.prog 65 [.d (eApiColumn p0), .d (eApiValue p1)] [] (.d (eI r)) [] := by
 unfold value_Fits at h0
 refine fn0 [0, 1] Tryz.func65 rfl rfl rfl rfl rfl ?_
 obtain ⟨r10, hq11, h0⟩ := ob h0
 refine sr (s1 (bxo (k := 0) rfl rfl rfl) (s1 (bxo (k := 1) rfl rfl rfl) (sa rfl (sn (sq (SC.blk (sr (s1 (lod (v := .d (eApiValue p1)) rfl (ld_box ts40 ta40 rfl rfl)) (c0 (value_Valid_ok p1 _ hq11) wf rfl rfl rfl cb74 rfl (fun _ => rfl) (fun _ => rfl) ?_)))))))))
 refine s1 (nt rfl) (sa rfl (sn (cB h0 rfl (fun h0 => ?_) (fun h0 => ?_))))
 ·have q := si h0; subst q
  exact sr (sa rfl (sn (SC.ret (finR (wc (e' := [(4, .d (eI (8 : Int)))]) [] [] (by kernel_rfl) rfl (by kernel_rfl)) (lresT rfl lresN) rfl))))
 ·refine sr (s1 (far (k := 0) rfl fo40_0 ts3 rfl) (s1 (lod rfl (ld_box ts3 ta3 rfl rfl)) (s1 (bi rfl rfl q_i64_eql) (sa rfl (sn (cB h0 rfl (fun h0 => ?_) (fun h0 => ?_)))))))
  ·refine sq (sr (s1 (far (k := 3) rfl fo42_3 ts4 rfl) (s1 (lod rfl (ld_box ts4 ta4 rfl rfl)) (sn (cB h0 rfl (fun h0 => ?_) (fun h0 => ?_))))))
   ·have q := si h0; subst q
    exact sr (sa rfl (sn (SC.ret (finR (wc (e' := [(4, .d (eI (0 : Int)))]) [] [] (by kernel_rfl) rfl (by kernel_rfl)) (lresT rfl lresN) rfl))))
   ·have q := si h0; subst q
    exact sk (sr (sa rfl (sn (SC.ret (finR (wc (e' := [(4, .d (eI (8 : Int)))]) [] [] (by kernel_rfl) rfl (by kernel_rfl)) (lresT rfl lresN) rfl)))))
  ·refine sr (s1 (far (k := 0) rfl fo40_0 ts3 rfl) (s1 (lod rfl (ld_box ts3 ta3 rfl rfl)) (s1 (far (k := 1) rfl fo42_1 ts3 rfl) (s1 (lod rfl (ld_box ts3 ta3 rfl rfl)) (s1 (bi rfl rfl q_i64_neq) (sa rfl (sn (cB h0 rfl (fun h0 => ?_) (fun h0 => ?_)))))))))
   ·have q := si h0; subst q
    exact sr (sa rfl (sn (SC.ret (finR (wc (e' := [(4, .d (eI (8 : Int)))]) [] [] (by kernel_rfl) rfl (by kernel_rfl)) (lresT rfl lresN) rfl))))
   ·refine SC.seqP h0 (fun y => ⟨mk 33 [(21, .d (eB y))], []⟩) ?_ ?_
    ·intro u1_15 h1
     obtain ⟨r16, hq17, h1⟩ := ob h1
     refine SC.region (s1 (far (k := 0) rfl fo40_0 ts3 rfl) (s1 (lod rfl (ld_box ts3 ta3 rfl rfl)) (c0 (value_long_ok p1.Kind _ hq17) wf rfl rfl rfl cb64 rfl (fun _ => rfl) (fun _ => rfl) (sm rfl (sp h1 (fun h1 => ?_) (fun h1 => ?_))))))
     ·have q := si h1; subst q
      exact gw rfl (far (k := 2) rfl fo40_2 ts9 rfl) (gw rfl (lod rfl (ld_box ts9 ta9 rfl rfl)) (gw rfl (len rfl rfl rfl (len_str un9)) (gw rfl (far (k := 2) rfl fo42_2 ts3 rfl) (gw rfl (lod rfl (ld_box ts3 ta3 rfl rfl)) (gw rfl (bi rfl rfl q_i64_gtr) (s1 (pkt rfl rfl) (sa rfl (SO.nil ((wc [] [] (by kernel_rfl) rfl (by kernel_rfl)))))))))))
     ·have q := si h1; subst q
      exact kw rfl (kw rfl (kw rfl (kw rfl (kw rfl (kw rfl (s1 (pkf rfl rfl) (sa rfl (SO.nil ((wc [] [] (by kernel_rfl) rfl (by kernel_rfl)))))))))))
    ·rintro y14 h0
     refine cB h0 rfl (fun h0 => ?_) (fun h0 => ?_)
     ·have q := si h0; subst q
      exact sr (sa rfl (sn (SC.ret (finR (Wk.refl _) (lresT rfl lresN) rfl))))
     ·refine SC.skip ?_
      change SC _ _ _ _ _
      have q := si h0; subst q
      exact sr (sa rfl (sn (SC.ret (finR (Wk.refl _) (lresT rfl lresN) rfl))))
noncomputable def value_Column (p0 : ApiColumn) : Option Int :=
 Option.bind (value_Name p0.Name) fun r22 =>
 bif (!r22) then
 some (1 : Int)
 else
 Option.bind (α := Bool)
 (bif (decide (p0.Kind < (1 : Int))) then
 some true
 else
 some (decide (p0.Kind > (5 : Int))))
 fun y24 =>
 bif y24 then
 some (8 : Int)
 else
 Option.bind (α := Bool)
 (Option.bind (value_long p0.Kind) fun r34 =>
 bif r34 then
 bif (decide (p0.Max < (1 : Int))) then
 some true
 else
 bif (decide (p0.Max > (64 : Int))) then
 some true
 else
 Option.bind (value_long p0.Kind) fun r36 =>
 bif (!r36) then
 some (p0.Max != (0 : Int))
 else
 some false
 else
 Option.bind (value_long p0.Kind) fun r38 =>
 bif (!r38) then
 some (p0.Max != (0 : Int))
 else
 some false)
 fun y32 =>
 bif y32 then
 some (7 : Int)
 else
 Option.bind (value_Fits p0 p0.Default) fun r40 =>
 some r40
theorem value_Column_ok (p0 : ApiColumn) (r : Int) (h0 : value_Column p0 = some r) : CallAt Tryz.prog 53 [.d (eApiColumn p0)] [] (.d (eI r)) [] := by
 unfold value_Column at h0
 refine fn0 [0] Tryz.func53 rfl rfl rfl rfl rfl ?_
 obtain ⟨r22, hq23, h0⟩ := ob h0
 refine sr (s1 (bxo (k := 0) rfl rfl rfl) (sa rfl (sn (sq (SC.blk (sr (s1 (far (k := 0) rfl fo42_0 ts9 rfl) (s1 (lod rfl (ld_box ts9 ta9 rfl rfl)) (c0 (value_Name_ok p0.Name _ hq23) wf rfl rfl rfl cb33 rfl (fun _ => rfl) (fun _ => rfl) ?_)))))))))
 refine s1 (nt rfl) (sa rfl (sn (cB h0 rfl (fun h0 => ?_) (fun h0 => ?_))))
 ·have q := si h0; subst q
  exact sr (sa rfl (sn (SC.ret (finR (wc (e' := [(2, .d (eI (1 : Int)))]) [] [] (by kernel_rfl) rfl (by kernel_rfl)) (lresT rfl lresN) rfl))))
 ·refine SC.seqP h0 (fun y => ⟨mk 46 [(1, .ref 0 0 0), (8, .d (eB y))], [.box (.d (eApiColumn p0))]⟩) ?_ ?_
  ·intro u1_25 h1
   refine SC.region (s1 (far (k := 1) rfl fo42_1 ts3 rfl) (s1 (lod rfl (ld_box ts3 ta3 rfl rfl)) (s1 (bi rfl rfl q_i64_lss) (sm rfl (sp h1 (fun h1 => ?_) (fun h1 => ?_))))))
   ·have q := si h1; subst q
    exact kw rfl (kw rfl (kw rfl (s1 (pkt rfl rfl) (sa rfl (SO.nil ((wq rfl)))))))
   ·have q := si h1; subst q
    exact gw rfl (far (k := 1) rfl fo42_1 ts3 rfl) (gw rfl (lod rfl (ld_box ts3 ta3 rfl rfl)) (gw rfl (bi rfl rfl q_i64_gtr) (s1 (pkf rfl rfl) (sa rfl (SO.nil ((wq rfl)))))))
  ·rintro y24 h0
   refine cB h0 rfl (fun h0 => ?_) (fun h0 => ?_)
   ·have q := si h0; subst q
    exact sr (sa rfl (sn (SC.ret (finR (wc (e' := [(2, .d (eI (8 : Int)))]) [] [] (by kernel_rfl) rfl (by kernel_rfl)) (lresT rfl lresN) rfl))))
   ·refine SC.seqP h0 (fun y => ⟨mk 46 [(1, .ref 0 0 0), (17, .d (eB y))], [.box (.d (eApiColumn p0))]⟩) ?_ ?_
    ·intro u1_33 h1
     obtain ⟨r34, hq35, h1⟩ := ob h1
     refine SC.region (s1 (far (k := 1) rfl fo42_1 ts3 rfl) (s1 (lod rfl (ld_box ts3 ta3 rfl rfl)) (c0 (value_long_ok p0.Kind _ hq35) wf rfl rfl rfl cb64 rfl (fun _ => rfl) (fun _ => rfl) (sm rfl (sp h1 (fun h1 => ?_) (fun h1 => ?_))))))
     ·refine gw rfl (far (k := 2) rfl fo42_2 ts3 rfl) (gw rfl (lod rfl (ld_box ts3 ta3 rfl rfl)) (gw rfl (bi rfl rfl q_i64_lss) (gw rfl (mv rfl) (sp h1 (fun h1 => ?_) (fun h1 => ?_)))))
      ·have q := si h1; subst q
       refine kw rfl (kw rfl (kw rfl (gw rfl (pkt rfl rfl) (s1 (pkt rfl rfl) (sm rfl (kw rfl (kw rfl (kw rfl (kw rfl ?_)))))))))
       exact kw rfl (kw rfl (kw rfl (kw rfl (kw rfl (s1 (pkt rfl rfl) (sa rfl (SO.nil ((wq rfl)))))))))
      ·refine gw rfl (far (k := 2) rfl fo42_2 ts3 rfl) (gw rfl (lod rfl (ld_box ts3 ta3 rfl rfl)) (gw rfl (bi rfl rfl q_i64_gtr) (gw rfl (pkf rfl rfl) (s1 (pkt rfl rfl) (sm rfl (sp h1 (fun h1 => ?_) (fun h1 => ?_)))))))
       ·have q := si h1; subst q
        refine kw rfl (kw rfl (kw rfl (kw rfl (kw rfl (kw rfl (kw rfl (kw rfl (kw rfl (s1 (pkt rfl rfl) ?_)))))))))
        exact sa rfl (SO.nil ((wq rfl)))
       ·obtain ⟨r36, hq37, h1⟩ := ob h1
        refine gw rfl (far (k := 1) rfl fo42_1 ts3 rfl) (gw rfl (lod rfl (ld_box ts3 ta3 rfl rfl)) (c0 (value_long_ok p0.Kind _ hq37) (ww rfl) rfl rfl rfl cb64 rfl (fun _ => rfl) (fun _ => rfl) (gw rfl (nt rfl) (gw rfl (mv rfl) (sp h1 (fun h1 => ?_) (fun h1 => ?_))))))
        ·have q := si h1; subst q
         exact gw rfl (far (k := 2) rfl fo42_2 ts3 rfl) (gw rfl (lod rfl (ld_box ts3 ta3 rfl rfl)) (gw rfl (bi rfl rfl q_i64_neq) (gw rfl (pkt rfl rfl) (s1 (pkf rfl rfl) (sa rfl (SO.nil ((wq rfl))))))))
        ·have q := si h1; subst q
         exact kw rfl (kw rfl (kw rfl (gw rfl (pkf rfl rfl) (s1 (pkf rfl rfl) (sa rfl (SO.nil ((wq rfl))))))))
     ·obtain ⟨r38, hq39, h1⟩ := ob h1
      refine kw rfl (kw rfl (kw rfl (kw rfl (kw rfl (kw rfl (kw rfl (kw rfl (s1 (pkf rfl rfl) (sm rfl ?_)))))))))
      refine gw rfl (far (k := 1) rfl fo42_1 ts3 rfl) (gw rfl (lod rfl (ld_box ts3 ta3 rfl rfl)) (c0 (value_long_ok p0.Kind _ hq39) (ww rfl) rfl rfl rfl cb64 rfl (fun _ => rfl) (fun _ => rfl) (gw rfl (nt rfl) (gw rfl (mv rfl) (sp h1 (fun h1 => ?_) (fun h1 => ?_))))))
      ·have q := si h1; subst q
       exact gw rfl (far (k := 2) rfl fo42_2 ts3 rfl) (gw rfl (lod rfl (ld_box ts3 ta3 rfl rfl)) (gw rfl (bi rfl rfl q_i64_neq) (gw rfl (pkt rfl rfl) (s1 (pkf rfl rfl) (sa rfl (SO.nil ((wq rfl))))))))
      ·have q := si h1; subst q
       exact kw rfl (kw rfl (kw rfl (gw rfl (pkf rfl rfl) (s1 (pkf rfl rfl) (sa rfl (SO.nil ((wq rfl))))))))
    ·rintro y32 h0
     refine cB h0 rfl (fun h0 => ?_) (fun h0 => ?_)
     ·have q := si h0; subst q
      exact sr (sa rfl (sn (SC.ret (finR (wc (e' := [(2, .d (eI (7 : Int)))]) [] [] (by kernel_rfl) rfl (by kernel_rfl)) (lresT rfl lresN) rfl))))
     ·refine SC.skip ?_
      change SC _ _ _ _ _
      obtain ⟨r40, hq41, h0⟩ := ob h0; have q := si h0; subst q
      exact sr (s1 (lod (v := .d (eApiColumn p0)) rfl (ld_box ts42 ta42 rfl rfl)) (s1 (far (k := 4) rfl fo42_4 ts40 rfl) (s1 (lod (v := .d (eApiValue p0.Default)) rfl (ld_box ts40 ta40 rfl rfl)) (c0 (value_Fits_ok p0 p0.Default _ hq41) wf rfl rfl rfl cb65 rfl (fun _ => rfl) (fun _ => rfl) (sa rfl (sn (SC.ret (finR (wc (e' := [(2, .d (eI r40))]) [] [] (by kernel_rfl) rfl (by kernel_rfl)) (lresT rfl lresN) rfl))))))))
noncomputable def row_columns_1 (p0 : ApiColumn) : Option Bool :=
 Option.bind (value_Column p0) fun r4 =>
 some (r4 != (0 : Int))
theorem row_columns_1_ok (p0 : ApiColumn) (r : Bool) (h0 : row_columns_1 p0 = some r) : CallAt Tryz.prog 79 [.d (eApiColumn p0)] [] (.d (eB r)) [] := by
 unfold row_columns_1 at h0
 refine fn0 [0] Tryz.func79 rfl rfl rfl rfl rfl ?_
 obtain ⟨r4, hq5, h0⟩ := ob h0; have q := si h0; subst q
 refine sr (s1 (bxo (k := 0) rfl rfl rfl) (sa rfl (sn (sr (s1 (lod (v := .d (eApiColumn p0)) rfl (ld_box ts42 ta42 rfl rfl)) (c0 (value_Column_ok p0 _ hq5) wf rfl rfl rfl cb53 rfl (fun _ => rfl) (fun _ => rfl) (s1 (bi rfl rfl q_i64_neq) (sa rfl (sn ?_)))))))))
 exact SC.ret (finR (wc (e' := [(2, .d (eB (r4 != (0 : Int))))]) [] [] (by kernel_rfl) rfl (by kernel_rfl)) (lresT rfl lresN) rfl)
noncomputable def slices_IndexFunc_api_Column_api_Column (p0 : List ApiColumn) : Option Int :=
 bindE (Y := Unit) (E := Int)
 (Option.bind (α := Unit ⊕ Int)
 (loop (Y := Int) (W := Unit ⊕ Int) (fun y49 =>
 bif (decide (y49 < (p0.length : Int))) then
 Option.bind (getI p0 y49) fun v56 =>
 Option.bind (row_columns_1 v56) fun r57 =>
 bif r57 then
 some (Sum.inr (Sum.inr y49))
 else
 some (Sum.inl (w64 (y49 + (1 : Int))))
 else
 some (Sum.inr (Sum.inl ()))) (0 : Int))
 (Sum.elim (fun e => some (Sum.inl e)) (fun e => some (Sum.inr e))))
 (fun _ =>
 some (-1 : Int))
 (fun e => some e)
theorem slices_IndexFunc_api_Column_api_Column_ok (p0 : List ApiColumn) (r : Int) (h0 : slices_IndexFunc_api_Column_api_Column p0 = some r) : CallAt Tryz.prog 86 [.d ((eL 7 eApiColumn) p0), .fn (.func 79) [] []] [] (.d (eI r)) [] := by
 unfold slices_IndexFunc_api_Column_api_Column at h0
 refine fn0 [0, 1] Tryz.func86 rfl rfl rfl rfl rfl ?_
 refine sr (sa rfl (sn (SC.seqB h0 (fun y => ⟨mk 19 [], []⟩) ?_ ?_)))
 ·intro u1_45 h1 h0
  obtain ⟨u2_55, h2, h1⟩ := ob h1
  refine sr (sm rfl (s1 (len rfl rfl rfl (len_lst un22)) (sm rfl (sn (SC.blk (SC.loopB h2 (fun y => ⟨mk 19 [(0, .d ((eL 7 eApiColumn) p0)), (1, .fn (.func 79) [] []), (7, .d (eI (p0.length : Int))), (8, .d (eI y))], []⟩) (wq rfl) ?_))))))
  intro n59
  rintro y49 w2_54 h3 hv3
  refine sr (s1 (bi rfl rfl q_i64_lss) (sn (sq (cB h3 rfl (fun h3 => ?_) (fun h3 => ?_)))))
  ·obtain ⟨v56, hv56, h3⟩ := ob h3; obtain ⟨r57, hq58, h3⟩ := ob h3
   refine sk (sq (SC.blk (sr (sm rfl (sa rfl (sn (sr (sm rfl (sm rfl ?_)))))))))
   refine sm rfl (s1 (ial rfl rfl un22 ts42 (getI_some hv56).1 (map_get (getI_some hv56).2) rfl) (s1 (lod (v := .d (eApiColumn v56)) rfl (ld_rop ts42 ta42 rfl)) (c0 (row_columns_1_ok v56 _ hq58) wf rfl rfl rfl cb79 rfl (fun _ => rfl) (fun _ => rfl) (sn (cB h3 rfl (fun h3 => ?_) (fun h3 => ?_))))))
   ·have q := si h3; subst q; have q : _ = _ := hv3; subst q; have q := si h1; subst q; have q := si h0; subst q
    exact sr (sm rfl (sa rfl (sn (SC.ret (finR (Wk.refl _) (lresT rfl lresN) rfl)))))
   ·refine SC.skip ?_
    change SC _ _ _ _ _
    have q := si h3; subst q
    exact SC.region (s1 (bi rfl rfl q_i64_add) (sm rfl (SO.nil (lf (wq rfl)))))
  ·have q := si h3; subst q; have q : _ = _ := hv3; subst q; have q := si h1; subst q
   exact SC.exit (lf (wq rfl))
 ·intro _ h0
  have q := si h0; subst q
  exact sr (sa rfl (sn (SC.ret (finR (Wk.refl _) (lresT rfl lresN) rfl))))
noncomputable def slices_ContainsFunc_api_Column_api_Column (p0 : List ApiColumn) : Option Bool :=
 Option.bind (slices_IndexFunc_api_Column_api_Column p0) fun r4 =>
 some (decide (r4 ≥ (0 : Int)))
theorem slices_ContainsFunc_api_Column_api_Column_ok (p0 : List ApiColumn) (r : Bool) (h0 : slices_ContainsFunc_api_Column_api_Column p0 = some r) : CallAt Tryz.prog 78 [.d ((eL 7 eApiColumn) p0), .fn (.func 79) [] []] [] (.d (eB r)) [] := by
 unfold slices_ContainsFunc_api_Column_api_Column at h0
 refine fn0 [0, 1] Tryz.func78 rfl rfl rfl rfl rfl ?_
 obtain ⟨r4, hq5, h0⟩ := ob h0; have q := si h0; subst q
 refine sr (sa rfl (sn (sr (sm rfl (sm rfl (c0 (slices_IndexFunc_api_Column_api_Column_ok p0 _ hq5) wf rfl rfl rfl cb86 rfl (fun _ => rfl) (fun _ => rfl) (s1 (bi rfl rfl q_i64_geq) (sa rfl (sn ?_)))))))))
 exact SC.ret (finR (Wk.refl _) (lresT rfl lresN) rfl)
noncomputable def row_columns (p0 : List ApiColumn) : Option Bool :=
 Option.bind (α := Bool)
 (bif (decide ((p0.length : Int) ≥ (1 : Int))) then
 bif (decide ((p0.length : Int) ≤ (24 : Int))) then
 Option.bind (slices_ContainsFunc_api_Column_api_Column p0) fun r12 =>
 some (!r12)
 else
 some false
 else
 some false)
 fun y10 =>
 some y10
theorem row_columns_ok (p0 : List ApiColumn) (r : Bool) (h0 : row_columns p0 = some r) : CallAt Tryz.prog 68 [.d ((eL 7 eApiColumn) p0)] [] (.d (eB r)) [] := by
 unfold row_columns at h0
 refine fn0 [0] Tryz.func68 rfl rfl rfl rfl rfl ?_
 refine sr (sa rfl (sn (SC.seqP h0 (fun y => ⟨mk 16 [(2, .d (eB y))], []⟩) ?_ ?_)))
 ·intro u1_11 h1
  refine SC.region (sm rfl (s1 (len rfl rfl rfl (len_lst un22)) (s1 (bi rfl rfl q_i64_geq) (sm rfl (sp h1 (fun h1 => ?_) (fun h1 => ?_))))))
  ·refine gw rfl (mv rfl) (gw rfl (len rfl rfl rfl (len_lst un22)) (gw rfl (bi rfl rfl q_i64_leq) (s1 (pkt rfl rfl) (sm rfl (sp h1 (fun h1 => ?_) (fun h1 => ?_))))))
   ·obtain ⟨r12, hq13, h1⟩ := ob h1; have q := si h1; subst q
    exact gw rfl (mv rfl) (c0 (slices_ContainsFunc_api_Column_api_Column_ok p0 _ hq13) (ww rfl) rfl rfl rfl cb78 rfl (fun _ => rfl) (fun _ => rfl) (gw rfl (nt rfl) (s1 (pkt rfl rfl) (sa rfl (SO.nil ((wq rfl)))))))
   ·have q := si h1; subst q
    exact kw rfl (kw rfl (kw rfl (s1 (pkf rfl rfl) (sa rfl (SO.nil ((wq rfl)))))))
  ·have q := si h1; subst q
   refine kw rfl (kw rfl (kw rfl (s1 (pkf rfl rfl) (sm rfl (kw rfl (kw rfl (kw rfl (s1 (pkf rfl rfl) (sa rfl ?_)))))))))
   exact SO.nil ((wq rfl))
 ·rintro y10 h0
  have q := si h0; subst q
  exact SC.ret (finR (Wk.refl _) (lresT rfl lresN) rfl)
noncomputable def row_Fits (p0 : List ApiColumn) (p1 : List ApiValue) : Option Int :=
 Option.bind (α := Bool)
 (Option.bind (row_columns p0) fun r47 =>
 bif (!r47) then
 some true
 else
 some ((p1.length : Int) != (p0.length : Int)))
 fun y45 =>
 bif y45 then
 some (1 : Int)
 else
 bindE (Y := Unit) (E := Int)
 (Option.bind (α := Unit ⊕ Int)
 (loop (Y := Int) (W := Unit ⊕ Int) (fun y71 =>
 bif (decide (y71 < (p1.length : Int))) then
 Option.bind (getI p1 y71) fun v79 =>
 Option.bind (getI p0 y71) fun v80 =>
 Option.bind (value_Fits v80 v79) fun r81 =>
 bif (r81 != (0 : Int)) then
 some (Sum.inr (Sum.inr r81))
 else
 some (Sum.inl (w64 (y71 + (1 : Int))))
 else
 some (Sum.inr (Sum.inl ()))) (0 : Int))
 (Sum.elim (fun e => some (Sum.inl e)) (fun e => some (Sum.inr e))))
 (fun _ =>
 some (0 : Int))
 (fun e => some e)
theorem row_Fits_ok (p0 : List ApiColumn) (p1 : List ApiValue) (r : Int) (h0 : row_Fits p0 p1 = some r) : CallAt Tryz.prog 59 [.d ((eL 7 eApiColumn) p0), .d ((eL 3 eApiValue) p1)] [] (.d (eI r)) [] := by
 unfold row_Fits at h0
 refine fn0 [0, 1] Tryz.func59 rfl rfl rfl rfl rfl ?_
 refine sr (sa rfl (sn (sq (SC.seqP h0 (fun y => ⟨mk 35 [(0, .d ((eL 7 eApiColumn) p0)), (1, .d ((eL 3 eApiValue) p1)), (17, .d (eB y))], []⟩) ?_ ?_))))
 ·intro u1_46 h1
  obtain ⟨r47, hq48, h1⟩ := ob h1
  refine SC.region (sm rfl (c0 (row_columns_ok p0 _ hq48) wf rfl rfl rfl cb68 rfl (fun _ => rfl) (fun _ => rfl) (s1 (nt rfl) (sm rfl (sp h1 (fun h1 => ?_) (fun h1 => ?_))))))
  ·have q := si h1; subst q
   exact kw rfl (kw rfl (kw rfl (kw rfl (kw rfl (s1 (pkt rfl rfl) (SO.nil ((wq rfl))))))))
  ·have q := si h1; subst q
   exact gw rfl (mv rfl) (gw rfl (len rfl rfl rfl (len_lst un55)) (gw rfl (mv rfl) (gw rfl (len rfl rfl rfl (len_lst un22)) (gw rfl (bi rfl rfl q_i64_neq) (s1 (pkf rfl rfl) (SO.nil ((wq rfl))))))))
 ·rintro y45 h0
  refine cB h0 rfl (fun h0 => ?_) (fun h0 => ?_)
  ·have q := si h0; subst q
   exact sr (sa rfl (sn (SC.ret (finR (Wk.refl _) (lresT rfl lresN) rfl))))
  ·refine sk (SC.seqB h0 (fun y => ⟨mk 35 [], []⟩) ?_ ?_)
   ·intro u1_66 h1 h0
    obtain ⟨u2_78, h2, h1⟩ := ob h1
    refine sr (sm rfl (s1 (len rfl rfl rfl (len_lst un55)) (sm rfl (sn (SC.blk (SC.loopB h2 (fun y => ⟨mk 35 [(0, .d ((eL 7 eApiColumn) p0)), (18, .d ((eL 3 eApiValue) p1)), (19, .d (eI (p1.length : Int))), (20, .d (eI y))], []⟩) (wq rfl) ?_))))))
    intro n83
    rintro y71 w2_77 h3 hv3
    refine sr (s1 (bi rfl rfl q_i64_lss) (sn (sq (cB h3 rfl (fun h3 => ?_) (fun h3 => ?_)))))
    ·obtain ⟨v79, hv79, h3⟩ := ob h3; obtain ⟨v80, hv80, h3⟩ := ob h3; obtain ⟨r81, hq82, h3⟩ := ob h3
     refine sk (sq (SC.blk (sr (sm rfl (s1 (ial rfl rfl un55 ts40 (getI_some hv79).1 (map_get (getI_some hv79).2) rfl) (s1 (lod (v := .d (eApiValue v79)) rfl (ld_rop ts40 ta40 rfl)) (s1 (alo (k := 0) zo40 rfl) (sa rfl (s0 (sto rfl rfl (sB (d' := .d (eApiValue v79)) ts40 rfl rfl rfl rfl rfl rfl rfl)) ?_)))))))))
     refine sn (sd (by kernel_rfl) (t1 ([], false) (mv rfl) rfl (t1 ([], false) (mv rfl) rfl (t1 ([], false) (ial rfl rfl un22 ts42 (getI_some hv80).1 (map_get (getI_some hv80).2) rfl) rfl (t1 ([], false) (lod (v := .d (eApiColumn v80)) rfl (ld_rop ts42 ta42 rfl)) rfl (t1 ([0], false) (lod (v := .d (eApiValue v79)) rfl (ld_box ts40 ta40 rfl rfl)) rfl (tc0 (value_Fits_ok v80 v79 _ hq82) wf rfl rfl rfl cb65 rfl (fun _ => rfl) (fun _ => rfl) (t1 ([], false) (asg rfl) rfl (tn (by decide +kernel) ?_)))))))))
     refine sr (sm rfl (s1 (bi rfl rfl q_i64_neq) (sn (cB h3 rfl (fun h3 => ?_) (fun h3 => ?_)))))
     ·have q := si h3; subst q; have q : _ = _ := hv3; subst q; have q := si h1; subst q; have q := si h0; subst q
      exact sr (sm rfl (sa rfl (sn (SC.ret (finR (wc (e' := [(4, .d (eI r81))]) [] [] (by kernel_rfl) rfl (by kernel_rfl)) (lresT rfl lresN) rfl)))))
     ·refine SC.skip ?_
      change SC _ _ _ _ _
      have q := si h3; subst q
      exact SC.region (s1 (bi rfl rfl q_i64_add) (sm rfl (SO.nil (lf (wc [] [] (by kernel_rfl) rfl (by kernel_rfl))))))
    ·have q := si h3; subst q; have q : _ = _ := hv3; subst q; have q := si h1; subst q
     exact SC.exit (lf (wq rfl))
   ·intro _ h0
    have q := si h0; subst q
    exact sr (sa rfl (sn (SC.ret (finR (Wk.refl _) (lresT rfl lresN) rfl))))
noncomputable def key_Encode_1 (p0 : ApiValue) : Option Bool :=
 Option.bind (value_Valid p0) fun r4 =>
 some (!r4)
theorem key_Encode_1_ok (p0 : ApiValue) (r : Bool) (h0 : key_Encode_1 p0 = some r) : CallAt Tryz.prog 76 [.d (eApiValue p0)] [] (.d (eB r)) [] := by
 unfold key_Encode_1 at h0
 refine fn0 [0] Tryz.func76 rfl rfl rfl rfl rfl ?_
 obtain ⟨r4, hq5, h0⟩ := ob h0; have q := si h0; subst q
 refine sr (s1 (bxo (k := 0) rfl rfl rfl) (sa rfl (sn (sr (s1 (lod (v := .d (eApiValue p0)) rfl (ld_box ts40 ta40 rfl rfl)) (c0 (value_Valid_ok p0 _ hq5) wf rfl rfl rfl cb74 rfl (fun _ => rfl) (fun _ => rfl) (s1 (nt rfl) (sa rfl (sn ?_)))))))))
 exact SC.ret (finR (wc (e' := [(2, .d (eB (!r4)))]) [] [] (by kernel_rfl) rfl (by kernel_rfl)) (lresT rfl lresN) rfl)
noncomputable def slices_IndexFunc_api_Value_api_Value (p0 : List ApiValue) : Option Int :=
 bindE (Y := Unit) (E := Int)
 (Option.bind (α := Unit ⊕ Int)
 (loop (Y := Int) (W := Unit ⊕ Int) (fun y49 =>
 bif (decide (y49 < (p0.length : Int))) then
 Option.bind (getI p0 y49) fun v56 =>
 Option.bind (key_Encode_1 v56) fun r57 =>
 bif r57 then
 some (Sum.inr (Sum.inr y49))
 else
 some (Sum.inl (w64 (y49 + (1 : Int))))
 else
 some (Sum.inr (Sum.inl ()))) (0 : Int))
 (Sum.elim (fun e => some (Sum.inl e)) (fun e => some (Sum.inr e))))
 (fun _ =>
 some (-1 : Int))
 (fun e => some e)
theorem slices_IndexFunc_api_Value_api_Value_ok (p0 : List ApiValue) (r : Int) (h0 : slices_IndexFunc_api_Value_api_Value p0 = some r) : CallAt Tryz.prog 83 [.d ((eL 3 eApiValue) p0), .fn (.func 76) [] []] [] (.d (eI r)) [] := by
 unfold slices_IndexFunc_api_Value_api_Value at h0
 refine fn0 [0, 1] Tryz.func83 rfl rfl rfl rfl rfl ?_
 refine sr (sa rfl (sn (SC.seqB h0 (fun y => ⟨mk 19 [], []⟩) ?_ ?_)))
 ·intro u1_45 h1 h0
  obtain ⟨u2_55, h2, h1⟩ := ob h1
  refine sr (sm rfl (s1 (len rfl rfl rfl (len_lst un55)) (sm rfl (sn (SC.blk (SC.loopB h2 (fun y => ⟨mk 19 [(0, .d ((eL 3 eApiValue) p0)), (1, .fn (.func 76) [] []), (7, .d (eI (p0.length : Int))), (8, .d (eI y))], []⟩) (wq rfl) ?_))))))
  intro n59
  rintro y49 w2_54 h3 hv3
  refine sr (s1 (bi rfl rfl q_i64_lss) (sn (sq (cB h3 rfl (fun h3 => ?_) (fun h3 => ?_)))))
  ·obtain ⟨v56, hv56, h3⟩ := ob h3; obtain ⟨r57, hq58, h3⟩ := ob h3
   refine sk (sq (SC.blk (sr (sm rfl (sa rfl (sn (sr (sm rfl (sm rfl ?_)))))))))
   refine sm rfl (s1 (ial rfl rfl un55 ts40 (getI_some hv56).1 (map_get (getI_some hv56).2) rfl) (s1 (lod (v := .d (eApiValue v56)) rfl (ld_rop ts40 ta40 rfl)) (c0 (key_Encode_1_ok v56 _ hq58) wf rfl rfl rfl cb76 rfl (fun _ => rfl) (fun _ => rfl) (sn (cB h3 rfl (fun h3 => ?_) (fun h3 => ?_))))))
   ·have q := si h3; subst q; have q : _ = _ := hv3; subst q; have q := si h1; subst q; have q := si h0; subst q
    exact sr (sm rfl (sa rfl (sn (SC.ret (finR (Wk.refl _) (lresT rfl lresN) rfl)))))
   ·refine SC.skip ?_
    change SC _ _ _ _ _
    have q := si h3; subst q
    exact SC.region (s1 (bi rfl rfl q_i64_add) (sm rfl (SO.nil (lf (wq rfl)))))
  ·have q := si h3; subst q; have q : _ = _ := hv3; subst q; have q := si h1; subst q
   exact SC.exit (lf (wq rfl))
 ·intro _ h0
  have q := si h0; subst q
  exact sr (sa rfl (sn (SC.ret (finR (Wk.refl _) (lresT rfl lresN) rfl))))
noncomputable def slices_ContainsFunc_api_Value_api_Value (p0 : List ApiValue) : Option Bool :=
 Option.bind (slices_IndexFunc_api_Value_api_Value p0) fun r4 =>
 some (decide (r4 ≥ (0 : Int)))
theorem slices_ContainsFunc_api_Value_api_Value_ok (p0 : List ApiValue) (r : Bool) (h0 : slices_ContainsFunc_api_Value_api_Value p0 = some r) : CallAt Tryz.prog 75 [.d ((eL 3 eApiValue) p0), .fn (.func 76) [] []] [] (.d (eB r)) [] := by
 unfold slices_ContainsFunc_api_Value_api_Value at h0
 refine fn0 [0, 1] Tryz.func75 rfl rfl rfl rfl rfl ?_
 obtain ⟨r4, hq5, h0⟩ := ob h0; have q := si h0; subst q
 refine sr (sa rfl (sn (sr (sm rfl (sm rfl (c0 (slices_IndexFunc_api_Value_api_Value_ok p0 _ hq5) wf rfl rfl rfl cb83 rfl (fun _ => rfl) (fun _ => rfl) (s1 (bi rfl rfl q_i64_geq) (sa rfl (sn ?_)))))))))
 exact SC.ret (finR (Wk.refl _) (lresT rfl lresN) rfl)
noncomputable def pack_Out_put (p0 : List UInt8) : Option Unit :=
 bif decide (p0.length * 1 ≤ room) then
 some ()
 else none
theorem pack_Out_put_ok (p0 : List UInt8) (r : Unit) (h0 : pack_Out_put p0 = some r) : CallAt Tryz.prog 69 [.ref 0 0 0, .d ((eL 1 eU8) p0)] [.box (.d (.agg [.nils]))] (.tuple []) [.box (.agg [.slc 1 1 0 p0.length none]), .row 1 (List.map eU8 p0) true] := by
 unfold pack_Out_put at h0
 refine fn0 [0, 1] Tryz.func69 rfl rfl rfl rfl rfl ?_
 obtain ⟨hg2, h0⟩ := gd h0; have q := si h0; subst q
 refine sr (sm rfl (s1 (bi (v := .d (eB true)) rfl rfl (fun _ _ => nil_neq un93)) (sn (cT rfl (SC.region (sm rfl (sm rfl (s1 (nkr rfl) (s1 (far (k := 0) rfl fo90_0 ts88 rfl) ?_)))))))))
 exact s1 (lod rfl (ld_box ts88 ta88 rfl rfl)) (sm rfl (s1 (app rfl rfl rfl rfl bc88 (aN (f := eU8) (k := 1) un88 ei5 el_lst hg2 rfl)) (s1 (nkr rfl) (s1 (far (k := 0) rfl fo90_0 ts88 rfl) (s0 (sto rfl rfl (sB (d' := .agg [.slc 1 1 0 p0.length none]) ts88 rfl rfl rfl rfl rfl rfl rfl)) (SO.nil (finN (Wk.refl _) lresN rfl)))))))
noncomputable def pack_Out_Flag (p0 : Bool) : Option ((List UInt8)) :=
 bif p0 then
 Option.bind (pack_Out_put [(1 : UInt8)]) fun _ =>
 some [(1 : UInt8)]
 else
 Option.bind (pack_Out_put [(0 : UInt8)]) fun _ =>
 some [(0 : UInt8)]
theorem pack_Out_Flag_ok (p0 : Bool) (r : (List UInt8)) (h0 : pack_Out_Flag p0 = some r) : CallAt Tryz.prog 70 [.ref 0 0 0, .d (eB p0)] [.box (.d (.agg [.nils]))] (.tuple []) [.box (.agg [.slc 1 1 0 r.length none]), .row 1 (List.map eU8 r) true] := by
 unfold pack_Out_Flag at h0
 refine fn0 [0, 1] Tryz.func70 rfl rfl rfl rfl rfl ?_
 refine sr (sm rfl (sn (cB h0 rfl (fun h0 => ?_) (fun h0 => ?_))))
 ·obtain ⟨_, hq4, h0⟩ := ob h0; have q := si h0; subst q
  exact SC.region (sm rfl (s1 (bsn (k := 1) (ds := List.map eU8 [(1 : UInt8)]) (off := 0) (l' := [(1 : UInt8)].length) rfl un88 ei5 rfl rfl (by rfl) rfl rfl rfl) (cq (args' := [.ref 0 0 0, .slc 1 1 0 ([(1 : UInt8)].length) none]) (σc := [.box (.d (.agg [.nils])), .row 1 (List.map eU8 [(1 : UInt8)]) true]) [0, 1] [2] (CallAt.frz (ArgF.keep (ArgF.frz (fF rfl rfl rfl) (ArgF.nil _))) (fq [0] [2] (pack_Out_put_ok [(1 : UInt8)] _ hq4) rfl rfl rfl rfl rfl rfl rfl rfl)) wf rfl rfl rfl cb69 rfl rfl rfl rfl rfl rfl rfl rfl (SO.nil (finN (wc (e' := []) [0, 2] [0] (by kernel_rfl) rfl (by kernel_rfl)) lresN rfl)))))
 ·obtain ⟨_, hq5, h0⟩ := ob h0; have q := si h0; subst q
  exact SC.region (sm rfl (s1 (bsn (k := 1) (ds := List.map eU8 [(0 : UInt8)]) (off := 0) (l' := [(0 : UInt8)].length) rfl un88 ei5 rfl rfl (by rfl) rfl rfl rfl) (cq (args' := [.ref 0 0 0, .slc 1 1 0 ([(0 : UInt8)].length) none]) (σc := [.box (.d (.agg [.nils])), .row 1 (List.map eU8 [(0 : UInt8)]) true]) [0, 1] [2] (CallAt.frz (ArgF.keep (ArgF.frz (fF rfl rfl rfl) (ArgF.nil _))) (fq [0] [2] (pack_Out_put_ok [(0 : UInt8)] _ hq5) rfl rfl rfl rfl rfl rfl rfl rfl)) wf rfl rfl rfl cb69 rfl rfl rfl rfl rfl rfl rfl rfl (SO.nil (finN (wc (e' := []) [0, 2] [0] (by kernel_rfl) rfl (by kernel_rfl)) lresN rfl)))))
noncomputable def pack_Out_put_1 (p0 : List UInt8) (p1 : List UInt8) : Option Unit :=
 bif decide ((p1.length + p0.length) * 1 ≤ room) then
 some ()
 else none
theorem pack_Out_put_1_ok (p0 : List UInt8) (p1 : List UInt8) (r : Unit) (h0 : pack_Out_put_1 p0 p1 = some r) : CallAt Tryz.prog 69 [.ref 0 0 0, .d ((eL 1 eU8) p0)] [.box (.agg [.slc 1 1 0 p1.length none]), .row 1 (List.map eU8 p1) true] (.tuple []) [.box (.agg [.slc 2 1 0 ((p1 ++ p0).length) none]), .dead, .row 1 (List.map eU8 (p1 ++ p0)) true] := by
 unfold pack_Out_put_1 at h0
 refine fn0 [0, 1] Tryz.func69 rfl rfl rfl rfl rfl ?_
 obtain ⟨hg2, h0⟩ := gd h0; have q := si h0; subst q
 refine sr (sm rfl (s1 (bi (v := .d (eB true)) rfl rfl (fun _ _ => nil_neq un93)) (sn (cT rfl (SC.region (sm rfl (sm rfl (s1 (nkr rfl) (s1 (far (k := 0) rfl fo90_0 ts88 rfl) ?_)))))))))
 exact s1 (lod rfl (ld_box ts88 ta88 rfl rfl)) (sm rfl (s1 (app rfl rfl rfl rfl bc88 (aF (f := eU8) (xs := p1) (k := 2) rfl un88 ei5 rfl el_lst hg2 rfl)) (s1 (nkr rfl) (s1 (far (k := 0) rfl fo90_0 ts88 rfl) (s0 (sto rfl rfl (sB (d' := .agg [.slc 2 1 0 ((p1 ++ p0).length) none]) ts88 rfl rfl rfl rfl rfl rfl rfl)) (SO.nil (finN (Wk.refl _) lresN rfl)))))))
noncomputable def pack_Out_U16 (p0 : UInt16) (p1 : List UInt8) : Option Unit :=
 Option.bind (pack_Out_put_1 [((shr16 p0 8).toUInt8), (p0.toUInt8)] p1) fun _ =>
 some ()
theorem pack_Out_U16_ok (p0 : UInt16) (p1 : List UInt8) (r : Unit) (h0 : pack_Out_U16 p0 p1 = some r) : CallAt Tryz.prog 81 [.ref 0 0 0, .d (eU16 p0)] [.box (.agg [.slc 1 1 0 p1.length none]), .row 1 (List.map eU8 p1) true] (.tuple []) [.box (.agg [.slc 2 1 0 ((p1 ++ [((shr16 p0 8).toUInt8), (p0.toUInt8)]).length) none]), .dead, .row 1 (List.map eU8 (p1 ++ [((shr16 p0 8).toUInt8), (p0.toUInt8)])) true] := by
 unfold pack_Out_U16 at h0
 refine fn0 [0, 1] Tryz.func81 rfl rfl rfl rfl rfl ?_
 obtain ⟨_, hq2, h0⟩ := ob h0; have q := si h0; subst q
 refine SC.region (sm rfl (sm rfl (s1 (bi (v := .d (eU16 (shr16 p0 8))) rfl rfl (fun X Y => b_u16_shr _ X Y p0 _ (by decide))) (s1 (cvo rfl (cv_u16_u8 un111 un5 (shr16 p0 8))) (sm rfl (s1 (cvo rfl (cv_u16_u8 un111 un5 p0)) (s1 (bsn (k := 2) (ds := List.map eU8 [((shr16 p0 8).toUInt8), (p0.toUInt8)]) (off := 0) (l' := [((shr16 p0 8).toUInt8), (p0.toUInt8)].length) rfl un88 ei5 rfl rfl (by rfl) rfl rfl rfl) (cq (args' := [.ref 0 0 0, .slc 1 1 0 ([((shr16 p0 8).toUInt8), (p0.toUInt8)].length) none]) (σc := [.box (.agg [.slc 2 1 0 p1.length none]), .row 1 (List.map eU8 [((shr16 p0 8).toUInt8), (p0.toUInt8)]) true, .row 1 (List.map eU8 p1) true]) [0, 2, 1] [3] (CallAt.frz (ArgF.keep (ArgF.frz (fF rfl rfl rfl) (ArgF.nil _))) (fq [0, 2] [3] (pack_Out_put_1_ok [((shr16 p0 8).toUInt8), (p0.toUInt8)] p1 _ hq2) rfl rfl rfl rfl rfl rfl rfl rfl)) wf rfl rfl rfl cb69 rfl rfl rfl rfl rfl rfl rfl rfl (SO.nil ?_)))))))))
 exact finN (wc (e' := []) [0, 1, 3] [0, 1] (by kernel_rfl) rfl (by kernel_rfl)) lresN rfl
noncomputable def pack_Out_U32 (p0 : UInt32) (p1 : List UInt8) : Option Unit :=
 Option.bind (pack_Out_U16 ((shr32 p0 16).toUInt16) p1) fun _ =>
 Option.bind (pack_Out_U16 (p0.toUInt16) (p1 ++ [((shr16 ((shr32 p0 16).toUInt16) 8).toUInt8), (((shr32 p0 16).toUInt16).toUInt8)])) fun _ =>
 some ()
theorem pack_Out_U32_ok (p0 : UInt32) (p1 : List UInt8) (r : Unit) (h0 : pack_Out_U32 p0 p1 = some r) : CallAt Tryz.prog 80 [.ref 0 0 0, .d (eU32 p0)] [.box (.agg [.slc 1 1 0 p1.length none]), .row 1 (List.map eU8 p1) true] (.tuple []) [.box (.agg [.slc 2 1 0 (((p1 ++ [((shr16 ((shr32 p0 16).toUInt16) 8).toUInt8), (((shr32 p0 16).toUInt16).toUInt8)]) ++ [((shr16 (p0.toUInt16) 8).toUInt8), ((p0.toUInt16).toUInt8)]).length) none]), .dead, .row 1 (List.map eU8 ((p1 ++ [((shr16 ((shr32 p0 16).toUInt16) 8).toUInt8), (((shr32 p0 16).toUInt16).toUInt8)]) ++ [((shr16 (p0.toUInt16) 8).toUInt8), ((p0.toUInt16).toUInt8)])) true] := by
 unfold pack_Out_U32 at h0
 refine fn0 [0, 1] Tryz.func80 rfl rfl rfl rfl rfl ?_
 obtain ⟨_, hq3, h0⟩ := ob h0; obtain ⟨_, hq4, h0⟩ := ob h0; have q := si h0; subst q
 refine sr (sm rfl (sm rfl (s1 (bi (v := .d (eU32 (shr32 p0 16))) rfl rfl (fun X Y => b_u32_shr _ X Y p0 _ (by decide))) (s1 (cvo rfl (cv_u32_u16 un108 un111 (shr32 p0 16))) (cq [0, 1] [2] (pack_Out_U16_ok ((shr32 p0 16).toUInt16) p1 _ hq3) wf rfl rfl rfl cb81 rfl rfl rfl rfl rfl rfl rfl rfl (sn (SC.region (sm rfl (sm rfl ?_)))))))))
 exact s1 (cvo rfl (cv_u32_u16 un108 un111 p0)) (cq [0, 2] [3] (pack_Out_U16_ok (p0.toUInt16) (p1 ++ [((shr16 ((shr32 p0 16).toUInt16) 8).toUInt8), (((shr32 p0 16).toUInt16).toUInt8)]) _ hq4) wf rfl rfl rfl cb81 rfl rfl rfl rfl rfl rfl rfl rfl (SO.nil (finN (wc (e' := []) [0, 1, 3] [0, 1] (by kernel_rfl) rfl (by kernel_rfl)) lresN rfl)))
noncomputable def pack_Out_U64 (p0 : UInt64) (p1 : List UInt8) : Option Unit :=
 Option.bind (pack_Out_U32 ((shr64 p0 32).toUInt32) p1) fun _ =>
 Option.bind (pack_Out_U32 (p0.toUInt32) ((p1 ++ [((shr16 ((shr32 ((shr64 p0 32).toUInt32) 16).toUInt16) 8).toUInt8), (((shr32 ((shr64 p0 32).toUInt32) 16).toUInt16).toUInt8)]) ++ [((shr16 (((shr64 p0 32).toUInt32).toUInt16) 8).toUInt8), ((((shr64 p0 32).toUInt32).toUInt16).toUInt8)])) fun _ =>
 some ()
theorem pack_Out_U64_ok (p0 : UInt64) (p1 : List UInt8) (r : Unit) (h0 : pack_Out_U64 p0 p1 = some r) : CallAt Tryz.prog 71 [.ref 0 0 0, .d (eU64 p0)] [.box (.agg [.slc 1 1 0 p1.length none]), .row 1 (List.map eU8 p1) true] (.tuple []) [.box (.agg [.slc 2 1 0 (((((p1 ++ [((shr16 ((shr32 ((shr64 p0 32).toUInt32) 16).toUInt16) 8).toUInt8), (((shr32 ((shr64 p0 32).toUInt32) 16).toUInt16).toUInt8)]) ++ [((shr16 (((shr64 p0 32).toUInt32).toUInt16) 8).toUInt8), ((((shr64 p0 32).toUInt32).toUInt16).toUInt8)]) ++ [((shr16 ((shr32 (p0.toUInt32) 16).toUInt16) 8).toUInt8), (((shr32 (p0.toUInt32) 16).toUInt16).toUInt8)]) ++ [((shr16 ((p0.toUInt32).toUInt16) 8).toUInt8), (((p0.toUInt32).toUInt16).toUInt8)]).length) none]), .dead, .row 1 (List.map eU8 ((((p1 ++ [((shr16 ((shr32 ((shr64 p0 32).toUInt32) 16).toUInt16) 8).toUInt8), (((shr32 ((shr64 p0 32).toUInt32) 16).toUInt16).toUInt8)]) ++ [((shr16 (((shr64 p0 32).toUInt32).toUInt16) 8).toUInt8), ((((shr64 p0 32).toUInt32).toUInt16).toUInt8)]) ++ [((shr16 ((shr32 (p0.toUInt32) 16).toUInt16) 8).toUInt8), (((shr32 (p0.toUInt32) 16).toUInt16).toUInt8)]) ++ [((shr16 ((p0.toUInt32).toUInt16) 8).toUInt8), (((p0.toUInt32).toUInt16).toUInt8)])) true] := by
 unfold pack_Out_U64 at h0
 refine fn0 [0, 1] Tryz.func71 rfl rfl rfl rfl rfl ?_
 obtain ⟨_, hq3, h0⟩ := ob h0; obtain ⟨_, hq4, h0⟩ := ob h0; have q := si h0; subst q
 refine sr (sm rfl (sm rfl (s1 (bi (v := .d (eU64 (shr64 p0 32))) rfl rfl (fun X Y => b_u64_shr _ X Y p0 _ (by decide))) (s1 (cvo rfl (cv_u64_u32 un38 un108 (shr64 p0 32))) (cq [0, 1] [2] (pack_Out_U32_ok ((shr64 p0 32).toUInt32) p1 _ hq3) wf rfl rfl rfl cb80 rfl rfl rfl rfl rfl rfl rfl rfl (sn (SC.region (sm rfl (sm rfl ?_)))))))))
 exact s1 (cvo rfl (cv_u64_u32 un38 un108 p0)) (cq [0, 2] [3] (pack_Out_U32_ok (p0.toUInt32) ((p1 ++ [((shr16 ((shr32 ((shr64 p0 32).toUInt32) 16).toUInt16) 8).toUInt8), (((shr32 ((shr64 p0 32).toUInt32) 16).toUInt16).toUInt8)]) ++ [((shr16 (((shr64 p0 32).toUInt32).toUInt16) 8).toUInt8), ((((shr64 p0 32).toUInt32).toUInt16).toUInt8)]) _ hq4) wf rfl rfl rfl cb80 rfl rfl rfl rfl rfl rfl rfl rfl (SO.nil (finN (wc (e' := []) [0, 1, 3] [0, 1] (by kernel_rfl) rfl (by kernel_rfl)) lresN rfl)))
noncomputable def pack_Out_U8 (p0 : UInt8) (p1 : List UInt8) : Option Unit :=
 Option.bind (pack_Out_put_1 [p0] p1) fun _ =>
 some ()
theorem pack_Out_U8_ok (p0 : UInt8) (p1 : List UInt8) (r : Unit) (h0 : pack_Out_U8 p0 p1 = some r) : CallAt Tryz.prog 60 [.ref 0 0 0, .d (eU8 p0)] [.box (.agg [.slc 1 1 0 p1.length none]), .row 1 (List.map eU8 p1) true] (.tuple []) [.box (.agg [.slc 2 1 0 ((p1 ++ [p0]).length) none]), .dead, .row 1 (List.map eU8 (p1 ++ [p0])) true] := by
 unfold pack_Out_U8 at h0
 refine fn0 [0, 1] Tryz.func60 rfl rfl rfl rfl rfl ?_
 obtain ⟨_, hq2, h0⟩ := ob h0; have q := si h0; subst q
 exact SC.region (sm rfl (sm rfl (s1 (bsn (k := 2) (ds := List.map eU8 [p0]) (off := 0) (l' := [p0].length) rfl un88 ei5 rfl rfl (by rfl) rfl rfl rfl) (cq (args' := [.ref 0 0 0, .slc 1 1 0 ([p0].length) none]) (σc := [.box (.agg [.slc 2 1 0 p1.length none]), .row 1 (List.map eU8 [p0]) true, .row 1 (List.map eU8 p1) true]) [0, 2, 1] [3] (CallAt.frz (ArgF.keep (ArgF.frz (fF rfl rfl rfl) (ArgF.nil _))) (fq [0, 2] [3] (pack_Out_put_1_ok [p0] p1 _ hq2) rfl rfl rfl rfl rfl rfl rfl rfl)) wf rfl rfl rfl cb69 rfl rfl rfl rfl rfl rfl rfl rfl (SO.nil (finN (wc (e' := []) [0, 1, 3] [0, 1] (by kernel_rfl) rfl (by kernel_rfl)) lresN rfl))))))
noncomputable def pack_Out_Bytes (p0 : List UInt8) : Option Unit :=
 bif decide (p0.length * 1 ≤ room) then
 some ()
 else none
theorem pack_Out_Bytes_ok (p0 : List UInt8) (r : Unit) (h0 : pack_Out_Bytes p0 = some r) : CallAt Tryz.prog 62 [.ref 0 0 0] [.box (.agg [.slc 1 1 0 p0.length none]), .row 1 (List.map eU8 p0) true] (.slc 2 1 0 p0.length none) [.box (.agg [.slc 1 1 0 p0.length none]), .row 1 (List.map eU8 p0) true, .row 1 (List.map eU8 p0) true] := by
 unfold pack_Out_Bytes at h0
 refine fn0 [0] Tryz.func62 rfl rfl rfl rfl rfl ?_
 obtain ⟨hg2, h0⟩ := gd h0; have q := si h0; subst q
 refine sr (s1 (asg (v := .d .nils) rfl) (sn (sq (sr (sm rfl (s1 (bi (v := .d (eB false)) rfl rfl (fun _ _ => nil_eql un93)) (sn (cF rfl (sk ?_)))))))))
 exact sr (sm rfl (s1 (nkr rfl) (s1 (far (k := 0) rfl fo90_0 ts88 rfl) (s1 (lod rfl (ld_box ts88 ta88 rfl rfl)) (s1 (app rfl rfl rfl rfl bc88 (aN (f := eU8) (k := 2) un88 ei5 (el_full (xs := p0) rfl) hg2 rfl)) (sa rfl (sn (SC.ret (finR (Wk.refl _) (lresT rfl lresN) rfl)))))))))
noncomputable def key_turned (p0 : List UInt8) : Option ((List UInt8)) :=
 Option.bind (α := (List UInt8))
 (Option.bind (α := (List UInt8))
 (loop (Y := (List UInt8) × Int) (W := (List UInt8)) (fun (y47, y48) =>
 bif (decide (y48 < (p0.length : Int))) then
 Option.bind (getI y47 y48) fun v55 =>
 Option.bind (getI y47 y48) fun v56 =>
 some (Sum.inl ((List.set y47 y48.toNat (~~~ v55)), (w64 (y48 + (1 : Int)))))
 else
 some (Sum.inr y47)) (p0, (0 : Int)))
 (fun e => some e))
 fun y43 =>
 some y43
theorem key_turned_ok (p0 : List UInt8) (r : (List UInt8)) (h0 : key_turned p0 = some r) : CallAt Tryz.prog 85 [.slc 0 1 0 p0.length none] [.row 1 (List.map eU8 p0) true] (.slc 0 1 0 r.length none) [.row 1 (List.map eU8 r) true] := by
 unfold key_turned at h0
 refine fn0 [0] Tryz.func85 rfl rfl rfl rfl rfl ?_
 refine sr (s1 (asg (v := .d .nils) rfl) (sn (SC.seqP h0 (fun y => ⟨mk 19 [(0, .slc 0 1 0 y.length none)], [.row 1 (List.map eU8 y) true]⟩) ?_ ?_)))
 ·intro u1_44 h1
  obtain ⟨u2_54, h2, h1⟩ := ob h1
  refine sr (sm rfl (s1 (len rfl rfl rfl (len_slc un88)) (sm rfl (sn (SC.blk (SC.loopB h2 (fun y => ⟨mk 19 [(0, .slc 0 1 0 y.1.length none), (5, .d (eI (p0.length : Int))), (6, .d (eI y.2))], [.row 1 (List.map eU8 y.1) true]⟩) (wq rfl) ?_))))))
  intro n57
  rintro ⟨y47, y48⟩ w2_53 h3 hv3
  refine sr (s1 (bi rfl rfl q_i64_lss) (sn (sq (cB h3 rfl (fun h3 => ?_) (fun h3 => ?_)))))
  ·obtain ⟨v55, hv55, h3⟩ := ob h3; obtain ⟨v56, hv56, h3⟩ := ob h3
   refine sk (sq (SC.blk (sr (sm rfl (sa rfl (sn (SC.region (sm rfl (sm rfl ?_)))))))))
   refine sm rfl (sm rfl (s1 (iaz rfl rfl un88 ts5 (getI_lt hv55)) (s1 (lod rfl (ld_row ts5 ta5 rfl (map_get (getI_some hv55).2) rfl)) (s1 (uo rfl rfl (un_u8_xor v55)) (s1 (iaz rfl rfl un88 ts5 (getI_lt hv56)) (s0 (sto (b := .d (eU8 (~~~ v55))) rfl rfl (sR (f := eU8) (v := (~~~ v55)) ts5 rfl rfl rfl rfl (getI_some hv56).2 rfl rfl)) (SO.nil ?_)))))))
   change SC _ _ _ _ _
   have q := si h3; subst q
   exact SC.region (s1 (bi rfl rfl q_i64_add) (sm rfl (SO.nil (lf (Wk.env (EW.cons (AW.slc rfl (by simp)) (EW.cons (AW.refl _) (EW.cons (AW.refl _) EW.nil))))))))
  ·have q := si h3; subst q; have q : _ = _ := hv3; subst q; have q := si h1; subst q
   exact SC.exit ((wq rfl))
 ·rintro y43 h0
  have q := si h0; subst q
  exact sr (sm rfl (sa rfl (sn (SC.ret (finR (Wk.refl _) (lresT rfl lresN) rfl)))))
noncomputable def key_one (p0 : ApiValue) (p1 : Bool) : Option ((List UInt8)) :=
 Option.bind (pack_Out_Flag (p0.Kind != (0 : Int))) fun r29 =>
 Option.bind (α := (List UInt8))
 (bif (p0.Kind == (1 : Int)) then
 Option.bind (pack_Out_U64 (p0.N ^^^ (9223372036854775808 : UInt64)) r29) fun _ =>
 some ((((r29 ++ [((shr16 ((shr32 ((shr64 (p0.N ^^^ (9223372036854775808 : UInt64)) 32).toUInt32) 16).toUInt16) 8).toUInt8), (((shr32 ((shr64 (p0.N ^^^ (9223372036854775808 : UInt64)) 32).toUInt32) 16).toUInt16).toUInt8)]) ++ [((shr16 (((shr64 (p0.N ^^^ (9223372036854775808 : UInt64)) 32).toUInt32).toUInt16) 8).toUInt8), ((((shr64 (p0.N ^^^ (9223372036854775808 : UInt64)) 32).toUInt32).toUInt16).toUInt8)]) ++ [((shr16 ((shr32 ((p0.N ^^^ (9223372036854775808 : UInt64)).toUInt32) 16).toUInt16) 8).toUInt8), (((shr32 ((p0.N ^^^ (9223372036854775808 : UInt64)).toUInt32) 16).toUInt16).toUInt8)]) ++ [((shr16 (((p0.N ^^^ (9223372036854775808 : UInt64)).toUInt32).toUInt16) 8).toUInt8), ((((p0.N ^^^ (9223372036854775808 : UInt64)).toUInt32).toUInt16).toUInt8)])
 else
 bif (p0.Kind == (2 : Int)) then
 Option.bind (pack_Out_U64 p0.N r29) fun _ =>
 some ((((r29 ++ [((shr16 ((shr32 ((shr64 p0.N 32).toUInt32) 16).toUInt16) 8).toUInt8), (((shr32 ((shr64 p0.N 32).toUInt32) 16).toUInt16).toUInt8)]) ++ [((shr16 (((shr64 p0.N 32).toUInt32).toUInt16) 8).toUInt8), ((((shr64 p0.N 32).toUInt32).toUInt16).toUInt8)]) ++ [((shr16 ((shr32 (p0.N.toUInt32) 16).toUInt16) 8).toUInt8), (((shr32 (p0.N.toUInt32) 16).toUInt16).toUInt8)]) ++ [((shr16 ((p0.N.toUInt32).toUInt16) 8).toUInt8), (((p0.N.toUInt32).toUInt16).toUInt8)])
 else
 bif (p0.Kind == (3 : Int)) then
 Option.bind (pack_Out_U8 (p0.N.toUInt8) r29) fun _ =>
 some (r29 ++ [(p0.N.toUInt8)])
 else
 some r29)
 fun y34 =>
 Option.bind (pack_Out_Bytes y34) fun _ =>
 Option.bind (α := (List UInt8))
 (Option.bind (α := Bool)
 (bif (p0.Kind == (4 : Int)) then
 some true
 else
 some (p0.Kind == (5 : Int)))
 fun y48 =>
 bif y48 then
 Option.bind (replF p0.S ([0] : List UInt8) ([0, 255] : List UInt8)) fun r50 =>
 bif decide ((y34.length + r50.length) * 1 ≤ room) then
 bif decide (((y34 ++ r50).length + [(0 : UInt8), (0 : UInt8)].length) * 1 ≤ room) then
 some ((y34 ++ r50) ++ [(0 : UInt8), (0 : UInt8)])
 else none
 else none
 else
 some y34)
 fun y46 =>
 bif p1 then
 Option.bind (key_turned y46) fun r54 =>
 some r54
 else
 some y46
theorem key_one_ok (p0 : ApiValue) (p1 : Bool) (r : (List UInt8)) (h0 : key_one p0 p1 = some r) : CallAt Tryz.prog 77 [.d (eApiValue p0), .d (eB p1)] [] (.d ((eL 1 eU8) r)) [] := by
 unfold key_one at h0
 refine fn0 [0, 1] Tryz.func77 rfl rfl rfl rfl rfl ?_
 obtain ⟨r29, hq30, h0⟩ := ob h0
 refine sr (s1 (bxo (k := 0) rfl rfl rfl) (s1 (asg (v := .d .nils) rfl) (sn (sr (s1 (alo (k := 1) zo90 rfl) (sn (sr (s1 (far (k := 0) rfl fo40_0 ts3 rfl) (s1 (lod rfl (ld_box ts3 ta3 rfl rfl)) ?_)))))))))
 refine s1 (bi rfl rfl q_i64_neq) (cq [1] [2] (pack_Out_Flag_ok (p0.Kind != (0 : Int)) _ hq30) wf rfl rfl rfl cb70 rfl rfl rfl rfl rfl rfl rfl rfl (sn (SC.seqP h0 (fun y => ⟨mk 51 [(1, .d (eB p1)), (2, .ref 0 0 0), (5, .ref 1 0 0)], [.box (.d (eApiValue p0)), .box (.agg [.slc 2 1 0 y.length none]), .row 1 (List.map eU8 y) true]⟩) ?_ ?_)))
 ·intro u1_35 h1
  refine sr (s1 (far (k := 0) rfl fo40_0 ts3 rfl) (s1 (lod rfl (ld_box ts3 ta3 rfl rfl)) (sn (SC.blk (sr (s1 (bi rfl rfl q_i64_eql) (sa rfl (sn (cB h1 rfl (fun h1 => ?_) (fun h1 => ?_))))))))))
  ·obtain ⟨_, hq36, h1⟩ := ob h1; have q := si h1; subst q
   exact SC.region (s1 (far (k := 1) rfl fo40_1 ts38 rfl) (s1 (lod rfl (ld_box ts38 ta38 rfl rfl)) (s1 (bi rfl rfl (q_u64_xor (b := (9223372036854775808 : UInt64)))) (cq [1, 2] [3] (pack_Out_U64_ok (p0.N ^^^ (9223372036854775808 : UInt64)) r29 _ hq36) wf rfl rfl rfl cb71 rfl rfl rfl rfl rfl rfl rfl rfl (SO.nil ((wc [0, 1, 3] [0, 1] (by kernel_rfl) rfl (by kernel_rfl))))))))
  ·refine sr (s1 (bi rfl rfl q_i64_eql) (sa rfl (sn (cB h1 rfl (fun h1 => ?_) (fun h1 => ?_)))))
   ·obtain ⟨_, hq37, h1⟩ := ob h1; have q := si h1; subst q
    exact SC.region (s1 (far (k := 1) rfl fo40_1 ts38 rfl) (s1 (lod rfl (ld_box ts38 ta38 rfl rfl)) (cq [1, 2] [3] (pack_Out_U64_ok p0.N r29 _ hq37) wf rfl rfl rfl cb71 rfl rfl rfl rfl rfl rfl rfl rfl (SO.nil ((wc [0, 1, 3] [0, 1] (by kernel_rfl) rfl (by kernel_rfl)))))))
   ·refine sr (s1 (bi rfl rfl q_i64_eql) (sa rfl (sn (cB h1 rfl (fun h1 => ?_) (fun h1 => ?_)))))
    ·obtain ⟨_, hq38, h1⟩ := ob h1; have q := si h1; subst q
     exact SC.region (s1 (far (k := 1) rfl fo40_1 ts38 rfl) (s1 (lod rfl (ld_box ts38 ta38 rfl rfl)) (s1 (cvo rfl (cv_u64_u8 un38 un5 p0.N)) (cq [1, 2] [3] (pack_Out_U8_ok (p0.N.toUInt8) r29 _ hq38) wf rfl rfl rfl cb60 rfl rfl rfl rfl rfl rfl rfl rfl (SO.nil ((wc [0, 1, 3] [0, 1] (by kernel_rfl) rfl (by kernel_rfl))))))))
    ·have q := si h1; subst q
     exact SC.skip ((wq rfl))
 ·rintro y34 h0
  obtain ⟨_, hq39, h0⟩ := ob h0
  refine sr (cq [1, 2] [3] (pack_Out_Bytes_ok y34 _ hq39) wf rfl rfl rfl cb62 rfl rfl rfl rfl rfl rfl rfl rfl (sa rfl (sn (SC.seqP h0 (fun y => ⟨mk 51 [(1, .d (eB p1)), (6, .slc 0 1 0 y.length none)], [.row 1 (List.map eU8 y) true]⟩) ?_ ?_))))
  ·intro u1_47 h1
   refine SC.seqP h1 (fun y => ⟨mk 51 [(1, .d (eB p1)), (2, .ref 0 0 0), (6, .slc 1 1 0 y34.length none), (38, .d (eB y))], [.box (.d (eApiValue p0)), .row 1 (List.map eU8 y34) true]⟩) ?_ ?_
   ·intro u2_49 h2
    refine SC.region (s1 (far (k := 0) rfl fo40_0 ts3 rfl) (s1 (lod rfl (ld_box ts3 ta3 rfl rfl)) (s1 (bi rfl rfl q_i64_eql) (sm rfl (sp h2 (fun h2 => ?_) (fun h2 => ?_))))))
    ·have q := si h2; subst q
     exact kw rfl (kw rfl (kw rfl (s1 (pkt rfl rfl) (SO.nil ((wc [0, 3] [0, 3] (by kernel_rfl) rfl (by kernel_rfl)))))))
    ·have q := si h2; subst q
     exact gw rfl (far (k := 0) rfl fo40_0 ts3 rfl) (gw rfl (lod rfl (ld_box ts3 ta3 rfl rfl)) (gw rfl (bi rfl rfl q_i64_eql) (s1 (pkf rfl rfl) (SO.nil ((wc [0, 3] [0, 3] (by kernel_rfl) rfl (by kernel_rfl)))))))
   ·rintro y48 h1
    refine cB h1 rfl (fun h1 => ?_) (fun h1 => ?_)
    ·obtain ⟨r50, hq51, h1⟩ := ob h1; obtain ⟨hg52, h1⟩ := gd h1; obtain ⟨hg53, h1⟩ := gd h1; have q := si h1; subst q
     refine sr (sm rfl (s1 (far (k := 2) rfl fo40_2 ts9 rfl) (s1 (lod rfl (ld_box ts9 ta9 rfl rfl)) (c0 (repl_ok p0.S ([0] : List UInt8) ([0, 255] : List UInt8) _ hq51) wf rfl rfl rfl cb84 rfl (fun _ => rfl) (fun _ => rfl) (s1 (app rfl rfl rfl rfl bc9 (aF (f := eU8) (xs := y34) (k := 2) rfl un88 ei5 rfl el_str hg52 rfl)) (sa rfl (sn (SC.region (sm rfl ?_)))))))))
     exact s1 (bsn (k := 3) (ds := List.map eU8 [(0 : UInt8), (0 : UInt8)]) (off := 0) (l' := [(0 : UInt8), (0 : UInt8)].length) rfl un88 ei5 rfl rfl (by rfl) rfl rfl rfl) (s1 (app rfl rfl rfl rfl bc88 (aF (f := eU8) (xs := (y34 ++ r50)) (k := 4) rfl un88 ei5 rfl (el_full (xs := [(0 : UInt8), (0 : UInt8)]) rfl) hg53 rfl)) (sa rfl (SO.nil ((wc [4] [4] (by kernel_rfl) rfl (by kernel_rfl))))))
    ·have q := si h1; subst q
     exact SC.skip ((wc [1] [1] (by kernel_rfl) rfl (by kernel_rfl)))
  ·rintro y46 h0
   refine sq (sr (sm rfl (sn (cB h0 rfl (fun h0 => ?_) (fun h0 => ?_)))))
   ·obtain ⟨r54, hq55, h0⟩ := ob h0; have q := si h0; subst q
    exact sr (sm rfl (cq [0] [] (key_turned_ok y46 _ hq55) wf rfl rfl rfl cb85 rfl rfl rfl rfl rfl rfl rfl rfl (sa rfl (sn (SC.ret (finR (Wk.trans (Wk.frz (i := 4) (x := .slc 0 1 0 r54.length none) rfl rfl (fF rfl rfl rfl)) (wc (e' := [(4, .d ((eL 1 eU8) r54))]) [] [] (by kernel_rfl) rfl (by kernel_rfl))) (lresT rfl lresN) rfl))))))
   ·have q := si h0; subst q
    exact sk (sr (sm rfl (sa rfl (sn (SC.ret (finR (Wk.trans (Wk.frz (i := 4) (x := .slc 0 1 0 y46.length none) rfl rfl (fF rfl rfl rfl)) (wc (e' := [(4, .d ((eL 1 eU8) y46))]) [] [] (by kernel_rfl) rfl (by kernel_rfl))) (lresT rfl lresN) rfl))))))
noncomputable def key_Encode (p0 : List ApiValue) (p1 : List Bool) : Option ((List UInt8) × Int) :=
 bif ((p0.length : Int) != (p1.length : Int)) then
 some (([] : List UInt8), (1 : Int))
 else
 Option.bind (slices_ContainsFunc_api_Value_api_Value p0) fun r51 =>
 bif r51 then
 some (([] : List UInt8), (8 : Int))
 else
 Option.bind (α := (List UInt8))
 (Option.bind (α := (List UInt8))
 (loop (Y := (List UInt8) × Int) (W := (List UInt8)) (fun (y82, y83) =>
 bif (decide (y83 < (p0.length : Int))) then
 Option.bind (getI p0 y83) fun v93 =>
 Option.bind (getI p1 y83) fun v94 =>
 Option.bind (key_one v93 v94) fun r95 =>
 bif decide ((y82.length + r95.length) * 1 ≤ room) then
 some (Sum.inl ((y82 ++ r95), (w64 (y83 + (1 : Int)))))
 else none
 else
 some (Sum.inr y82)) (([] : List UInt8), (0 : Int)))
 (fun e => some e))
 fun y75 =>
 bif (decide ((y75.length : Int) > (256 : Int))) then
 some (([] : List UInt8), (7 : Int))
 else
 some (y75, (0 : Int))
theorem key_Encode_ok (p0 : List ApiValue) (p1 : List Bool) (r : (List UInt8) × Int) (h0 : key_Encode p0 p1 = some r) : CallAt Tryz.prog 67 [.d ((eL 3 eApiValue) p0), .d ((eL 1 eB) p1)] [] (.tuple [.d (eS r.1), .d (eI r.2)]) [] := by
 unfold key_Encode at h0
 refine fn0 [0, 1] Tryz.func67 rfl rfl rfl rfl rfl ?_
 refine sr (s1 (asg (v := .d (eS ([] : List UInt8))) rfl) (sa rfl (sn (sq (sr (sm rfl (s1 (len rfl rfl rfl (len_lst un55)) (sm rfl (s1 (len rfl rfl rfl (len_lst un97)) ?_)))))))))
 refine s1 (bi rfl rfl q_i64_neq) (sn (cB h0 rfl (fun h0 => ?_) (fun h0 => ?_)))
 ·have q := si h0; subst q
  exact sr (s1 (asg (v := .d (eS ([] : List UInt8))) rfl) (sa rfl (sn (SC.ret (finR (Wk.refl _) (lresT rfl (lresT rfl lresN)) rfl)))))
 ·obtain ⟨r51, hq52, h0⟩ := ob h0
  refine sk (sq (sr (sm rfl (c0 (slices_ContainsFunc_api_Value_api_Value_ok p0 _ hq52) wf rfl rfl rfl cb75 rfl (fun _ => rfl) (fun _ => rfl) (sn (cB h0 rfl (fun h0 => ?_) (fun h0 => ?_)))))))
  ·have q := si h0; subst q
   exact sr (s1 (asg (v := .d (eS ([] : List UInt8))) rfl) (sa rfl (sn (SC.ret (finR (Wk.refl _) (lresT rfl (lresT rfl lresN)) rfl)))))
  ·refine sk (sr (s1 (asg (v := .d .nils) rfl) (sn (SC.seqP h0 (fun y => ⟨mk 37 [(6, .slc 0 1 0 y.length none)], [.row 1 (List.map eU8 y) true]⟩) ?_ ?_))))
   ·intro u1_76 h1
    obtain ⟨u2_92, h2, h1⟩ := ob h1
    refine sr (sm rfl (s1 (len rfl rfl rfl (len_lst un55)) (sm rfl (sn (SC.blk (SC.loopB h2 (fun y => ⟨mk 37 [(1, .d ((eL 1 eB) p1)), (6, .slc 0 1 0 y.1.length none), (16, .d ((eL 3 eApiValue) p0)), (17, .d (eI (p0.length : Int))), (18, .d (eI y.2))], [.row 1 (List.map eU8 y.1) true]⟩) (Wk.trans (Wk.pushE (σ' := [.row 1 (List.map eU8 ([] : List UInt8)) true]) (.row 1 [] true) (fun _ hh => by cases hh) rfl) (Wk.trans (Wk.env (e' := [(1, .d ((eL 1 eB) p1)), (6, .slc 0 1 0 (([] : List UInt8).length) none), (16, .d ((eL 3 eApiValue) p0)), (17, .d (eI (p0.length : Int))), (18, .d (eI (0 : Int)))]) (EW.cons (AW.refl _) (EW.cons (AW.slcn _ _ _) (EW.cons (AW.refl _) (EW.cons (AW.refl _) (EW.cons (AW.refl _) EW.nil)))))) (wq rfl))) ?_))))))
    intro n98
    rintro ⟨y82, y83⟩ w2_91 h3 hv3
    refine sr (s1 (bi rfl rfl q_i64_lss) (sn (sq (cB h3 rfl (fun h3 => ?_) (fun h3 => ?_)))))
    ·obtain ⟨v93, hv93, h3⟩ := ob h3; obtain ⟨v94, hv94, h3⟩ := ob h3; obtain ⟨r95, hq96, h3⟩ := ob h3; obtain ⟨hg97, h3⟩ := gd h3
     refine sk (sq (SC.blk (sr (sm rfl (s1 (ial rfl rfl un55 ts40 (getI_some hv93).1 (map_get (getI_some hv93).2) rfl) (s1 (lod (v := .d (eApiValue v93)) rfl (ld_rop ts40 ta40 rfl)) (s1 (alo (k := 1) zo40 rfl) (sa rfl (s0 (sto rfl rfl (sB (d' := .d (eApiValue v93)) ts40 rfl rfl rfl rfl rfl rfl rfl)) ?_)))))))))
     refine sn (SC.draws (by kernel_rfl) (t1 ([], false) (mv rfl) rfl (t1 ([1], false) (lod (v := .d (eApiValue v93)) rfl (ld_box ts40 ta40 rfl rfl)) rfl (t1 ([], false) (mv rfl) rfl (t1 ([], false) (mv rfl) rfl (t1 ([], false) (ial rfl rfl un97 ts4 (getI_some hv94).1 (map_get (getI_some hv94).2) rfl) rfl (t1 ([], false) (lod rfl (ld_rop ts4 ta4 rfl)) rfl (tc0 (key_one_ok v93 v94 _ hq96) wf rfl rfl rfl cb77 rfl (fun _ => rfl) (fun _ => rfl) (t1 ([0, 2], true) (app rfl rfl rfl rfl bc88 (aF (f := eU8) (xs := y82) (k := 2) rfl un88 ei5 rfl el_lst hg97 rfl)) rfl ?_)))))))))
     refine t1 ([], false) (asg rfl) rfl (ST.nil (And.intro (by decide +kernel) ?_))
     change SC _ _ _ _ _
     have q := si h3; subst q
     exact SC.region (s1 (bi rfl rfl q_i64_add) (sm rfl (SO.nil (lf (wc [2] [2] (by kernel_rfl) rfl (by kernel_rfl))))))
    ·have q := si h3; subst q; have q : _ = _ := hv3; subst q; have q := si h1; subst q
     exact SC.exit ((wq rfl))
   ·rintro y75 h0
    refine sq (sr (sm rfl (s1 (len rfl rfl rfl (len_slc un88)) (s1 (bi rfl rfl q_i64_gtr) (sn (cB h0 rfl (fun h0 => ?_) (fun h0 => ?_)))))))
    ·have q := si h0; subst q
     exact sr (s1 (asg (v := .d (eS ([] : List UInt8))) rfl) (sa rfl (sn (SC.ret (finR (wc (e' := [(4, .d (eS ([] : List UInt8))), (5, .d (eI (7 : Int)))]) [] [] (by kernel_rfl) rfl (by kernel_rfl)) (lresT rfl (lresT rfl lresN)) rfl)))))
    ·have q := si h0; subst q
     exact sk (sr (sm rfl (s1 (cvo (v := .d (eS y75)) rfl (cv_bytes_str un88 un9 un5 (el_full (xs := y75) rfl) (fun _ hh => by cases hh))) (sa rfl (sa rfl (sn (SC.ret (finR (wc (e' := [(4, .d (eS y75)), (5, .d (eI (0 : Int)))]) [] [] (by kernel_rfl) rfl (by kernel_rfl)) (lresT rfl (lresT rfl lresN)) rfl))))))))
noncomputable def schema_keyed (p0 : ApiTable) (p1 : List ApiPart) (p2 : List ApiValue) : Option ((List UInt8) × Bool × Int) :=
 Option.bind (row_Fits p0.Cols p2) fun r65 =>
 bif (r65 != (0 : Int)) then
 some (([] : List UInt8), false, r65)
 else
 Option.bind (α := (List ApiValue) × (List Bool) × Bool)
 (Option.bind (α := (List ApiValue) × (List Bool) × Bool)
 (loop (Y := (List ApiValue) × (List Bool) × Bool × Int) (W := (List ApiValue) × (List Bool) × Bool) (fun (y102, y103, y104, y105) =>
 bif (decide (y105 < (p1.length : Int))) then
 Option.bind (getI p1 y105) fun v117 =>
 Option.bind (getI p2 v117.Col) fun v118 =>
 bif decide ((y102.length + [v118].length) * 32 ≤ room) then
 bif decide ((y103.length + [v117.Down].length) * 1 ≤ room) then
 bif y104 then
 some (Sum.inl ((y102 ++ [v118]), (y103 ++ [v117.Down]), true, (w64 (y105 + (1 : Int)))))
 else
 Option.bind (getI p2 v117.Col) fun v121 =>
 some (Sum.inl ((y102 ++ [v118]), (y103 ++ [v117.Down]), (v121.Kind == (0 : Int)), (w64 (y105 + (1 : Int)))))
 else none
 else none
 else
 some (Sum.inr (y102, y103, y104))) (([] : List ApiValue), ([] : List Bool), false, (0 : Int)))
 (fun e => some e))
 fun (y93, y94, y95) =>
 Option.bind (key_Encode y93 y94) fun (r123, r124) =>
 some (r123, y95, r124)
theorem schema_keyed_ok (p0 : ApiTable) (p1 : List ApiPart) (p2 : List ApiValue) (r : (List UInt8) × Bool × Int) (h0 : schema_keyed p0 p1 p2 = some r) : CallAt Tryz.prog 58 [.d (eApiTable p0), .d ((eL 2 eApiPart) p1), .d ((eL 3 eApiValue) p2)] [] (.tuple [.d (eS r.1), .d (eB r.2.1), .d (eI r.2.2)]) [] := by
 unfold schema_keyed at h0
 refine fn0 [0, 1, 2] Tryz.func58 rfl rfl rfl rfl rfl ?_
 obtain ⟨r65, hq66, h0⟩ := ob h0
 refine sr (s1 (bxo (k := 0) rfl rfl rfl) (s1 (asg (v := .d (eS ([] : List UInt8))) rfl) (sa rfl (sa rfl (sn (sq (sr (s1 (far (k := 1) rfl fo26_1 ts22 rfl) (s1 (lod rfl (ld_box ts22 ta22 rfl rfl)) ?_)))))))))
 refine sm rfl (c0 (row_Fits_ok p0.Cols p2 _ hq66) wf rfl rfl rfl cb59 rfl (fun _ => rfl) (fun _ => rfl) (sa rfl (sn (sr (sm rfl (s1 (bi rfl rfl q_i64_neq) (sn (cB h0 rfl (fun h0 => ?_) (fun h0 => ?_)))))))))
 ·have q := si h0; subst q
  exact sr (sm rfl (s1 (asg (v := .d (eS ([] : List UInt8))) rfl) (sa rfl (sa rfl (sn (SC.ret (finR (wc (e' := [(6, .d (eS ([] : List UInt8))), (7, .d (eB false)), (8, .d (eI r65))]) [] [] (by kernel_rfl) rfl (by kernel_rfl)) (lresT rfl (lresT rfl (lresT rfl lresN))) rfl)))))))
 ·refine sk (sr (s1 (asg (v := .d .nils) rfl) (sn (sr (s1 (asg (v := .d .nils) rfl) (sn (sr (sa rfl (sn ?_)))))))))
  refine SC.seqP h0 (fun y => ⟨mk 63 [(10, .slc 0 3 0 y.1.length none), (11, .slc 1 1 0 y.2.1.length none), (12, .d (eB y.2.2))], [.row 3 (List.map eApiValue y.1) true, .row 1 (List.map eB y.2.1) true]⟩) ?_ ?_
  ·intro u1_96 h1
   obtain ⟨u2_116, h2, h1⟩ := ob h1
   refine sr (sm rfl (s1 (len rfl rfl rfl (len_lst un27)) (sm rfl (sn (SC.blk (SC.loopB h2 (fun y => ⟨mk 63 [(2, .d ((eL 3 eApiValue) p2)), (10, .slc 0 3 0 y.1.length none), (11, .slc 1 1 0 y.2.1.length none), (12, .d (eB y.2.2.1)), (24, .d ((eL 2 eApiPart) p1)), (25, .d (eI (p1.length : Int))), (26, .d (eI y.2.2.2))], [.row 3 (List.map eApiValue y.1) true, .row 1 (List.map eB y.2.1) true]⟩) (Wk.trans (Wk.pushE (σ' := [.box (.d (eApiTable p0)), .row 3 (List.map eApiValue ([] : List ApiValue)) true]) (.row 3 [] true) (fun _ hh => by cases hh) rfl) (Wk.trans (Wk.env (e' := [(2, .d ((eL 3 eApiValue) p2)), (10, .slc 1 3 0 (([] : List ApiValue).length) none), (11, .d .nils), (12, .d (eB false)), (24, .d ((eL 2 eApiPart) p1)), (25, .d (eI (p1.length : Int))), (26, .d (eI (0 : Int)))]) (EW.cons (AW.refl _) (EW.cons (AW.slcn _ _ _) (EW.cons (AW.refl _) (EW.cons (AW.refl _) (EW.cons (AW.refl _) (EW.cons (AW.refl _) (EW.cons (AW.refl _) EW.nil)))))))) (Wk.trans (Wk.pushE (σ' := [.box (.d (eApiTable p0)), .row 3 (List.map eApiValue ([] : List ApiValue)) true, .row 1 (List.map eB ([] : List Bool)) true]) (.row 1 [] true) (fun _ hh => by cases hh) rfl) (Wk.trans (Wk.env (e' := [(2, .d ((eL 3 eApiValue) p2)), (10, .slc 1 3 0 (([] : List ApiValue).length) none), (11, .slc 2 1 0 (([] : List Bool).length) none), (12, .d (eB false)), (24, .d ((eL 2 eApiPart) p1)), (25, .d (eI (p1.length : Int))), (26, .d (eI (0 : Int)))]) (EW.cons (AW.refl _) (EW.cons (AW.refl _) (EW.cons (AW.slcn _ _ _) (EW.cons (AW.refl _) (EW.cons (AW.refl _) (EW.cons (AW.refl _) (EW.cons (AW.refl _) EW.nil)))))))) (wc [1, 2] [1, 2] (by kernel_rfl) rfl (by kernel_rfl)))))) ?_))))))
   intro n122
   rintro ⟨y102, y103, y104, y105⟩ w2_115 h3 hv3
   refine sr (s1 (bi rfl rfl q_i64_lss) (sn (sq (cB h3 rfl (fun h3 => ?_) (fun h3 => ?_)))))
   ·obtain ⟨v117, hv117, h3⟩ := ob h3; obtain ⟨v118, hv118, h3⟩ := ob h3; obtain ⟨hg119, h3⟩ := gd h3; obtain ⟨hg120, h3⟩ := gd h3
    refine sk (sq (SC.blk (sr (s1 (ial rfl rfl un27 ts48 (getI_some hv117).1 (map_get (getI_some hv117).2) rfl) (s1 (lod (v := .d (eApiPart v117)) rfl (ld_rop ts48 ta48 rfl)) (s1 (alo (k := 2) zo48 rfl) (s0 (sto rfl rfl (sB (d' := .d (eApiPart v117)) ts48 rfl rfl rfl rfl rfl rfl rfl)) (sn (sd (by kernel_rfl) ?_)))))))))
    refine t1 ([], false) (mv rfl) rfl (t1 ([], false) (mv rfl) rfl (t1 ([], false) (far (k := 0) rfl fo48_0 ts3 rfl) rfl (t1 ([2], false) (lod rfl (ld_box ts3 ta3 rfl rfl)) rfl (t1 ([], false) (ial rfl rfl un55 ts40 (getI_some hv118).1 (map_get (getI_some hv118).2) rfl) rfl (t1 ([], false) (lod (v := .d (eApiValue v118)) rfl (ld_rop ts40 ta40 rfl)) rfl (t1 ([3], true) (bsn (k := 3) (ds := List.map eApiValue [v118]) (off := 0) (l' := [v118].length) rfl un55 ei40 rfl rfl (by rfl) rfl rfl rfl) rfl (t1 ([0, 3, 4], true) (app rfl rfl rfl rfl bc55 (aF (f := eApiValue) (xs := y102) (k := 4) rfl un55 ei40 rfl (el_full (xs := [v118]) rfl) hg119 rfl)) rfl (t1 ([], false) (mv rfl) rfl (t1 ([], false) (far (k := 1) rfl fo48_1 ts4 rfl) rfl ?_)))))))))
    refine t1 ([2], false) (lod rfl (ld_box ts4 ta4 rfl rfl)) rfl (t1 ([5], true) (bsn (k := 5) (ds := List.map eB [v117.Down]) (off := 0) (l' := [v117.Down].length) rfl un97 ei4 rfl rfl (by rfl) rfl rfl rfl) rfl (t1 ([1, 5, 6], true) (app rfl rfl rfl rfl bc97 (aF (f := eB) (xs := y103) (k := 6) rfl un97 ei4 rfl (el_full (xs := [v117.Down]) rfl) hg120 rfl)) rfl (t1 ([], false) (asg rfl) rfl (t1 ([], false) (asg rfl) rfl (tn (by decide +kernel) (SC.region (sm rfl (sm rfl (sp h3 (fun h3 => ?_) (fun h3 => ?_))))))))))
    ·refine kw rfl (kw rfl (kw rfl (kw rfl (kw rfl (kw rfl (kw rfl (s1 (pkt rfl rfl) (sa rfl (SO.nil ?_)))))))))
     change SC _ _ _ _ _
     have q := si h3; subst q
     exact SC.region (s1 (bi rfl rfl q_i64_add) (sm rfl (SO.nil (lf (wc [4, 6] [4, 6] (by kernel_rfl) rfl (by kernel_rfl))))))
    ·obtain ⟨v121, hv121, h3⟩ := ob h3
     refine gw rfl (mv rfl) (gw rfl (far (k := 0) rfl fo48_0 ts3 rfl) (gw rfl (lod rfl (ld_box ts3 ta3 rfl rfl)) (gw rfl (ial rfl rfl un55 ts40 (getI_some hv121).1 (map_get (getI_some hv121).2) rfl) (gw rfl (fap rfl fo40_0 ts3 rfl) (gw rfl (lod rfl (ld_rop ts3 ta3 rfl)) (gw rfl (bi rfl rfl q_i64_eql) (s1 (pkf rfl rfl) (sa rfl (SO.nil ?_)))))))))
     change SC _ _ _ _ _
     have q := si h3; subst q
     exact SC.region (s1 (bi rfl rfl q_i64_add) (sm rfl (SO.nil (lf (wc [4, 6] [4, 6] (by kernel_rfl) rfl (by kernel_rfl))))))
   ·have q := si h3; subst q; have q : _ = _ := hv3; subst q; have q := si h1; subst q
    exact SC.exit ((wq rfl))
  ·rintro ⟨y93, y94, y95⟩ h0
   obtain ⟨⟨r123, r124⟩, hq125, h0⟩ := ob h0; have q := si h0; subst q
   refine sr (sm rfl (sm rfl (cq (args' := [.slc 0 3 0 y93.length none, .slc 1 1 0 y94.length none]) (σc := [.row 3 (List.map eApiValue y93) true, .row 1 (List.map eB y94) true]) [0, 1] [] (CallAt.frz (ArgF.frz (fF rfl rfl rfl) (ArgF.frz (fF rfl rfl rfl) (ArgF.nil _))) (fq [] [] (key_Encode_ok y93 y94 _ hq125) rfl rfl rfl rfl rfl rfl rfl rfl)) wf rfl rfl rfl cb67 rfl rfl rfl rfl rfl rfl rfl rfl (sm rfl (s1 (ext rfl rfl) (s1 (ext rfl rfl) (sa rfl (sa rfl (sn ?_)))))))))
   exact sr (sm rfl (sm rfl (sm rfl (sa rfl (sa rfl (sa rfl (sn (SC.ret (finR (wc (e' := [(6, .d (eS r123)), (7, .d (eB y95)), (8, .d (eI r124))]) [] [] (by kernel_rfl) rfl (by kernel_rfl)) (lresT rfl (lresT rfl (lresT rfl lresN))) rfl)))))))))
noncomputable def schema_Front (p0 : ApiTable) (p1 : ApiIndex) (p2 : List ApiValue) : Option ((List UInt8) × Bool × Int) :=
 Option.bind (schema_keyed p0 p1.Parts p2) fun (r8, r9, r10) =>
 some (r8, r9, r10)
theorem schema_Front_ok (p0 : ApiTable) (p1 : ApiIndex) (p2 : List ApiValue) (r : (List UInt8) × Bool × Int) (h0 : schema_Front p0 p1 p2 = some r) : CallAt Tryz.prog 42 [.d (eApiTable p0), .d (eApiIndex p1), .d ((eL 3 eApiValue) p2)] [] (.tuple [.d (eS r.1), .d (eB r.2.1), .d (eI r.2.2)]) [] := by
 unfold schema_Front at h0
 refine fn0 [0, 1, 2] Tryz.func42 rfl rfl rfl rfl rfl ?_
 obtain ⟨⟨r8, r9, r10⟩, hq11, h0⟩ := ob h0; have q := si h0; subst q
 refine sr (s1 (bxo (k := 0) rfl rfl rfl) (s1 (bxo (k := 1) rfl rfl rfl) (s1 (asg (v := .d (eS ([] : List UInt8))) rfl) (sa rfl (sa rfl (sn (sr (s1 (lod (v := .d (eApiTable p0)) rfl (ld_box ts26 ta26 rfl rfl)) (s1 (far (k := 1) rfl fo29_1 ts27 rfl) ?_)))))))))
 refine s1 (lod rfl (ld_box ts27 ta27 rfl rfl)) (sm rfl (c0 (schema_keyed_ok p0 p1.Parts p2 _ hq11) wf rfl rfl rfl cb58 rfl (fun _ => rfl) (fun _ => rfl) (s1 (ext rfl rfl) (s1 (ext rfl rfl) (s1 (ext rfl rfl) (sa rfl (sa rfl (sa rfl (sn ?_)))))))))
 exact SC.ret (finR (wc (e' := [(6, .d (eS r8)), (7, .d (eB r9)), (8, .d (eI r10))]) [] [] (by kernel_rfl) rfl (by kernel_rfl)) (lresT rfl (lresT rfl (lresT rfl lresN))) rfl)
noncomputable def schema_up (p0 : List Int) : Option ((List ApiPart)) :=
 Option.bind (α := (List ApiPart))
 (Option.bind (α := (List ApiPart))
 (loop (Y := (List ApiPart) × Int) (W := (List ApiPart)) (fun (y47, y48) =>
 bif (decide (y48 < (p0.length : Int))) then
 Option.bind (getI p0 y48) fun v55 =>
 bif decide ((y47.length + [(ApiPart.mk v55 false)].length) * 16 ≤ room) then
 some (Sum.inl ((y47 ++ [(ApiPart.mk v55 false)]), (w64 (y48 + (1 : Int)))))
 else none
 else
 some (Sum.inr y47)) (([] : List ApiPart), (0 : Int)))
 (fun e => some e))
 fun y43 =>
 some y43
theorem schema_up_ok (p0 : List Int) (r : (List ApiPart)) (h0 : schema_up p0 = some r) : CallAt Tryz.prog 38 [.d ((eL 1 eI) p0)] [] (.d ((eL 2 eApiPart) r)) [] := by
 unfold schema_up at h0
 refine fn0 [0] Tryz.func38 rfl rfl rfl rfl rfl ?_
 refine sr (s1 (asg (v := .d .nils) rfl) (sn (sr (s1 (asg (v := .d .nils) rfl) (sn (SC.seqP h0 (fun y => ⟨mk 19 [(3, .slc 0 2 0 y.length none)], [.row 2 (List.map eApiPart y) true]⟩) ?_ ?_))))))
 ·intro u1_44 h1
  obtain ⟨u2_54, h2, h1⟩ := ob h1
  refine sr (sm rfl (s1 (len rfl rfl rfl (len_lst un23)) (sm rfl (sn (SC.blk (SC.loopB h2 (fun y => ⟨mk 19 [(3, .slc 0 2 0 y.1.length none), (6, .d ((eL 1 eI) p0)), (7, .d (eI (p0.length : Int))), (8, .d (eI y.2))], [.row 2 (List.map eApiPart y.1) true]⟩) (Wk.trans (Wk.pushE (σ' := [.row 2 (List.map eApiPart ([] : List ApiPart)) true]) (.row 2 [] true) (fun _ hh => by cases hh) rfl) (Wk.trans (Wk.env (e' := [(3, .slc 0 2 0 (([] : List ApiPart).length) none), (6, .d ((eL 1 eI) p0)), (7, .d (eI (p0.length : Int))), (8, .d (eI (0 : Int)))]) (EW.cons (AW.slcn _ _ _) (EW.cons (AW.refl _) (EW.cons (AW.refl _) (EW.cons (AW.refl _) EW.nil))))) (wq rfl))) ?_))))))
  intro n57
  rintro ⟨y47, y48⟩ w2_53 h3 hv3
  refine sr (s1 (bi rfl rfl q_i64_lss) (sn (sq (cB h3 rfl (fun h3 => ?_) (fun h3 => ?_)))))
  ·obtain ⟨v55, hv55, h3⟩ := ob h3; obtain ⟨hg56, h3⟩ := gd h3
   refine sk (sq (SC.blk (sr (s1 (ial rfl rfl un23 ts3 (getI_some hv55).1 (map_get (getI_some hv55).2) rfl) (s1 (lod rfl (ld_rop ts3 ta3 rfl)) (sa rfl (sn (SC.region (sm rfl ?_)))))))))
   refine sm rfl (s1 (bld rfl (bd48_0 v55)) (s1 (bsn (k := 1) (ds := List.map eApiPart [(ApiPart.mk v55 false)]) (off := 0) (l' := [(ApiPart.mk v55 false)].length) rfl un27 ei48 rfl rfl (by rfl) rfl rfl rfl) (s1 (app rfl rfl rfl rfl bc27 (aF (f := eApiPart) (xs := y47) (k := 2) rfl un27 ei48 rfl (el_full (xs := [(ApiPart.mk v55 false)]) rfl) hg56 rfl)) (sa rfl (SO.nil ?_)))))
   change SC _ _ _ _ _
   have q := si h3; subst q
   exact SC.region (s1 (bi rfl rfl q_i64_add) (sm rfl (SO.nil (lf (wc [2] [2] (by kernel_rfl) rfl (by kernel_rfl))))))
  ·have q := si h3; subst q; have q : _ = _ := hv3; subst q; have q := si h1; subst q
   exact SC.exit ((wq rfl))
 ·rintro y43 h0
  have q := si h0; subst q
  exact sr (sm rfl (sa rfl (sn (SC.ret (finR (Wk.trans (Wk.frz (i := 2) (x := .slc 0 2 0 y43.length none) rfl rfl (fF rfl rfl rfl)) (wc (e' := [(2, .d ((eL 2 eApiPart) y43))]) [] [] (by kernel_rfl) rfl (by kernel_rfl))) (lresT rfl lresN) rfl)))))
noncomputable def schema_Primary (p0 : ApiTable) (p1 : List ApiValue) : Option ((List UInt8) × Int) :=
 Option.bind (schema_up p0.Primary) fun r9 =>
 Option.bind (schema_keyed p0 r9 p1) fun (r11, r12, r13) =>
 some (r11, r13)
theorem schema_Primary_ok (p0 : ApiTable) (p1 : List ApiValue) (r : (List UInt8) × Int) (h0 : schema_Primary p0 p1 = some r) : CallAt Tryz.prog 43 [.d (eApiTable p0), .d ((eL 3 eApiValue) p1)] [] (.tuple [.d (eS r.1), .d (eI r.2)]) [] := by
 unfold schema_Primary at h0
 refine fn0 [0, 1] Tryz.func43 rfl rfl rfl rfl rfl ?_
 obtain ⟨r9, hq10, h0⟩ := ob h0; obtain ⟨⟨r11, r12, r13⟩, hq14, h0⟩ := ob h0; have q := si h0; subst q
 refine sr (s1 (bxo (k := 0) rfl rfl rfl) (s1 (asg (v := .d (eS ([] : List UInt8))) rfl) (sa rfl (sn (sd (by kernel_rfl) (t1 ([0], false) (lod (v := .d (eApiTable p0)) rfl (ld_box ts26 ta26 rfl rfl)) rfl (t1 ([], false) (far (k := 2) rfl fo26_2 ts23 rfl) rfl (t1 ([0], false) (lod rfl (ld_box ts23 ta23 rfl rfl)) rfl (tc0 (schema_up_ok p0.Primary _ hq10) wf rfl rfl rfl cb38 rfl (fun _ => rfl) (fun _ => rfl) ?_)))))))))
 refine t1 ([], false) (mv rfl) rfl (tc0 (schema_keyed_ok p0 r9 p1 _ hq14) wf rfl rfl rfl cb58 rfl (fun _ => rfl) (fun _ => rfl) (t1 ([], false) (mv rfl) rfl (t1 ([], false) (ext rfl rfl) rfl (t1 ([], false) (ext rfl rfl) rfl (t1 ([], false) (ext rfl rfl) rfl (t1 ([], false) (asg rfl) rfl (t1 ([], false) (asg rfl) rfl (t1 ([], false) (asg rfl) rfl (tn (by decide +kernel) ?_)))))))))
 exact sr (sm rfl (sm rfl (sa rfl (sa rfl (sn (SC.ret (finR (wc (e' := [(4, .d (eS r11)), (5, .d (eI r13))]) [] [] (by kernel_rfl) rfl (by kernel_rfl)) (lresT rfl (lresT rfl lresN)) rfl)))))))
noncomputable def schema_extras (p0 : ApiTable) (p1 : ApiIndex) : Option ((List ApiColumn)) :=
 Option.bind (α := (List ApiColumn))
 (Option.bind (α := (List ApiColumn))
 (loop (Y := (List ApiColumn) × Int) (W := (List ApiColumn)) (fun (y57, y58) =>
 bif (decide (y58 < (p1.Extra.length : Int))) then
 Option.bind (getI p1.Extra y58) fun v66 =>
 Option.bind (getI p0.Cols v66) fun v67 =>
 bif decide ((y57.length + [v67].length) * 72 ≤ room) then
 some (Sum.inl ((y57 ++ [v67]), (w64 (y58 + (1 : Int)))))
 else none
 else
 some (Sum.inr y57)) (([] : List ApiColumn), (0 : Int)))
 (fun e => some e))
 fun y52 =>
 some y52
theorem schema_extras_ok (p0 : ApiTable) (p1 : ApiIndex) (r : (List ApiColumn)) (h0 : schema_extras p0 p1 = some r) : CallAt Tryz.prog 45 [.d (eApiTable p0), .d (eApiIndex p1)] [] (.d ((eL 7 eApiColumn) r)) [] := by
 unfold schema_extras at h0
 refine fn0 [0, 1] Tryz.func45 rfl rfl rfl rfl rfl ?_
 refine sr (s1 (bxo (k := 0) rfl rfl rfl) (s1 (bxo (k := 1) rfl rfl rfl) (s1 (asg (v := .d .nils) rfl) (sn (sr (s1 (asg (v := .d .nils) rfl) (sn (SC.seqP h0 (fun y => ⟨mk 25 [(5, .slc 0 7 0 y.length none)], [.row 7 (List.map eApiColumn y) true]⟩) ?_ ?_))))))))
 ·intro u1_53 h1
  obtain ⟨u2_65, h2, h1⟩ := ob h1
  refine sr (s1 (far (k := 2) rfl fo29_2 ts23 rfl) (s1 (lod rfl (ld_box ts23 ta23 rfl rfl)) (s1 (len rfl rfl rfl (len_lst un23)) (sm rfl (sn (SC.blk (SC.loopB h2 (fun y => ⟨mk 25 [(2, .ref 0 0 0), (5, .slc 1 7 0 y.1.length none), (9, .d ((eL 1 eI) p1.Extra)), (10, .d (eI (p1.Extra.length : Int))), (11, .d (eI y.2))], [.box (.d (eApiTable p0)), .row 7 (List.map eApiColumn y.1) true]⟩) (Wk.trans (Wk.pushE (σ' := [.box (.d (eApiTable p0)), .box (.d (eApiIndex p1)), .row 7 (List.map eApiColumn ([] : List ApiColumn)) true]) (.row 7 [] true) (fun _ hh => by cases hh) rfl) (Wk.trans (Wk.env (e' := [(2, .ref 0 0 0), (5, .slc 2 7 0 (([] : List ApiColumn).length) none), (9, .d ((eL 1 eI) p1.Extra)), (10, .d (eI (p1.Extra.length : Int))), (11, .d (eI (0 : Int)))]) (EW.cons (AW.refl _) (EW.cons (AW.slcn _ _ _) (EW.cons (AW.refl _) (EW.cons (AW.refl _) (EW.cons (AW.refl _) EW.nil)))))) (wc [0, 2] [0, 2] (by kernel_rfl) rfl (by kernel_rfl)))) ?_)))))))
  intro n69
  rintro ⟨y57, y58⟩ w2_64 h3 hv3
  refine sr (s1 (bi rfl rfl q_i64_lss) (sn (sq (cB h3 rfl (fun h3 => ?_) (fun h3 => ?_)))))
  ·obtain ⟨v66, hv66, h3⟩ := ob h3; obtain ⟨v67, hv67, h3⟩ := ob h3; obtain ⟨hg68, h3⟩ := gd h3
   refine sk (sq (SC.blk (sr (s1 (ial rfl rfl un23 ts3 (getI_some hv66).1 (map_get (getI_some hv66).2) rfl) (s1 (lod rfl (ld_rop ts3 ta3 rfl)) (sa rfl (sn (SC.region (sm rfl ?_)))))))))
   refine s1 (far (k := 1) rfl fo26_1 ts22 rfl) (s1 (lod rfl (ld_box ts22 ta22 rfl rfl)) (sm rfl (s1 (ial rfl rfl un22 ts42 (getI_some hv67).1 (map_get (getI_some hv67).2) rfl) (s1 (lod (v := .d (eApiColumn v67)) rfl (ld_rop ts42 ta42 rfl)) (s1 (bsn (k := 2) (ds := List.map eApiColumn [v67]) (off := 0) (l' := [v67].length) rfl un22 ei42 rfl rfl (by rfl) rfl rfl rfl) (s1 (app rfl rfl rfl rfl bc22 (aF (f := eApiColumn) (xs := y57) (k := 3) rfl un22 ei42 rfl (el_full (xs := [v67]) rfl) hg68 rfl)) (sa rfl (SO.nil ?_))))))))
   change SC _ _ _ _ _
   have q := si h3; subst q
   exact SC.region (s1 (bi rfl rfl q_i64_add) (sm rfl (SO.nil (lf (wc [0, 3] [0, 3] (by kernel_rfl) rfl (by kernel_rfl))))))
  ·have q := si h3; subst q; have q : _ = _ := hv3; subst q; have q := si h1; subst q
   exact SC.exit ((wc [1] [1] (by kernel_rfl) rfl (by kernel_rfl)))
 ·rintro y52 h0
  have q := si h0; subst q
  exact sr (sm rfl (sa rfl (sn (SC.ret (finR (Wk.trans (Wk.frz (i := 4) (x := .slc 0 7 0 y52.length none) rfl rfl (fF rfl rfl rfl)) (wc (e' := [(4, .d ((eL 7 eApiColumn) y52))]) [] [] (by kernel_rfl) rfl (by kernel_rfl))) (lresT rfl lresN) rfl)))))
noncomputable def pack_Out_U8_1 (p0 : UInt8) : Option Unit :=
 Option.bind (pack_Out_put [p0]) fun _ =>
 some ()
theorem pack_Out_U8_1_ok (p0 : UInt8) (r : Unit) (h0 : pack_Out_U8_1 p0 = some r) : CallAt Tryz.prog 60 [.ref 0 0 0, .d (eU8 p0)] [.box (.d (.agg [.nils]))] (.tuple []) [.box (.agg [.slc 1 1 0 ([p0].length) none]), .row 1 (List.map eU8 [p0]) true] := by
 unfold pack_Out_U8_1 at h0
 refine fn0 [0, 1] Tryz.func60 rfl rfl rfl rfl rfl ?_
 obtain ⟨_, hq2, h0⟩ := ob h0; have q := si h0; subst q
 exact SC.region (sm rfl (sm rfl (s1 (bsn (k := 1) (ds := List.map eU8 [p0]) (off := 0) (l' := [p0].length) rfl un88 ei5 rfl rfl (by rfl) rfl rfl rfl) (cq (args' := [.ref 0 0 0, .slc 1 1 0 ([p0].length) none]) (σc := [.box (.d (.agg [.nils])), .row 1 (List.map eU8 [p0]) true]) [0, 1] [2] (CallAt.frz (ArgF.keep (ArgF.frz (fF rfl rfl rfl) (ArgF.nil _))) (fq [0] [2] (pack_Out_put_ok [p0] _ hq2) rfl rfl rfl rfl rfl rfl rfl rfl)) wf rfl rfl rfl cb69 rfl rfl rfl rfl rfl rfl rfl rfl (SO.nil (finN (wc (e' := []) [0, 2] [0] (by kernel_rfl) rfl (by kernel_rfl)) lresN rfl))))))
noncomputable def pack_Out_Flag_1 (p0 : Bool) (p1 : List UInt8) : Option ((List UInt8)) :=
 bif p0 then
 Option.bind (pack_Out_put_1 [(1 : UInt8)] p1) fun _ =>
 some (p1 ++ [(1 : UInt8)])
 else
 Option.bind (pack_Out_put_1 [(0 : UInt8)] p1) fun _ =>
 some (p1 ++ [(0 : UInt8)])
theorem pack_Out_Flag_1_ok (p0 : Bool) (p1 : List UInt8) (r : (List UInt8)) (h0 : pack_Out_Flag_1 p0 p1 = some r) : CallAt Tryz.prog 70 [.ref 0 0 0, .d (eB p0)] [.box (.agg [.slc 1 1 0 p1.length none]), .row 1 (List.map eU8 p1) true] (.tuple []) [.box (.agg [.slc 2 1 0 r.length none]), .dead, .row 1 (List.map eU8 r) true] := by
 unfold pack_Out_Flag_1 at h0
 refine fn0 [0, 1] Tryz.func70 rfl rfl rfl rfl rfl ?_
 refine sr (sm rfl (sn (cB h0 rfl (fun h0 => ?_) (fun h0 => ?_))))
 ·obtain ⟨_, hq4, h0⟩ := ob h0; have q := si h0; subst q
  exact SC.region (sm rfl (s1 (bsn (k := 2) (ds := List.map eU8 [(1 : UInt8)]) (off := 0) (l' := [(1 : UInt8)].length) rfl un88 ei5 rfl rfl (by rfl) rfl rfl rfl) (cq (args' := [.ref 0 0 0, .slc 1 1 0 ([(1 : UInt8)].length) none]) (σc := [.box (.agg [.slc 2 1 0 p1.length none]), .row 1 (List.map eU8 [(1 : UInt8)]) true, .row 1 (List.map eU8 p1) true]) [0, 2, 1] [3] (CallAt.frz (ArgF.keep (ArgF.frz (fF rfl rfl rfl) (ArgF.nil _))) (fq [0, 2] [3] (pack_Out_put_1_ok [(1 : UInt8)] p1 _ hq4) rfl rfl rfl rfl rfl rfl rfl rfl)) wf rfl rfl rfl cb69 rfl rfl rfl rfl rfl rfl rfl rfl (SO.nil (finN (wc (e' := []) [0, 1, 3] [0, 1] (by kernel_rfl) rfl (by kernel_rfl)) lresN rfl)))))
 ·obtain ⟨_, hq5, h0⟩ := ob h0; have q := si h0; subst q
  exact SC.region (sm rfl (s1 (bsn (k := 2) (ds := List.map eU8 [(0 : UInt8)]) (off := 0) (l' := [(0 : UInt8)].length) rfl un88 ei5 rfl rfl (by rfl) rfl rfl rfl) (cq (args' := [.ref 0 0 0, .slc 1 1 0 ([(0 : UInt8)].length) none]) (σc := [.box (.agg [.slc 2 1 0 p1.length none]), .row 1 (List.map eU8 [(0 : UInt8)]) true, .row 1 (List.map eU8 p1) true]) [0, 2, 1] [3] (CallAt.frz (ArgF.keep (ArgF.frz (fF rfl rfl rfl) (ArgF.nil _))) (fq [0, 2] [3] (pack_Out_put_1_ok [(0 : UInt8)] p1 _ hq5) rfl rfl rfl rfl rfl rfl rfl rfl)) wf rfl rfl rfl cb69 rfl rfl rfl rfl rfl rfl rfl rfl (SO.nil (finN (wc (e' := []) [0, 1, 3] [0, 1] (by kernel_rfl) rfl (by kernel_rfl)) lresN rfl)))))
noncomputable def pack_Out_Text (p0 : List UInt8) (p1 : List UInt8) : Option (Bool × (List UInt8)) :=
 Option.bind (α := Unit)
 (some ())
 fun _ =>
 bif (decide ((p0.length : Int) > (65535 : Int))) then
 some (false, p1)
 else
 Option.bind (pack_Out_U16 (u16i (p0.length : Int)) p1) fun _ =>
 bif decide (((p1 ++ [((shr16 (u16i (p0.length : Int)) 8).toUInt8), ((u16i (p0.length : Int)).toUInt8)]).length + p0.length) * 1 ≤ room) then
 some (true, ((p1 ++ [((shr16 (u16i (p0.length : Int)) 8).toUInt8), ((u16i (p0.length : Int)).toUInt8)]) ++ p0))
 else none
theorem pack_Out_Text_ok (p0 : List UInt8) (p1 : List UInt8) (r : Bool × (List UInt8)) (h0 : pack_Out_Text p0 p1 = some r) : CallAt Tryz.prog 72 [.ref 0 0 0, .d (eS p0)] [.box (.agg [.slc 1 1 0 p1.length none]), .row 1 (List.map eU8 p1) true] (.d (eB r.1)) [.box (.agg [.slc 2 1 0 r.2.length none]), .dead, .row 1 (List.map eU8 r.2) true] := by
 unfold pack_Out_Text at h0
 refine fn0 [0, 1] Tryz.func72 rfl rfl rfl rfl rfl ?_
 refine sr (sa rfl (sn (sq (SC.seqP h0 (fun y => ⟨mk 26 [(0, .ref 0 0 0), (1, .d (eS p0)), (11, .d (eB (decide ((p0.length : Int) > (65535 : Int)))))], [.box (.agg [.slc 1 1 0 p1.length none]), .row 1 (List.map eU8 p1) true]⟩) ?_ ?_))))
 ·intro u1_6 h1
  have q := si h1; subst q
  exact SC.region (sm rfl (s1 (bi (v := .d (eB false)) rfl rfl (fun _ _ => nil_eql un93)) (sm rfl (gw rfl (mv rfl) (gw rfl (len rfl rfl rfl (len_str un9)) (gw rfl (bi rfl rfl q_i64_gtr) (s1 (pkf rfl rfl) (SO.nil ((wq rfl))))))))))
 ·intro _ h0
  refine cB h0 rfl (fun h0 => ?_) (fun h0 => ?_)
  ·have q := si h0; subst q
   exact sr (sa rfl (sn (SC.ret (finR (Wk.trans (wq (e' := [(4, .d (eB false))]) rfl) (Wk.trans (Wk.move (e' := [(4, .d (eB false))]) (os := [.box (.agg [.slc 2 1 0 p1.length none]), .row 1 (List.map eU8 p1) true]) (o := .row 1 (List.map eU8 p1) true) (σ' := [.box (.agg [.slc 2 1 0 p1.length none]), .dead, .row 1 (List.map eU8 p1) true]) 1 (Nat.le_of_ble_eq_true rfl) rfl rfl rfl rfl) (wq (e' := [(4, .d (eB false))]) rfl))) (lresT rfl lresN) rfl))))
  ·obtain ⟨_, hq7, h0⟩ := ob h0; obtain ⟨hg8, h0⟩ := gd h0; have q := si h0; subst q
   refine sk (sr (sm rfl (sm rfl (s1 (len rfl rfl rfl (len_str un9)) (s1 (cvo rfl (cv_i64_u16 un3 un111 (p0.length : Int))) (cq [0, 1] [2] (pack_Out_U16_ok (u16i (p0.length : Int)) p1 _ hq7) wf rfl rfl rfl cb81 rfl rfl rfl rfl rfl rfl rfl rfl (sn (sr (sm rfl ?_)))))))))
   refine sm rfl (s1 (nkr rfl) (s1 (far (k := 0) rfl fo90_0 ts88 rfl) (s1 (lod rfl (ld_box ts88 ta88 rfl rfl)) (sm rfl (s1 (app rfl rfl rfl rfl bc9 (aF (f := eU8) (xs := (p1 ++ [((shr16 (u16i (p0.length : Int)) 8).toUInt8), ((u16i (p0.length : Int)).toUInt8)])) (k := 3) rfl un88 ei5 rfl el_str hg8 rfl)) (s1 (nkr rfl) (s1 (far (k := 0) rfl fo90_0 ts88 rfl) (s0 (sto rfl rfl (sB (d' := .agg [.slc 3 1 0 (((p1 ++ [((shr16 (u16i (p0.length : Int)) 8).toUInt8), ((u16i (p0.length : Int)).toUInt8)]) ++ p0).length) none]) ts88 rfl rfl rfl rfl rfl rfl rfl)) (sn ?_)))))))))
   exact sr (sa rfl (sn (SC.ret (finR (Wk.trans (wq (e' := [(4, .d (eB true))]) rfl) (wc (e' := [(4, .d (eB true))]) [0, 1, 3] [0, 1] (by kernel_rfl) rfl (by kernel_rfl))) (lresT rfl lresN) rfl))))
noncomputable def row_put (p0 : ApiValue) (p1 : List UInt8) : Option ((List UInt8)) :=
 Option.bind (pack_Out_Flag_1 (p0.Kind == (0 : Int)) p1) fun r13 =>
 Option.bind (α := Bool)
 (bif (p0.Kind == (1 : Int)) then
 some (p0.Kind == (1 : Int))
 else
 some (p0.Kind == (2 : Int)))
 fun y15 =>
 bif y15 then
 Option.bind (pack_Out_U64 p0.N r13) fun _ =>
 some ((((r13 ++ [((shr16 ((shr32 ((shr64 p0.N 32).toUInt32) 16).toUInt16) 8).toUInt8), (((shr32 ((shr64 p0.N 32).toUInt32) 16).toUInt16).toUInt8)]) ++ [((shr16 (((shr64 p0.N 32).toUInt32).toUInt16) 8).toUInt8), ((((shr64 p0.N 32).toUInt32).toUInt16).toUInt8)]) ++ [((shr16 ((shr32 (p0.N.toUInt32) 16).toUInt16) 8).toUInt8), (((shr32 (p0.N.toUInt32) 16).toUInt16).toUInt8)]) ++ [((shr16 ((p0.N.toUInt32).toUInt16) 8).toUInt8), (((p0.N.toUInt32).toUInt16).toUInt8)])
 else
 bif (p0.Kind == (3 : Int)) then
 Option.bind (pack_Out_U8 (p0.N.toUInt8) r13) fun _ =>
 some (r13 ++ [(p0.N.toUInt8)])
 else
 Option.bind (α := Bool)
 (bif (p0.Kind == (4 : Int)) then
 some (p0.Kind == (4 : Int))
 else
 some (p0.Kind == (5 : Int)))
 fun y19 =>
 bif y19 then
 Option.bind (pack_Out_Text p0.S r13) fun (r21, r22) =>
 some r22
 else
 some r13
theorem row_put_ok (p0 : ApiValue) (p1 : List UInt8) (r : (List UInt8)) (h0 : row_put p0 p1 = some r) : CallAt Tryz.prog 61 [.ref 0 0 0, .d (eApiValue p0)] [.box (.agg [.slc 1 1 0 p1.length none]), .row 1 (List.map eU8 p1) true] (.tuple []) [.box (.agg [.slc 2 1 0 r.length none]), .dead, .row 1 (List.map eU8 r) true] := by
 unfold row_put at h0
 refine fn0 [0, 1] Tryz.func61 rfl rfl rfl rfl rfl ?_
 obtain ⟨r13, hq14, h0⟩ := ob h0
 refine sr (s1 (bxo (k := 2) rfl rfl rfl) (sn (sr (sm rfl (s1 (far (k := 0) rfl fo40_0 ts3 rfl) (s1 (lod rfl (ld_box ts3 ta3 rfl rfl)) (s1 (bi rfl rfl q_i64_eql) (cq [0, 1] [3] (pack_Out_Flag_1_ok (p0.Kind == (0 : Int)) p1 _ hq14) wf rfl rfl rfl cb70 rfl rfl rfl rfl rfl rfl rfl rfl (sn ?_)))))))))
 refine sr (s1 (far (k := 0) rfl fo40_0 ts3 rfl) (s1 (lod rfl (ld_box ts3 ta3 rfl rfl)) (sn (SC.blk (SC.seqP h0 (fun y => ⟨mk 32 [(0, .ref 0 0 0), (3, .ref 2 0 0), (10, .d (eI p0.Kind)), (11, .d (eB y))], [.box (.agg [.slc 3 1 0 r13.length none]), .dead, .box (.d (eApiValue p0)), .row 1 (List.map eU8 r13) true]⟩) ?_ ?_)))))
 ·intro u1_16 h1
  refine sr (s1 (bi rfl rfl q_i64_eql) (sa rfl (sn (cB h1 rfl (fun h1 => ?_) (fun h1 => ?_)))))
  ·have q := si h1; subst q
   exact SC.skip ((wq rfl))
  ·have q := si h1; subst q
   exact SC.region (s1 (bi rfl rfl q_i64_eql) (sa rfl (SO.nil ((wq rfl)))))
 ·rintro y15 h0
  refine cB h0 rfl (fun h0 => ?_) (fun h0 => ?_)
  ·obtain ⟨_, hq17, h0⟩ := ob h0; have q := si h0; subst q
   exact SC.region (sm rfl (s1 (far (k := 1) rfl fo40_1 ts38 rfl) (s1 (lod rfl (ld_box ts38 ta38 rfl rfl)) (cq [0, 3] [4] (pack_Out_U64_ok p0.N r13 _ hq17) wf rfl rfl rfl cb71 rfl rfl rfl rfl rfl rfl rfl rfl (SO.nil (finN (wc (e' := []) [0, 1, 4] [0, 1] (by kernel_rfl) rfl (by kernel_rfl)) lresN rfl))))))
  ·refine sr (s1 (bi rfl rfl q_i64_eql) (sa rfl (sn (cB h0 rfl (fun h0 => ?_) (fun h0 => ?_)))))
   ·obtain ⟨_, hq18, h0⟩ := ob h0; have q := si h0; subst q
    exact SC.region (sm rfl (s1 (far (k := 1) rfl fo40_1 ts38 rfl) (s1 (lod rfl (ld_box ts38 ta38 rfl rfl)) (s1 (cvo rfl (cv_u64_u8 un38 un5 p0.N)) (cq [0, 3] [4] (pack_Out_U8_ok (p0.N.toUInt8) r13 _ hq18) wf rfl rfl rfl cb60 rfl rfl rfl rfl rfl rfl rfl rfl (SO.nil (finN (wc (e' := []) [0, 1, 4] [0, 1] (by kernel_rfl) rfl (by kernel_rfl)) lresN rfl)))))))
   ·refine SC.seqP h0 (fun y => ⟨mk 32 [(0, .ref 0 0 0), (3, .ref 2 0 0), (25, .d (eB y))], [.box (.agg [.slc 3 1 0 r13.length none]), .dead, .box (.d (eApiValue p0)), .row 1 (List.map eU8 r13) true]⟩) ?_ ?_
    ·intro u1_20 h1
     refine sr (s1 (bi rfl rfl q_i64_eql) (sa rfl (sn (cB h1 rfl (fun h1 => ?_) (fun h1 => ?_)))))
     ·have q := si h1; subst q
      exact SC.skip ((wq rfl))
     ·have q := si h1; subst q
      exact SC.region (s1 (bi rfl rfl q_i64_eql) (sa rfl (SO.nil ((wq rfl)))))
    ·rintro y19 h0
     refine cB h0 rfl (fun h0 => ?_) (fun h0 => ?_)
     ·obtain ⟨⟨r21, r22⟩, hq23, h0⟩ := ob h0; have q := si h0; subst q
      exact SC.region (sm rfl (s1 (far (k := 2) rfl fo40_2 ts9 rfl) (s1 (lod rfl (ld_box ts9 ta9 rfl rfl)) (cq [0, 3] [4] (pack_Out_Text_ok p0.S r13 _ hq23) wf rfl rfl rfl cb72 rfl rfl rfl rfl rfl rfl rfl rfl (SO.nil (finN (wc (e' := []) [0, 1, 4] [0, 1] (by kernel_rfl) rfl (by kernel_rfl)) lresN rfl))))))
     ·have q := si h0; subst q
      exact SC.skip (finN (wc (e' := []) [0, 1, 3] [0, 1] (by kernel_rfl) rfl (by kernel_rfl)) lresN rfl)
noncomputable def row_Encode (p0 : List ApiColumn) (p1 : List ApiValue) : Option ((List UInt8) × Int) :=
 Option.bind (row_Fits p0 p1) fun r41 =>
 bif (r41 != (0 : Int)) then
 some (([] : List UInt8), r41)
 else
 Option.bind (pack_Out_U8_1 (u8i (p1.length : Int))) fun _ =>
 Option.bind (α := (List UInt8))
 (Option.bind (α := (List UInt8))
 (loop (Y := Int × (List UInt8)) (W := (List UInt8)) (fun (y65, y66) =>
 bif (decide (y65 < (p1.length : Int))) then
 Option.bind (getI p1 y65) fun v74 =>
 Option.bind (row_put v74 y66) fun r75 =>
 some (Sum.inl ((w64 (y65 + (1 : Int))), r75))
 else
 some (Sum.inr y66)) ((0 : Int), [(u8i (p1.length : Int))]))
 (fun e => some e))
 fun y60 =>
 Option.bind (pack_Out_Bytes y60) fun _ =>
 bif (decide ((y60.length : Int) > (512 : Int))) then
 some (([] : List UInt8), (7 : Int))
 else
 some (y60, (0 : Int))
theorem row_Encode_ok (p0 : List ApiColumn) (p1 : List ApiValue) (r : (List UInt8) × Int) (h0 : row_Encode p0 p1 = some r) : CallAt Tryz.prog 44 [.d ((eL 7 eApiColumn) p0), .d ((eL 3 eApiValue) p1)] [] (.tuple [.d (eS r.1), .d (eI r.2)]) [] := by
 unfold row_Encode at h0
 refine fn0 [0, 1] Tryz.func44 rfl rfl rfl rfl rfl ?_
 obtain ⟨r41, hq42, h0⟩ := ob h0
 refine sr (s1 (asg (v := .d (eS ([] : List UInt8))) rfl) (sa rfl (sn (sq (sr (sm rfl (sm rfl (c0 (row_Fits_ok p0 p1 _ hq42) wf rfl rfl rfl cb59 rfl (fun _ => rfl) (fun _ => rfl) (sa rfl ?_)))))))))
 refine sn (sr (sm rfl (s1 (bi rfl rfl q_i64_neq) (sn (cB h0 rfl (fun h0 => ?_) (fun h0 => ?_))))))
 ·have q := si h0; subst q
  exact sr (sm rfl (s1 (asg (v := .d (eS ([] : List UInt8))) rfl) (sa rfl (sn (SC.ret (finR (Wk.refl _) (lresT rfl (lresT rfl lresN)) rfl))))))
 ·obtain ⟨_, hq43, h0⟩ := ob h0
  refine sk (sr (s1 (alo (k := 0) zo90 rfl) (sn (sr (sm rfl (s1 (len rfl rfl rfl (len_lst un55)) (s1 (cvo rfl (cv_i64_u8 un3 un5 (p1.length : Int))) (cq [0] [1] (pack_Out_U8_1_ok (u8i (p1.length : Int)) _ hq43) wf rfl rfl rfl cb60 rfl rfl rfl rfl rfl rfl rfl rfl (sn ?_)))))))))
  refine SC.seqP h0 (fun y => ⟨mk 36 [(7, .ref 0 0 0)], [.box (.agg [.slc 1 1 0 y.length none]), .row 1 (List.map eU8 y) true]⟩) ?_ ?_
  ·intro u1_61 h1
   obtain ⟨u2_73, h2, h1⟩ := ob h1
   refine sr (sm rfl (s1 (len rfl rfl rfl (len_lst un55)) (sm rfl (sn (SC.blk (SC.loopB h2 (fun y => ⟨mk 36 [(7, .ref 0 0 0), (21, .d ((eL 3 eApiValue) p1)), (22, .d (eI (p1.length : Int))), (23, .d (eI y.1))], [.box (.agg [.slc 1 1 0 y.2.length none]), .row 1 (List.map eU8 y.2) true]⟩) (wq rfl) ?_))))))
   intro n77
   rintro ⟨y65, y66⟩ w2_72 h3 hv3
   refine sr (s1 (bi rfl rfl q_i64_lss) (sn (sq (cB h3 rfl (fun h3 => ?_) (fun h3 => ?_)))))
   ·obtain ⟨v74, hv74, h3⟩ := ob h3; obtain ⟨r75, hq76, h3⟩ := ob h3
    refine sk (sq (SC.blk (sr (s1 (ial rfl rfl un55 ts40 (getI_some hv74).1 (map_get (getI_some hv74).2) rfl) (s1 (lod (v := .d (eApiValue v74)) rfl (ld_rop ts40 ta40 rfl)) (s1 (alo (k := 2) zo40 rfl) (s0 (sto rfl rfl (sB (d' := .d (eApiValue v74)) ts40 rfl rfl rfl rfl rfl rfl rfl)) (sn (SC.region ?_)))))))))
    refine s1 (lod (v := .d (eApiValue v74)) rfl (ld_box ts40 ta40 rfl rfl)) (cq [0, 1] [3] (row_put_ok v74 y66 _ hq76) wf rfl rfl rfl cb61 rfl rfl rfl rfl rfl rfl rfl rfl (SO.nil ?_))
    change SC _ _ _ _ _
    have q := si h3; subst q
    exact SC.region (s1 (bi rfl rfl q_i64_add) (sm rfl (SO.nil (lf (wc [0, 3] [0] (by kernel_rfl) rfl (by kernel_rfl))))))
   ·have q := si h3; subst q; have q : _ = _ := hv3; subst q; have q := si h1; subst q
    exact SC.exit ((wq rfl))
  ·rintro y60 h0
   obtain ⟨_, hq78, h0⟩ := ob h0
   refine sr (cq [0, 1] [2] (pack_Out_Bytes_ok y60 _ hq78) wf rfl rfl rfl cb62 rfl rfl rfl rfl rfl rfl rfl rfl (sa rfl (sn (sq (sr (sm rfl (s1 (len rfl rfl rfl (len_slc un88)) (s1 (bi rfl rfl q_i64_gtr) (sn ?_)))))))))
   refine cB h0 rfl (fun h0 => ?_) (fun h0 => ?_)
   ·have q := si h0; subst q
    exact sr (s1 (asg (v := .d (eS ([] : List UInt8))) rfl) (sa rfl (sn (SC.ret (finR (wc (e' := [(4, .d (eS ([] : List UInt8))), (5, .d (eI (7 : Int)))]) [] [] (by kernel_rfl) rfl (by kernel_rfl)) (lresT rfl (lresT rfl lresN)) rfl)))))
   ·have q := si h0; subst q
    exact sk (sr (sm rfl (s1 (cvo (v := .d (eS y60)) rfl (cv_bytes_str un88 un9 un5 (el_full (xs := y60) rfl) (fun _ hh => by cases hh))) (sa rfl (sa rfl (sn (SC.ret (finR (wc (e' := [(4, .d (eS y60)), (5, .d (eI (0 : Int)))]) [] [] (by kernel_rfl) rfl (by kernel_rfl)) (lresT rfl (lresT rfl lresN)) rfl))))))))
noncomputable def schema_Entry (p0 : ApiTable) (p1 : ApiIndex) (p2 : List ApiValue) : Option (Int × ApiPair) :=
 Option.bind (schema_Front p0 p1 p2) fun (r92, r93, r94) =>
 bif (r94 != (0 : Int)) then
 some (r94, (ApiPair.mk ([] : List UInt8) ([] : List UInt8)))
 else
 Option.bind (schema_Primary p0 p2) fun (r96, r97) =>
 bif decide (r92.length + r96.length ≤ 9223372036854775807) then
 Option.bind (α := Int × ApiPair)
 (bif (decide ((p1.Extra.length : Int) > (0 : Int))) then
 Option.bind (α := (List ApiValue))
 (Option.bind (α := (List ApiValue))
 (loop (Y := (List ApiValue) × Int) (W := (List ApiValue)) (fun (y163, y164) =>
 bif (decide (y164 < (p1.Extra.length : Int))) then
 Option.bind (getI p1.Extra y164) fun v172 =>
 Option.bind (getI p2 v172) fun v173 =>
 bif decide ((y163.length + [v173].length) * 32 ≤ room) then
 some (Sum.inl ((y163 ++ [v173]), (w64 (y164 + (1 : Int)))))
 else none
 else
 some (Sum.inr y163)) (([] : List ApiValue), (0 : Int)))
 (fun e => some e))
 fun y158 =>
 Option.bind (schema_extras p0 p1) fun r176 =>
 Option.bind (row_Encode r176 y158) fun (r178, r179) =>
 some (r179, (ApiPair.mk (r92 ++ r96) r178))
 else
 some (r94, (ApiPair.mk (r92 ++ r96) ([] : List UInt8))))
 fun (y139, y140) =>
 some (y139, y140)
 else none
theorem schema_Entry_ok (p0 : ApiTable) (p1 : ApiIndex) (p2 : List ApiValue) (r : Int × ApiPair) (h0 : schema_Entry p0 p1 p2 = some r) : CallAt Tryz.prog 21 [.d (eApiTable p0), .d (eApiIndex p1), .d ((eL 3 eApiValue) p2)] [] (.tuple [.d (eApiPair r.2), .d (eI r.1)]) [.box (.d (eApiPair r.2))] := by
 unfold schema_Entry at h0
 refine fn0 [0, 1, 2] Tryz.func21 rfl rfl rfl rfl rfl ?_
 obtain ⟨⟨r92, r93, r94⟩, hq95, h0⟩ := ob h0
 refine sr (s1 (bxo (k := 0) rfl rfl rfl) (s1 (bxo (k := 1) rfl rfl rfl) (s1 (alo (k := 2) zo52 rfl) (sa rfl (sn (sr (s1 (lod (v := .d (eApiTable p0)) rfl (ld_box ts26 ta26 rfl rfl)) (s1 (lod (v := .d (eApiIndex p1)) rfl (ld_box ts29 ta29 rfl rfl)) (sm rfl ?_)))))))))
 refine c0 (schema_Front_ok p0 p1 p2 _ hq95) wf rfl rfl rfl cb42 rfl (fun _ => rfl) (fun _ => rfl) (sm rfl (s1 (ext rfl rfl) (s1 (ext rfl rfl) (s1 (ext rfl rfl) (sa rfl (sa rfl (sa rfl (sn (sq ?_)))))))))
 refine sr (sm rfl (s1 (bi rfl rfl q_i64_neq) (sn (cB h0 rfl (fun h0 => ?_) (fun h0 => ?_)))))
 ·have q := si h0; subst q
  exact sr (s1 (bld rfl (bd52_ )) (sm rfl (s0 (sto rfl rfl (sB (d' := .d (eApiPair (ApiPair.mk ([] : List UInt8) ([] : List UInt8)))) ts52 rfl rfl rfl rfl rfl rfl rfl)) (sa rfl (sn (SC.ret (finR (wc (e' := [(6, .ref 0 0 0), (7, .d (eI r94))]) [2] [2] (by kernel_rfl) rfl (by kernel_rfl)) (lresC rfl (ld_box ts52 ta52 rfl rfl) (lresT rfl lresN)) rfl)))))))
 ·obtain ⟨⟨r96, r97⟩, hq98, h0⟩ := ob h0; obtain ⟨hg99, h0⟩ := gd h0
  refine sk (sr (s1 (lod (v := .d (eApiTable p0)) rfl (ld_box ts26 ta26 rfl rfl)) (sm rfl (c0 (schema_Primary_ok p0 p2 _ hq98) wf rfl rfl rfl cb43 rfl (fun _ => rfl) (fun _ => rfl) (sm rfl (s1 (ext rfl rfl) (s1 (ext rfl rfl) (sa rfl (sa rfl ?_)))))))))
  refine sn (sr (sm rfl (sm rfl (s1 (bi (v := .d (eS (r92 ++ r96))) rfl rfl (fun X Y => b_str_add _ X Y r92 r96 hg99)) (s1 (bld rfl (bd52_0 (r92 ++ r96))) (s1 (alo (k := 3) zo52 rfl) (s0 (sto rfl rfl (sB (d' := .d (eApiPair (ApiPair.mk (r92 ++ r96) ([] : List UInt8)))) ts52 rfl rfl rfl rfl rfl rfl rfl)) (sn (SC.seqP h0 (fun y => ⟨mk 69 [(6, .ref 0 0 0), (10, .d (eI y.1)), (13, .ref 1 0 0)], [.box (.d (eApiPair (ApiPair.mk ([] : List UInt8) ([] : List UInt8)))), .box (.d (eApiPair y.2))]⟩) ?_ ?_)))))))))
  ·intro u1_141 h1
   refine sr (s1 (far (k := 2) rfl fo29_2 ts23 rfl) (s1 (lod rfl (ld_box ts23 ta23 rfl rfl)) (s1 (len rfl rfl rfl (len_lst un23)) (s1 (bi rfl rfl q_i64_gtr) (sn (cB h1 rfl (fun h1 => ?_) (fun h1 => ?_)))))))
   ·refine sr (s1 (asg (v := .d .nils) rfl) (sn (SC.seqP h1 (fun y => ⟨mk 69 [(3, .ref 0 0 0), (4, .ref 1 0 0), (6, .ref 2 0 0), (13, .ref 3 0 0), (14, .slc 4 3 0 y.length none)], [.box (.d (eApiTable p0)), .box (.d (eApiIndex p1)), .box (.d (eApiPair (ApiPair.mk ([] : List UInt8) ([] : List UInt8)))), .box (.d (eApiPair (ApiPair.mk (r92 ++ r96) ([] : List UInt8)))), .row 3 (List.map eApiValue y) true]⟩) ?_ ?_)))
    ·intro u2_159 h2
     obtain ⟨u3_171, h3, h2⟩ := ob h2
     refine sr (s1 (far (k := 2) rfl fo29_2 ts23 rfl) (s1 (lod rfl (ld_box ts23 ta23 rfl rfl)) (s1 (len rfl rfl rfl (len_lst un23)) (sm rfl (sn (SC.blk (SC.loopB h3 (fun y => ⟨mk 69 [(2, .d ((eL 3 eApiValue) p2)), (3, .ref 0 0 0), (4, .ref 1 0 0), (6, .ref 2 0 0), (13, .ref 3 0 0), (14, .slc 4 3 0 y.1.length none), (44, .d ((eL 1 eI) p1.Extra)), (45, .d (eI (p1.Extra.length : Int))), (46, .d (eI y.2))], [.box (.d (eApiTable p0)), .box (.d (eApiIndex p1)), .box (.d (eApiPair (ApiPair.mk ([] : List UInt8) ([] : List UInt8)))), .box (.d (eApiPair (ApiPair.mk (r92 ++ r96) ([] : List UInt8)))), .row 3 (List.map eApiValue y.1) true]⟩) (Wk.trans (Wk.pushE (σ' := [.box (.d (eApiTable p0)), .box (.d (eApiIndex p1)), .box (.d (eApiPair (ApiPair.mk ([] : List UInt8) ([] : List UInt8)))), .box (.d (eApiPair (ApiPair.mk (r92 ++ r96) ([] : List UInt8)))), .row 3 (List.map eApiValue ([] : List ApiValue)) true]) (.row 3 [] true) (fun _ hh => by cases hh) rfl) (Wk.trans (Wk.env (e' := [(2, .d ((eL 3 eApiValue) p2)), (3, .ref 0 0 0), (4, .ref 1 0 0), (6, .ref 2 0 0), (13, .ref 3 0 0), (14, .slc 4 3 0 (([] : List ApiValue).length) none), (44, .d ((eL 1 eI) p1.Extra)), (45, .d (eI (p1.Extra.length : Int))), (46, .d (eI (0 : Int)))]) (EW.cons (AW.refl _) (EW.cons (AW.refl _) (EW.cons (AW.refl _) (EW.cons (AW.refl _) (EW.cons (AW.refl _) (EW.cons (AW.slcn _ _ _) (EW.cons (AW.refl _) (EW.cons (AW.refl _) (EW.cons (AW.refl _) EW.nil)))))))))) (wq rfl))) ?_)))))))
     intro n175
     rintro ⟨y163, y164⟩ w3_170 h4 hv4
     refine sr (s1 (bi rfl rfl q_i64_lss) (sn (sq (cB h4 rfl (fun h4 => ?_) (fun h4 => ?_)))))
     ·obtain ⟨v172, hv172, h4⟩ := ob h4; obtain ⟨v173, hv173, h4⟩ := ob h4; obtain ⟨hg174, h4⟩ := gd h4
      refine sk (sq (SC.blk (sr (s1 (ial rfl rfl un23 ts3 (getI_some hv172).1 (map_get (getI_some hv172).2) rfl) (s1 (lod rfl (ld_rop ts3 ta3 rfl)) (sa rfl (sn (SC.region (sm rfl ?_)))))))))
      refine sm rfl (sm rfl (s1 (ial rfl rfl un55 ts40 (getI_some hv173).1 (map_get (getI_some hv173).2) rfl) (s1 (lod (v := .d (eApiValue v173)) rfl (ld_rop ts40 ta40 rfl)) (s1 (bsn (k := 5) (ds := List.map eApiValue [v173]) (off := 0) (l' := [v173].length) rfl un55 ei40 rfl rfl (by rfl) rfl rfl rfl) (s1 (app rfl rfl rfl rfl bc55 (aF (f := eApiValue) (xs := y163) (k := 6) rfl un55 ei40 rfl (el_full (xs := [v173]) rfl) hg174 rfl)) (sa rfl (SO.nil ?_)))))))
      change SC _ _ _ _ _
      have q := si h4; subst q
      exact SC.region (s1 (bi rfl rfl q_i64_add) (sm rfl (SO.nil (lf (wc [0, 1, 2, 3, 6] [0, 1, 2, 3, 6] (by kernel_rfl) rfl (by kernel_rfl))))))
     ·have q := si h4; subst q; have q : _ = _ := hv4; subst q; have q := si h2; subst q
      exact SC.exit ((wq rfl))
    ·rintro y158 h1
     obtain ⟨r176, hq177, h1⟩ := ob h1; obtain ⟨⟨r178, r179⟩, hq180, h1⟩ := ob h1; have q := si h1; subst q
     refine SC.region (s1 (lod (v := .d (eApiTable p0)) rfl (ld_box ts26 ta26 rfl rfl)) (s1 (lod (v := .d (eApiIndex p1)) rfl (ld_box ts29 ta29 rfl rfl)) (c0 (schema_extras_ok p0 p1 _ hq177) wf rfl rfl rfl cb45 rfl (fun _ => rfl) (fun _ => rfl) (sm rfl (cq (args' := [.d ((eL 7 eApiColumn) r176), .slc 0 3 0 y158.length none]) (σc := [.row 3 (List.map eApiValue y158) true]) [4] [] (CallAt.frz (ArgF.keep (ArgF.frz (fF rfl rfl rfl) (ArgF.nil _))) (fq [] [] (row_Encode_ok r176 y158 _ hq180) rfl rfl rfl rfl rfl rfl rfl rfl)) wf rfl rfl rfl cb44 rfl rfl rfl rfl rfl rfl rfl rfl (sm rfl (s1 (ext rfl rfl) (s1 (ext rfl rfl) (s1 (far (k := 1) rfl fo52_1 ts9 rfl) ?_)))))))))
     exact s0 (sto rfl rfl (sB (d' := .d (eApiPair (ApiPair.mk (r92 ++ r96) r178))) ts9 rfl rfl rfl rfl rfl rfl rfl)) (sa rfl (SO.nil ((wc [2, 3] [2, 3] (by kernel_rfl) rfl (by kernel_rfl)))))
   ·have q := si h1; subst q
    exact SC.skip ((wc [2, 3] [2, 3] (by kernel_rfl) rfl (by kernel_rfl)))
  ·rintro ⟨y139, y140⟩ h0
   have q := si h0; subst q
   exact sr (s1 (lod (v := .d (eApiPair y140)) rfl (ld_box ts52 ta52 rfl rfl)) (sm rfl (s0 (sto rfl rfl (sB (d' := .d (eApiPair y140)) ts52 rfl rfl rfl rfl rfl rfl rfl)) (sa rfl (sn (SC.ret (finR (wc (e' := [(6, .ref 0 0 0), (7, .d (eI y139))]) [0] [0] (by kernel_rfl) rfl (by kernel_rfl)) (lresC rfl (ld_box ts52 ta52 rfl rfl) (lresT rfl lresN)) rfl)))))))
noncomputable def schema_columns (p0 : List ApiColumn) : Option Int :=
 Option.bind (α := Bool)
 (bif (decide ((p0.length : Int) < (1 : Int))) then
 some true
 else
 some (decide ((p0.length : Int) > (24 : Int))))
 fun y37 =>
 bif y37 then
 some (7 : Int)
 else
 bindE (Y := Unit) (E := Int)
 (Option.bind (α := Unit ⊕ Int)
 (loop (Y := Int × (List ((List UInt8) × Bool))) (W := Unit ⊕ Int) (fun (y59, y60) =>
 bif (decide (y59 < (p0.length : Int))) then
 Option.bind (getI p0 y59) fun v68 =>
 Option.bind (value_Column v68) fun r69 =>
 bif (r69 != (0 : Int)) then
 some (Sum.inr (Sum.inr r69))
 else
 bif (Option.getD (mget y60 v68.Name) false) then
 some (Sum.inr (Sum.inr (6 : Int)))
 else
 some (Sum.inl ((w64 (y59 + (1 : Int))), (mset y60 v68.Name true)))
 else
 some (Sum.inr (Sum.inl ()))) ((0 : Int), ([] : List ((List UInt8) × Bool))))
 (Sum.elim (fun e => some (Sum.inl e)) (fun e => some (Sum.inr e))))
 (fun _ =>
 some (0 : Int))
 (fun e => some e)
theorem schema_columns_ok (p0 : List ApiColumn) (r : Int) (h0 : schema_columns p0 = some r) : CallAt Tryz.prog 34 [.d ((eL 7 eApiColumn) p0)] [] (.d (eI r)) [] := by
 unfold schema_columns at h0
 refine fn0 [0] Tryz.func34 rfl rfl rfl rfl rfl ?_
 refine sr (sa rfl (sn (sq (SC.seqP h0 (fun y => ⟨mk 35 [(0, .d ((eL 7 eApiColumn) p0)), (14, .d (eB y))], []⟩) ?_ ?_))))
 ·intro u1_38 h1
  refine SC.region (sm rfl (s1 (len rfl rfl rfl (len_lst un22)) (s1 (bi rfl rfl q_i64_lss) (sm rfl (sp h1 (fun h1 => ?_) (fun h1 => ?_))))))
  ·have q := si h1; subst q
   exact kw rfl (kw rfl (kw rfl (s1 (pkt rfl rfl) (SO.nil ((wq rfl))))))
  ·have q := si h1; subst q
   exact gw rfl (mv rfl) (gw rfl (len rfl rfl rfl (len_lst un22)) (gw rfl (bi rfl rfl q_i64_gtr) (s1 (pkf rfl rfl) (SO.nil ((wq rfl))))))
 ·rintro y37 h0
  refine cB h0 rfl (fun h0 => ?_) (fun h0 => ?_)
  ·have q := si h0; subst q
   exact sr (sa rfl (sn (SC.ret (finR (Wk.refl _) (lresT rfl lresN) rfl))))
  ·refine sk (sr (s1 (mkm (f := eS) (g := eB) (i := 0) un69 rfl) (sa rfl (sn (SC.seqB h0 (fun y => ⟨mk 35 [], []⟩) ?_ ?_)))))
   ·intro u1_55 h1 h0
    obtain ⟨u2_67, h2, h1⟩ := ob h1
    refine sr (sm rfl (s1 (len rfl rfl rfl (len_lst un22)) (sm rfl (sn (SC.blk (SC.loopB h2 (fun y => ⟨mk 35 [(3, .mapr 0), (16, .d ((eL 7 eApiColumn) p0)), (17, .d (eI (p0.length : Int))), (18, .d (eI y.1))], [.map (List.map (eM eS eB) y.2)]⟩) (wq rfl) ?_))))))
    intro n71
    rintro ⟨y59, y60⟩ w2_66 h3 hv3
    refine sr (s1 (bi rfl rfl q_i64_lss) (sn (sq (cB h3 rfl (fun h3 => ?_) (fun h3 => ?_)))))
    ·obtain ⟨v68, hv68, h3⟩ := ob h3; obtain ⟨r69, hq70, h3⟩ := ob h3
     refine sk (sq (SC.blk (sr (s1 (ial rfl rfl un22 ts42 (getI_some hv68).1 (map_get (getI_some hv68).2) rfl) (s1 (lod (v := .d (eApiColumn v68)) rfl (ld_rop ts42 ta42 rfl)) (s1 (alo (k := 1) zo42 rfl) (s0 (sto rfl rfl (sB (d' := .d (eApiColumn v68)) ts42 rfl rfl rfl rfl rfl rfl rfl)) (sn (sq ?_)))))))))
     refine sr (s1 (lod (v := .d (eApiColumn v68)) rfl (ld_box ts42 ta42 rfl rfl)) (c0 (value_Column_ok v68 _ hq70) wf rfl rfl rfl cb53 rfl (fun _ => rfl) (fun _ => rfl) (sa rfl (sn (sr (sm rfl (s1 (bi rfl rfl q_i64_neq) (sn (cB h3 rfl (fun h3 => ?_) (fun h3 => ?_))))))))))
     ·have q := si h3; subst q; have q : _ = _ := hv3; subst q; have q := si h1; subst q; have q := si h0; subst q
      exact sr (sm rfl (sa rfl (sn (SC.ret (finR (wc (e' := [(2, .d (eI r69))]) [] [] (by kernel_rfl) rfl (by kernel_rfl)) (lresT rfl lresN) rfl)))))
     ·refine sk (sq (sr (sm rfl (s1 (far (k := 0) rfl fo42_0 ts9 rfl) (s1 (lod rfl (ld_box ts9 ta9 rfl rfl)) (s1 (mlk (f := eS) (g := eB) (k := v68.Name) (v := false) kq_str rfl rfl un69 un9 rfl zo4 rfl) (sn (cB h3 rfl (fun h3 => ?_) (fun h3 => ?_)))))))))
      ·have q := si h3; subst q; have q : _ = _ := hv3; subst q; have q := si h1; subst q; have q := si h0; subst q
       exact sr (sa rfl (sn (SC.ret (finR (wc (e' := [(2, .d (eI (6 : Int)))]) [] [] (by kernel_rfl) rfl (by kernel_rfl)) (lresT rfl lresN) rfl))))
      ·refine sk (SC.region (sm rfl (s1 (far (k := 0) rfl fo42_0 ts9 rfl) (s1 (lod rfl (ld_box ts9 ta9 rfl rfl)) (s0 (mpu (f := eS) (g := eB) (k := v68.Name) (v := true) kq_str rfl rfl rfl rfl un69 un9 rfl rfl rfl) (SO.nil ?_))))))
       change SC _ _ _ _ _
       have q := si h3; subst q
       exact SC.region (s1 (bi rfl rfl q_i64_add) (sm rfl (SO.nil (lf (wc [0] [0] (by kernel_rfl) rfl (by kernel_rfl))))))
    ·have q := si h3; subst q; have q : _ = _ := hv3; subst q; have q := si h1; subst q
     exact SC.exit (lf (wc [] [] (by kernel_rfl) rfl (by kernel_rfl)))
   ·intro _ h0
    have q := si h0; subst q
    exact sr (sa rfl (sn (SC.ret (finR (Wk.refl _) (lresT rfl lresN) rfl))))
noncomputable def schema_places (p0 : Int) (p1 : List Int) : Option Bool :=
 bindE (Y := Unit) (E := Bool)
 (Option.bind (α := Unit ⊕ Bool)
 (loop (Y := Int × (List (Int × Bool))) (W := Unit ⊕ Bool) (fun (y55, y56) =>
 bif (decide (y55 < (p1.length : Int))) then
 Option.bind (getI p1 y55) fun v64 =>
 Option.bind (α := Bool)
 (bif (decide (v64 < (0 : Int))) then
 some true
 else
 bif (decide (v64 ≥ p0)) then
 some true
 else
 some (Option.getD (mget y56 v64) false))
 fun y65 =>
 bif y65 then
 some (Sum.inr (Sum.inr false))
 else
 some (Sum.inl ((w64 (y55 + (1 : Int))), (mset y56 v64 true)))
 else
 some (Sum.inr (Sum.inl ()))) ((0 : Int), ([] : List (Int × Bool))))
 (Sum.elim (fun e => some (Sum.inl e)) (fun e => some (Sum.inr e))))
 (fun _ =>
 some true)
 (fun e => some e)
theorem schema_places_ok (p0 : Int) (p1 : List Int) (r : Bool) (h0 : schema_places p0 p1 = some r) : CallAt Tryz.prog 35 [.d (eI p0), .d ((eL 1 eI) p1)] [] (.d (eB r)) [] := by
 unfold schema_places at h0
 refine fn0 [0, 1] Tryz.func35 rfl rfl rfl rfl rfl ?_
 refine sr (sa rfl (sn (sr (s1 (mkm (f := eI) (g := eB) (i := 0) un84 rfl) (sa rfl (sn (SC.seqB h0 (fun y => ⟨mk 30 [], []⟩) ?_ ?_)))))))
 ·intro u1_51 h1 h0
  obtain ⟨u2_63, h2, h1⟩ := ob h1
  refine sr (sm rfl (s1 (len rfl rfl rfl (len_lst un23)) (sm rfl (sn (SC.blk (SC.loopB h2 (fun y => ⟨mk 30 [(0, .d (eI p0)), (5, .mapr 0), (9, .d ((eL 1 eI) p1)), (10, .d (eI (p1.length : Int))), (11, .d (eI y.1))], [.map (List.map (eM eI eB) y.2)]⟩) (wq rfl) ?_))))))
  intro n67
  rintro ⟨y55, y56⟩ w2_62 h3 hv3
  refine sr (s1 (bi rfl rfl q_i64_lss) (sn (sq (cB h3 rfl (fun h3 => ?_) (fun h3 => ?_)))))
  ·obtain ⟨v64, hv64, h3⟩ := ob h3
   refine sk (sq (SC.blk (sr (s1 (ial rfl rfl un23 ts3 (getI_some hv64).1 (map_get (getI_some hv64).2) rfl) (s1 (lod rfl (ld_rop ts3 ta3 rfl)) (sa rfl (sn (sq (SC.seqP h3 (fun y => ⟨mk 30 [(0, .d (eI p0)), (5, .mapr 0), (7, .d (eI v64)), (9, .d ((eL 1 eI) p1)), (10, .d (eI (p1.length : Int))), (11, .d (eI y55)), (26, .d (eB y))], [.map (List.map (eM eI eB) y56)]⟩) ?_ ?_)))))))))
   ·intro u4_66 h4
    refine SC.region (sm rfl (s1 (bi rfl rfl q_i64_lss) (sm rfl (sp h4 (fun h4 => ?_) (fun h4 => ?_)))))
    ·have q := si h4; subst q
     refine kw rfl (kw rfl (kw rfl (s1 (pkt rfl rfl) (sm rfl (kw rfl (kw rfl (kw rfl (s1 (pkt rfl rfl) (SO.nil ?_)))))))))
     exact (wq rfl)
    ·refine gw rfl (mv rfl) (gw rfl (mv rfl) (gw rfl (bi rfl rfl q_i64_geq) (s1 (pkf rfl rfl) (sm rfl (sp h4 (fun h4 => ?_) (fun h4 => ?_))))))
     ·have q := si h4; subst q
      exact kw rfl (kw rfl (kw rfl (s1 (pkt rfl rfl) (SO.nil ((wq rfl))))))
     ·have q := si h4; subst q
      exact gw rfl (mv rfl) (gw rfl (mv rfl) (gw rfl (mlk (f := eI) (g := eB) (k := v64) (v := false) kq_i64 rfl rfl un84 un3 rfl zo4 rfl) (s1 (pkf rfl rfl) (SO.nil ((wq rfl))))))
   ·rintro y65 h3
    refine cB h3 rfl (fun h3 => ?_) (fun h3 => ?_)
    ·have q := si h3; subst q; have q : _ = _ := hv3; subst q; have q := si h1; subst q; have q := si h0; subst q
     exact sr (sa rfl (sn (SC.ret (finR (wc (e' := [(4, .d (eB false))]) [] [] (by kernel_rfl) rfl (by kernel_rfl)) (lresT rfl lresN) rfl))))
    ·refine sk (SC.region (sm rfl (sm rfl (s0 (mpu (f := eI) (g := eB) (k := v64) (v := true) kq_i64 rfl rfl rfl rfl un84 un3 rfl rfl rfl) (SO.nil ?_)))))
     change SC _ _ _ _ _
     have q := si h3; subst q
     exact SC.region (s1 (bi rfl rfl q_i64_add) (sm rfl (SO.nil (lf (wq rfl)))))
  ·have q := si h3; subst q; have q : _ = _ := hv3; subst q; have q := si h1; subst q
   exact SC.exit (lf (wc [] [] (by kernel_rfl) rfl (by kernel_rfl)))
 ·intro _ h0
  have q := si h0; subst q
  exact sr (sa rfl (sn (SC.ret (finR (Wk.refl _) (lresT rfl lresN) rfl))))
noncomputable def schema_Check_1 (p0 : Int) (p1 : ApiTable) : Option Bool :=
 Option.bind (getI p1.Cols p0) fun v3 =>
 some v3.Nulls
theorem schema_Check_1_ok (p0 : Int) (p1 : ApiTable) (r : Bool) (h0 : schema_Check_1 p0 p1 = some r) : CallAt Tryz.prog 37 [.d (eI p0), .ref 0 0 0] [.box (.d (eApiTable p1))] (.d (eB r)) [.box (.d (eApiTable p1))] := by
 unfold schema_Check_1 at h0
 refine fn0 [0, 1] Tryz.func37 rfl rfl rfl rfl rfl ?_
 obtain ⟨v3, hv3, h0⟩ := ob h0; have q := si h0; subst q
 refine sr (sa rfl (sn (sr (s1 (far (k := 1) rfl fo26_1 ts22 rfl) (s1 (lod rfl (ld_box ts22 ta22 rfl rfl)) (sm rfl (s1 (ial rfl rfl un22 ts42 (getI_some hv3).1 (map_get (getI_some hv3).2) rfl) (s1 (fap rfl fo42_3 ts4 rfl) (s1 (lod rfl (ld_rop ts4 ta4 rfl)) ?_)))))))))
 exact sa rfl (sn (SC.ret (finR (Wk.refl _) (lresT rfl lresN) rfl)))
noncomputable def slices_IndexFunc_int_int_1 (p0 : List Int) (p1 : ApiTable) : Option Int :=
 bindE (Y := Unit) (E := Int)
 (Option.bind (α := Unit ⊕ Int)
 (loop (Y := Int) (W := Unit ⊕ Int) (fun y49 =>
 bif (decide (y49 < (p0.length : Int))) then
 Option.bind (getI p0 y49) fun v56 =>
 Option.bind (schema_Check_1 v56 p1) fun r57 =>
 bif r57 then
 some (Sum.inr (Sum.inr y49))
 else
 some (Sum.inl (w64 (y49 + (1 : Int))))
 else
 some (Sum.inr (Sum.inl ()))) (0 : Int))
 (Sum.elim (fun e => some (Sum.inl e)) (fun e => some (Sum.inr e))))
 (fun _ =>
 some (-1 : Int))
 (fun e => some e)
theorem slices_IndexFunc_int_int_1_ok (p0 : List Int) (p1 : ApiTable) (r : Int) (h0 : slices_IndexFunc_int_int_1 p0 p1 = some r) : CallAt Tryz.prog 54 [.d ((eL 1 eI) p0), .fn (.func 37) [] [.ref 0 0 0]] [.box (.d (eApiTable p1))] (.d (eI r)) [.box (.d (eApiTable p1))] := by
 unfold slices_IndexFunc_int_int_1 at h0
 refine fn0 [0, 1] Tryz.func54 rfl rfl rfl rfl rfl ?_
 refine sr (sa rfl (sn (SC.seqB h0 (fun y => ⟨mk 19 [], [.box (.d (eApiTable p1))]⟩) ?_ ?_)))
 ·intro u1_45 h1 h0
  obtain ⟨u2_55, h2, h1⟩ := ob h1
  refine sr (sm rfl (s1 (len rfl rfl rfl (len_lst un23)) (sm rfl (sn (SC.blk (SC.loopB h2 (fun y => ⟨mk 19 [(0, .d ((eL 1 eI) p0)), (1, .fn (.func 37) [] [.ref 0 0 0]), (7, .d (eI (p0.length : Int))), (8, .d (eI y))], [.box (.d (eApiTable p1))]⟩) (wq rfl) ?_))))))
  intro n59
  rintro y49 w2_54 h3 hv3
  refine sr (s1 (bi rfl rfl q_i64_lss) (sn (sq (cB h3 rfl (fun h3 => ?_) (fun h3 => ?_)))))
  ·obtain ⟨v56, hv56, h3⟩ := ob h3; obtain ⟨r57, hq58, h3⟩ := ob h3
   refine sk (sq (SC.blk (sr (sm rfl (sa rfl (sn (sr (sm rfl (sm rfl ?_)))))))))
   refine sm rfl (s1 (ial rfl rfl un23 ts3 (getI_some hv56).1 (map_get (getI_some hv56).2) rfl) (s1 (lod rfl (ld_rop ts3 ta3 rfl)) (cq [0] [] (schema_Check_1_ok v56 p1 _ hq58) wf rfl rfl rfl cb37 rfl rfl rfl rfl rfl rfl rfl rfl (sn (cB h3 rfl (fun h3 => ?_) (fun h3 => ?_))))))
   ·have q := si h3; subst q; have q : _ = _ := hv3; subst q; have q := si h1; subst q; have q := si h0; subst q
    exact sr (sm rfl (sa rfl (sn (SC.ret (finR (Wk.refl _) (lresT rfl lresN) rfl)))))
   ·refine SC.skip ?_
    change SC _ _ _ _ _
    have q := si h3; subst q
    exact SC.region (s1 (bi rfl rfl q_i64_add) (sm rfl (SO.nil (lf (wq rfl)))))
  ·have q := si h3; subst q; have q : _ = _ := hv3; subst q; have q := si h1; subst q
   exact SC.exit (lf (wq rfl))
 ·intro _ h0
  have q := si h0; subst q
  exact sr (sa rfl (sn (SC.ret (finR (Wk.refl _) (lresT rfl lresN) rfl))))
noncomputable def slices_ContainsFunc_int_int_1 (p0 : List Int) (p1 : ApiTable) : Option Bool :=
 Option.bind (slices_IndexFunc_int_int_1 p0 p1) fun r4 =>
 some (decide (r4 ≥ (0 : Int)))
theorem slices_ContainsFunc_int_int_1_ok (p0 : List Int) (p1 : ApiTable) (r : Bool) (h0 : slices_ContainsFunc_int_int_1 p0 p1 = some r) : CallAt Tryz.prog 36 [.d ((eL 1 eI) p0), .fn (.func 37) [] [.ref 0 0 0]] [.box (.d (eApiTable p1))] (.d (eB r)) [.box (.d (eApiTable p1))] := by
 unfold slices_ContainsFunc_int_int_1 at h0
 refine fn0 [0, 1] Tryz.func36 rfl rfl rfl rfl rfl ?_
 obtain ⟨r4, hq5, h0⟩ := ob h0; have q := si h0; subst q
 refine sr (sa rfl (sn (sr (sm rfl (sm rfl (cq [0] [] (slices_IndexFunc_int_int_1_ok p0 p1 _ hq5) wf rfl rfl rfl cb54 rfl rfl rfl rfl rfl rfl rfl rfl (s1 (bi rfl rfl q_i64_geq) (sa rfl (sn ?_)))))))))
 exact SC.ret (finR (Wk.refl _) (lresT rfl lresN) rfl)
noncomputable def schema_wide (p0 : ApiColumn) (p1 : Int) : Option Int :=
 Option.bind (α := Bool)
 (bif (p0.Kind == (1 : Int)) then
 some (p0.Kind == (1 : Int))
 else
 some (p0.Kind == (2 : Int)))
 fun y4 =>
 bif y4 then
 some (9 : Int)
 else
 bif (p0.Kind == (3 : Int)) then
 some (2 : Int)
 else
 some (w64 ((3 : Int) + (w64 (p1 * p0.Max))))
theorem schema_wide_ok (p0 : ApiColumn) (p1 : Int) (r : Int) (h0 : schema_wide p0 p1 = some r) : CallAt Tryz.prog 40 [.d (eApiColumn p0), .d (eI p1)] [] (.d (eI r)) [] := by
 unfold schema_wide at h0
 refine fn0 [0, 1] Tryz.func40 rfl rfl rfl rfl rfl ?_
 refine sr (s1 (bxo (k := 0) rfl rfl rfl) (sa rfl (sn (sq (sr (s1 (far (k := 1) rfl fo42_1 ts3 rfl) (s1 (lod rfl (ld_box ts3 ta3 rfl rfl)) (sn (SC.blk ?_)))))))))
 refine SC.seqP h0 (fun y => ⟨mk 17 [(1, .d (eI p1)), (2, .ref 0 0 0), (6, .d (eI p0.Kind)), (7, .d (eB y))], [.box (.d (eApiColumn p0))]⟩) ?_ ?_
 ·intro u1_5 h1
  refine sr (s1 (bi rfl rfl q_i64_eql) (sa rfl (sn (cB h1 rfl (fun h1 => ?_) (fun h1 => ?_)))))
  ·have q := si h1; subst q
   exact SC.skip ((wq rfl))
  ·have q := si h1; subst q
   exact SC.region (s1 (bi rfl rfl q_i64_eql) (sa rfl (SO.nil ((wq rfl)))))
 ·rintro y4 h0
  refine cB h0 rfl (fun h0 => ?_) (fun h0 => ?_)
  ·have q := si h0; subst q
   exact sr (sa rfl (sn (SC.ret (finR (wc (e' := [(4, .d (eI (9 : Int)))]) [] [] (by kernel_rfl) rfl (by kernel_rfl)) (lresT rfl lresN) rfl))))
  ·refine sr (s1 (bi rfl rfl q_i64_eql) (sa rfl (sn (cB h0 rfl (fun h0 => ?_) (fun h0 => ?_)))))
   ·have q := si h0; subst q
    exact sr (sa rfl (sn (SC.ret (finR (wc (e' := [(4, .d (eI (2 : Int)))]) [] [] (by kernel_rfl) rfl (by kernel_rfl)) (lresT rfl lresN) rfl))))
   ·refine SC.skip ?_
    change SC _ _ _ _ _
    have q := si h0; subst q
    exact sr (sm rfl (s1 (far (k := 2) rfl fo42_2 ts3 rfl) (s1 (lod rfl (ld_box ts3 ta3 rfl rfl)) (s1 (bi rfl rfl q_i64_mul) (s1 (bi rfl rfl q_i64_add) (sa rfl (sn (SC.ret (finR (wc (e' := [(4, .d (eI (w64 ((3 : Int) + (w64 (p1 * p0.Max))))))]) [] [] (by kernel_rfl) rfl (by kernel_rfl)) (lresT rfl lresN) rfl)))))))))
noncomputable def schema_RowMax (p0 : List ApiColumn) : Option Int :=
 Option.bind (α := Int)
 (Option.bind (α := Int)
 (loop (Y := Int × Int) (W := Int) (fun (y57, y58) =>
 bif (decide (y58 < (p0.length : Int))) then
 Option.bind (getI p0 y58) fun v66 =>
 Option.bind (schema_wide v66 (1 : Int)) fun r67 =>
 some (Sum.inl ((w64 (y57 + r67)), (w64 (y58 + (1 : Int)))))
 else
 some (Sum.inr y57)) ((1 : Int), (0 : Int)))
 (fun e => some e))
 fun y52 =>
 some y52
theorem schema_RowMax_ok (p0 : List ApiColumn) (r : Int) (h0 : schema_RowMax p0 = some r) : CallAt Tryz.prog 12 [.d ((eL 7 eApiColumn) p0)] [] (.d (eI r)) [] := by
 unfold schema_RowMax at h0
 refine fn0 [0] Tryz.func12 rfl rfl rfl rfl rfl ?_
 refine sr (sa rfl (sn (sr (sa rfl (sn (SC.seqP h0 (fun y => ⟨mk 18 [(3, .d (eI y))], []⟩) ?_ ?_))))))
 ·intro u1_53 h1
  obtain ⟨u2_65, h2, h1⟩ := ob h1
  refine sr (sm rfl (s1 (len rfl rfl rfl (len_lst un22)) (sm rfl (sn (SC.blk (SC.loopB h2 (fun y => ⟨mk 18 [(3, .d (eI y.1)), (6, .d ((eL 7 eApiColumn) p0)), (7, .d (eI (p0.length : Int))), (8, .d (eI y.2))], []⟩) (wq rfl) ?_))))))
  intro n69
  rintro ⟨y57, y58⟩ w2_64 h3 hv3
  refine sr (s1 (bi rfl rfl q_i64_lss) (sn (sq (cB h3 rfl (fun h3 => ?_) (fun h3 => ?_)))))
  ·obtain ⟨v66, hv66, h3⟩ := ob h3; obtain ⟨r67, hq68, h3⟩ := ob h3
   refine sk (sq (SC.blk (sr (s1 (ial rfl rfl un22 ts42 (getI_some hv66).1 (map_get (getI_some hv66).2) rfl) (s1 (lod (v := .d (eApiColumn v66)) rfl (ld_rop ts42 ta42 rfl)) (s1 (alo (k := 0) zo42 rfl) (s0 (sto rfl rfl (sB (d' := .d (eApiColumn v66)) ts42 rfl rfl rfl rfl rfl rfl rfl)) (sn (SC.region ?_)))))))))
   refine sm rfl (s1 (lod (v := .d (eApiColumn v66)) rfl (ld_box ts42 ta42 rfl rfl)) (c0 (schema_wide_ok v66 (1 : Int) _ hq68) wf rfl rfl rfl cb40 rfl (fun _ => rfl) (fun _ => rfl) (s1 (bi rfl rfl q_i64_add) (sa rfl (SO.nil ?_)))))
   change SC _ _ _ _ _
   have q := si h3; subst q
   exact SC.region (s1 (bi rfl rfl q_i64_add) (sm rfl (SO.nil (lf (wc [] [] (by kernel_rfl) rfl (by kernel_rfl))))))
  ·have q := si h3; subst q; have q : _ = _ := hv3; subst q; have q := si h1; subst q
   exact SC.exit ((wq rfl))
 ·rintro y52 h0
  have q := si h0; subst q
  exact sr (sm rfl (sa rfl (sn (SC.ret (finR (Wk.refl _) (lresT rfl lresN) rfl)))))
noncomputable def schema_KeyMax (p0 : List ApiColumn) (p1 : List ApiPart) : Option Int :=
 Option.bind (α := Int)
 (Option.bind (α := Int)
 (loop (Y := Int × Int) (W := Int) (fun (y67, y68) =>
 bif (decide (y68 < (p1.length : Int))) then
 Option.bind (getI p1 y68) fun v77 =>
 Option.bind (getI p0 v77.Col) fun v78 =>
 Option.bind (schema_wide v78 (2 : Int)) fun r79 =>
 some (Sum.inl ((w64 (y67 + r79)), (w64 (y68 + (1 : Int)))))
 else
 some (Sum.inr y67)) ((0 : Int), (0 : Int)))
 (fun e => some e))
 fun y61 =>
 some y61
theorem schema_KeyMax_ok (p0 : List ApiColumn) (p1 : List ApiPart) (r : Int) (h0 : schema_KeyMax p0 p1 = some r) : CallAt Tryz.prog 17 [.d ((eL 7 eApiColumn) p0), .d ((eL 2 eApiPart) p1)] [] (.d (eI r)) [] := by
 unfold schema_KeyMax at h0
 refine fn0 [0, 1] Tryz.func17 rfl rfl rfl rfl rfl ?_
 refine sr (sa rfl (sn (sr (sa rfl (sn (SC.seqP h0 (fun y => ⟨mk 24 [(5, .d (eI y))], []⟩) ?_ ?_))))))
 ·intro u1_62 h1
  obtain ⟨u2_76, h2, h1⟩ := ob h1
  refine sr (sm rfl (s1 (len rfl rfl rfl (len_lst un27)) (sm rfl (sn (SC.blk (SC.loopB h2 (fun y => ⟨mk 24 [(0, .d ((eL 7 eApiColumn) p0)), (5, .d (eI y.1)), (8, .d ((eL 2 eApiPart) p1)), (9, .d (eI (p1.length : Int))), (10, .d (eI y.2))], []⟩) (wq rfl) ?_))))))
  intro n81
  rintro ⟨y67, y68⟩ w2_75 h3 hv3
  refine sr (s1 (bi rfl rfl q_i64_lss) (sn (sq (cB h3 rfl (fun h3 => ?_) (fun h3 => ?_)))))
  ·obtain ⟨v77, hv77, h3⟩ := ob h3; obtain ⟨v78, hv78, h3⟩ := ob h3; obtain ⟨r79, hq80, h3⟩ := ob h3
   refine sk (sq (SC.blk (sr (s1 (ial rfl rfl un27 ts48 (getI_some hv77).1 (map_get (getI_some hv77).2) rfl) (s1 (lod (v := .d (eApiPart v77)) rfl (ld_rop ts48 ta48 rfl)) (s1 (alo (k := 0) zo48 rfl) (s0 (sto rfl rfl (sB (d' := .d (eApiPart v77)) ts48 rfl rfl rfl rfl rfl rfl rfl)) (sn (SC.region ?_)))))))))
   refine sm rfl (sm rfl (s1 (far (k := 0) rfl fo48_0 ts3 rfl) (s1 (lod rfl (ld_box ts3 ta3 rfl rfl)) (s1 (ial rfl rfl un22 ts42 (getI_some hv78).1 (map_get (getI_some hv78).2) rfl) (s1 (lod (v := .d (eApiColumn v78)) rfl (ld_rop ts42 ta42 rfl)) (c0 (schema_wide_ok v78 (2 : Int) _ hq80) wf rfl rfl rfl cb40 rfl (fun _ => rfl) (fun _ => rfl) (s1 (bi rfl rfl q_i64_add) (sa rfl (SO.nil ?_)))))))))
   change SC _ _ _ _ _
   have q := si h3; subst q
   exact SC.region (s1 (bi rfl rfl q_i64_add) (sm rfl (SO.nil (lf (wc [] [] (by kernel_rfl) rfl (by kernel_rfl))))))
  ·have q := si h3; subst q; have q : _ = _ := hv3; subst q; have q := si h1; subst q
   exact SC.exit ((wq rfl))
 ·rintro y61 h0
  have q := si h0; subst q
  exact sr (sm rfl (sa rfl (sn (SC.ret (finR (Wk.refl _) (lresT rfl lresN) rfl)))))
end Lv
