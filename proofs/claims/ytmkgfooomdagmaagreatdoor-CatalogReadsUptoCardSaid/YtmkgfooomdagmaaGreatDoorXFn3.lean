/- Part of the proof of a law: functions and their walks. -/
import Derived.Test.YtmkgfooomdagmaaGreatDoorXFn2
namespace Lv
open Go Go.Proofs
set_option linter.unusedVariables false
set_option linter.unusedSimpArgs false
set_option linter.unusedSectionVars false
set_option maxRecDepth 100000
variable [BaseTab] [TabOk]
noncomputable def ref06_utf8 (p0 : List UInt8) : Option Bool :=
 bindE (Y := Unit) (E := Bool)
 (Option.bind (α := Unit ⊕ Bool)
 (loop (Y := Int) (W := Unit ⊕ Bool) (fun y878 =>
 bif (decide (y878 < (p0.length : Int))) then
 Option.bind (getI p0 y878) fun v935 =>
 bindE (Y := Int × Int × Int) (E := Bool)
 (bif (decide ((v935.toNat : Int) < (128 : Int))) then
 some (Sum.inl ((1 : Int), (0 : Int), (v935.toNat : Int)))
 else
 Option.bind (α := Bool)
 (bif (decide ((v935.toNat : Int) ≥ (194 : Int))) then
 some (decide ((v935.toNat : Int) < (224 : Int)))
 else
 some false)
 fun y946 =>
 bif y946 then
 some (Sum.inl ((2 : Int), (128 : Int), (w64 ((v935.toNat : Int) - (192 : Int)))))
 else
 Option.bind (α := Bool)
 (bif (decide ((v935.toNat : Int) ≥ (224 : Int))) then
 some (decide ((v935.toNat : Int) < (240 : Int)))
 else
 some false)
 fun y948 =>
 bif y948 then
 some (Sum.inl ((3 : Int), (2048 : Int), (w64 ((v935.toNat : Int) - (224 : Int)))))
 else
 Option.bind (α := Bool)
 (bif (decide ((v935.toNat : Int) ≥ (240 : Int))) then
 some (decide ((v935.toNat : Int) < (245 : Int)))
 else
 some false)
 fun y950 =>
 bif y950 then
 some (Sum.inl ((4 : Int), (65536 : Int), (w64 ((v935.toNat : Int) - (240 : Int)))))
 else
 some (Sum.inr false))
 (fun (y942, y943, y944) =>
 bif (decide ((w64 (y878 + y942)) > (p0.length : Int))) then
 some (Sum.inr (Sum.inr false))
 else
 bindE (Y := Int) (E := Bool)
 (Option.bind (α := Int ⊕ Bool)
 (loop (Y := Int × Int) (W := Int ⊕ Bool) (fun (y973, y974) =>
 bif (decide (y974 < y942)) then
 Option.bind (getI p0 (w64 (y878 + y974))) fun v982 =>
 Option.bind (α := Bool)
 (bif (decide ((v982.toNat : Int) < (128 : Int))) then
 some true
 else
 some (decide ((v982.toNat : Int) ≥ (192 : Int))))
 fun y983 =>
 bif y983 then
 some (Sum.inr (Sum.inr false))
 else
 some (Sum.inl ((w64 ((w64 ((w64 (y973 * (64 : Int))) + (v982.toNat : Int))) - (128 : Int))), (w64 (y974 + (1 : Int)))))
 else
 some (Sum.inr (Sum.inl y973))) (y944, (1 : Int)))
 (Sum.elim (fun e => some (Sum.inl e)) (fun e => some (Sum.inr e))))
 (fun y968 =>
 Option.bind (α := Bool)
 (bif (decide (y968 < y943)) then
 some true
 else
 bif (decide (y968 > (1114111 : Int))) then
 some true
 else
 bif (decide (y968 ≥ (55296 : Int))) then
 some (decide (y968 < (57344 : Int)))
 else
 some false)
 fun y986 =>
 bif y986 then
 some (Sum.inr (Sum.inr false))
 else
 some (Sum.inl (w64 (y878 + y942))))
 (fun e => some (Sum.inr (Sum.inr e))))
 (fun e => some (Sum.inr (Sum.inr e)))
 else
 some (Sum.inr (Sum.inl ()))) (0 : Int))
 (Sum.elim (fun e => some (Sum.inl e)) (fun e => some (Sum.inr e))))
 (fun _ =>
 some true)
 (fun e => some e)
theorem ref06_utf8_ok (p0 : List UInt8) (r : Bool) (h0 : ref06_utf8 p0 = some r) : CallAt Tryz.prog 124 [.d (eS p0)] [] (.d (eB r)) [] := by
 unfold ref06_utf8 at h0
 refine fn0 [0] Tryz.func124 rfl rfl rfl rfl rfl ?_
 refine sr (sa rfl (sn (SC.seqB h0 (fun y => ⟨mk 95 [], []⟩) ?_ ?_)))
 ·intro u1_824 h1 h0
  obtain ⟨u2_934, h2, h1⟩ := ob h1
  refine sr (sa rfl (sn (SC.blk (SC.loopB h2 (fun y => ⟨mk 95 [(0, .d (eS p0)), (3, .d (eI y))], []⟩) (wq rfl) ?_))))
  intro n988
  rintro y878 w2_933 h3 hv3
  refine sq (sr (sm rfl (sm rfl (s1 (len rfl rfl rfl (len_str un9)) (s1 (bi rfl rfl q_i64_lss) (sn (cB h3 rfl (fun h3 => ?_) (fun h3 => ?_))))))))
  ·obtain ⟨v935, hv935, h3⟩ := ob h3
   refine sk (SC.blk (sr (sm rfl (sm rfl (s1 (ixs rfl rfl rfl rfl (ix_str un9 (getI_some hv935).1 (getI_some hv935).2)) (s1 (cvo rfl (cv_u8_i64 un5 un3 v935)) (sa rfl (sn (sr ?_)))))))))
   refine sa rfl (sn (sr (sa rfl (sn (sr (sm rfl (sa rfl (sn (SC.seqB h3 (fun y => ⟨mk 95 [(0, .d (eS p0)), (3, .d (eI y878)), (5, .d (eI y.1)), (6, .d (eI y.2.1)), (7, .d (eI y.2.2))], []⟩) ?_ ?_)))))))))
   ·intro u4_945 h4 h3
    refine SC.blk (sr (sm rfl (s1 (bi rfl rfl q_i64_lss) (sa rfl (sn (cB h4 rfl (fun h4 => ?_) (fun h4 => ?_)))))))
    ·have q := si h4; subst q
     exact SC.skip (lf (wq rfl))
    ·refine SC.seqP h4 (fun y => ⟨mk 95 [(0, .d (eS p0)), (3, .d (eI y878)), (4, .d (eI (v935.toNat : Int))), (22, .d (eB y))], []⟩) ?_ ?_
     ·intro u5_947 h5
      refine SC.region (sm rfl (s1 (bi rfl rfl q_i64_geq) (sm rfl (sp h5 (fun h5 => ?_) (fun h5 => ?_)))))
      ·have q := si h5; subst q
       exact gw rfl (mv rfl) (gw rfl (bi rfl rfl q_i64_lss) (s1 (pkt rfl rfl) (sa rfl (SO.nil ((wq rfl))))))
      ·have q := si h5; subst q
       exact kw rfl (kw rfl (s1 (pkf rfl rfl) (sa rfl (SO.nil ((wq rfl))))))
     ·rintro y946 h4
      refine cB h4 rfl (fun h4 => ?_) (fun h4 => ?_)
      ·have q := si h4; subst q
       exact SC.region (sm rfl (s1 (bi rfl rfl q_i64_sub) (sa rfl (sa rfl (sa rfl (SO.nil (lf (wq rfl))))))))
      ·refine SC.seqP h4 (fun y => ⟨mk 95 [(0, .d (eS p0)), (3, .d (eI y878)), (4, .d (eI (v935.toNat : Int))), (31, .d (eB y))], []⟩) ?_ ?_
       ·intro u5_949 h5
        refine SC.region (sm rfl (s1 (bi rfl rfl q_i64_geq) (sm rfl (sp h5 (fun h5 => ?_) (fun h5 => ?_)))))
        ·have q := si h5; subst q
         exact gw rfl (mv rfl) (gw rfl (bi rfl rfl q_i64_lss) (s1 (pkt rfl rfl) (sa rfl (SO.nil ((wq rfl))))))
        ·have q := si h5; subst q
         exact kw rfl (kw rfl (s1 (pkf rfl rfl) (sa rfl (SO.nil ((wq rfl))))))
       ·rintro y948 h4
        refine cB h4 rfl (fun h4 => ?_) (fun h4 => ?_)
        ·have q := si h4; subst q
         exact SC.region (sm rfl (s1 (bi rfl rfl q_i64_sub) (sa rfl (sa rfl (sa rfl (SO.nil (lf (wq rfl))))))))
        ·refine SC.seqP h4 (fun y => ⟨mk 95 [(0, .d (eS p0)), (3, .d (eI y878)), (4, .d (eI (v935.toNat : Int))), (40, .d (eB y))], []⟩) ?_ ?_
         ·intro u5_951 h5
          refine SC.region (sm rfl (s1 (bi rfl rfl q_i64_geq) (sm rfl (sp h5 (fun h5 => ?_) (fun h5 => ?_)))))
          ·have q := si h5; subst q
           exact gw rfl (mv rfl) (gw rfl (bi rfl rfl q_i64_lss) (s1 (pkt rfl rfl) (sa rfl (SO.nil ((wq rfl))))))
          ·have q := si h5; subst q
           exact kw rfl (kw rfl (s1 (pkf rfl rfl) (sa rfl (SO.nil ((wq rfl))))))
         ·rintro y950 h4
          refine cB h4 rfl (fun h4 => ?_) (fun h4 => ?_)
          ·have q := si h4; subst q
           exact SC.region (sm rfl (s1 (bi rfl rfl q_i64_sub) (sa rfl (sa rfl (sa rfl (SO.nil (lf (wq rfl))))))))
          ·have q := si h4; subst q; have q := si h3; subst q; have q : _ = _ := hv3; subst q; have q := si h1; subst q; have q := si h0; subst q
           exact sr (sa rfl (sn (SC.ret (finR (Wk.refl _) (lresT rfl lresN) rfl))))
   ·rintro ⟨y942, y943, y944⟩ h3
    refine sq (sr (sm rfl (sm rfl (s1 (bi rfl rfl q_i64_add) (sm rfl (s1 (len rfl rfl rfl (len_str un9)) (s1 (bi rfl rfl q_i64_gtr) (sn (cB h3 rfl (fun h3 => ?_) (fun h3 => ?_))))))))))
    ·have q := si h3; subst q; have q : _ = _ := hv3; subst q; have q := si h1; subst q; have q := si h0; subst q
     exact sr (sa rfl (sn (SC.ret (finR (Wk.refl _) (lresT rfl lresN) rfl))))
    ·refine sk (SC.seqB h3 (fun y => ⟨mk 95 [(0, .d (eS p0)), (3, .d (eI y878)), (5, .d (eI y942)), (6, .d (eI y943)), (7, .d (eI y))], []⟩) ?_ ?_)
     ·intro u4_969 h4 h3
      obtain ⟨u5_981, h5, h4⟩ := ob h4
      refine sr (sa rfl (sn (SC.blk (SC.loopB h5 (fun y => ⟨mk 95 [(0, .d (eS p0)), (3, .d (eI y878)), (5, .d (eI y942)), (6, .d (eI y943)), (7, .d (eI y.1)), (8, .d (eI y.2))], []⟩) (wq rfl) ?_))))
      intro n985
      rintro ⟨y973, y974⟩ w5_980 h6 hv6
      refine sq (sr (sm rfl (sm rfl (s1 (bi rfl rfl q_i64_lss) (sn (cB h6 rfl (fun h6 => ?_) (fun h6 => ?_)))))))
      ·obtain ⟨v982, hv982, h6⟩ := ob h6
       refine sk (sq (SC.blk (sr (sm rfl (sm rfl (sm rfl (s1 (bi rfl rfl q_i64_add) (s1 (ixs rfl rfl rfl rfl (ix_str un9 (getI_some hv982).1 (getI_some hv982).2)) (s1 (cvo rfl (cv_u8_i64 un5 un3 v982)) ?_)))))))))
       refine sa rfl (sn (sq (SC.seqP h6 (fun y => ⟨mk 95 [(0, .d (eS p0)), (3, .d (eI y878)), (5, .d (eI y942)), (6, .d (eI y943)), (7, .d (eI y973)), (8, .d (eI y974)), (9, .d (eI (v982.toNat : Int))), (71, .d (eB y))], []⟩) ?_ ?_)))
       ·intro u7_984 h7
        refine SC.region (sm rfl (s1 (bi rfl rfl q_i64_lss) (sm rfl (sp h7 (fun h7 => ?_) (fun h7 => ?_)))))
        ·have q := si h7; subst q
         exact kw rfl (kw rfl (s1 (pkt rfl rfl) (SO.nil ((wq rfl)))))
        ·have q := si h7; subst q
         exact gw rfl (mv rfl) (gw rfl (bi rfl rfl q_i64_geq) (s1 (pkf rfl rfl) (SO.nil ((wq rfl)))))
       ·rintro y983 h6
        refine cB h6 rfl (fun h6 => ?_) (fun h6 => ?_)
        ·have q := si h6; subst q; have q : _ = _ := hv6; subst q; have q := si h4; subst q; have q := si h3; subst q; have q : _ = _ := hv3; subst q; have q := si h1; subst q; have q := si h0; subst q
         exact sr (sa rfl (sn (SC.ret (finR (Wk.refl _) (lresT rfl lresN) rfl))))
        ·refine sk (SC.region (sm rfl (s1 (bi rfl rfl q_i64_mul) (sm rfl (s1 (bi rfl rfl q_i64_add) (s1 (bi rfl rfl q_i64_sub) (sa rfl (SO.nil ?_))))))))
         change SC _ _ _ _ _
         have q := si h6; subst q
         exact SC.region (sm rfl (s1 (bi rfl rfl q_i64_add) (sa rfl (SO.nil (lf (wq rfl))))))
      ·have q := si h6; subst q; have q : _ = _ := hv6; subst q; have q := si h4; subst q
       exact SC.exit (lf (wq rfl))
     ·rintro y968 h3
      refine sq (SC.seqP h3 (fun y => ⟨mk 95 [(0, .d (eS p0)), (3, .d (eI y878)), (5, .d (eI y942)), (91, .d (eB y))], []⟩) ?_ ?_)
      ·intro u4_987 h4
       refine SC.region (sm rfl (sm rfl (s1 (bi rfl rfl q_i64_lss) (sm rfl (sp h4 (fun h4 => ?_) (fun h4 => ?_))))))
       ·have q := si h4; subst q
        refine kw rfl (kw rfl (s1 (pkt rfl rfl) (sm rfl (kw rfl (kw rfl (kw rfl (kw rfl (kw rfl (kw rfl ?_)))))))))
        exact s1 (pkt rfl rfl) (SO.nil ((wq rfl)))
       ·refine gw rfl (mv rfl) (gw rfl (bi rfl rfl q_i64_gtr) (s1 (pkf rfl rfl) (sm rfl (sp h4 (fun h4 => ?_) (fun h4 => ?_)))))
        ·have q := si h4; subst q
         exact kw rfl (kw rfl (kw rfl (kw rfl (kw rfl (kw rfl (s1 (pkt rfl rfl) (SO.nil ((wq rfl)))))))))
        ·refine gw rfl (mv rfl) (gw rfl (bi rfl rfl q_i64_geq) (gw rfl (mv rfl) (sp h4 (fun h4 => ?_) (fun h4 => ?_))))
         ·have q := si h4; subst q
          exact gw rfl (mv rfl) (gw rfl (bi rfl rfl q_i64_lss) (gw rfl (pkt rfl rfl) (s1 (pkf rfl rfl) (SO.nil ((wq rfl))))))
         ·have q := si h4; subst q
          exact kw rfl (kw rfl (gw rfl (pkf rfl rfl) (s1 (pkf rfl rfl) (SO.nil ((wq rfl))))))
      ·rintro y986 h3
       refine cB h3 rfl (fun h3 => ?_) (fun h3 => ?_)
       ·have q := si h3; subst q; have q : _ = _ := hv3; subst q; have q := si h1; subst q; have q := si h0; subst q
        exact sr (sa rfl (sn (SC.ret (finR (Wk.refl _) (lresT rfl lresN) rfl))))
       ·have q := si h3; subst q
        exact sk (SC.region (sm rfl (sm rfl (s1 (bi rfl rfl q_i64_add) (sa rfl (SO.nil (lf (wq rfl))))))))
  ·have q := si h3; subst q; have q : _ = _ := hv3; subst q; have q := si h1; subst q
   exact SC.exit (lf (wq rfl))
 ·intro _ h0
  have q := si h0; subst q
  exact sr (sa rfl (sn (SC.ret (finR (Wk.refl _) (lresT rfl lresN) rfl))))
noncomputable def ref06_Valid (p0 : ApiValue) : Option Bool :=
 bif (p0.Kind == (0 : Int)) then
 Option.bind (α := Bool)
 (bif (p0.N == (0 : UInt64)) then
 some (p0.S == ([] : List UInt8))
 else
 some false)
 fun y30 =>
 some y30
 else
 Option.bind (α := Bool)
 (bif (p0.Kind == (1 : Int)) then
 some (p0.Kind == (1 : Int))
 else
 some (p0.Kind == (2 : Int)))
 fun y32 =>
 bif y32 then
 some (p0.S == ([] : List UInt8))
 else
 bif (p0.Kind == (3 : Int)) then
 Option.bind (α := Bool)
 (bif (decide (p0.N < (2 : UInt64))) then
 some (p0.S == ([] : List UInt8))
 else
 some false)
 fun y34 =>
 some y34
 else
 bif (p0.Kind == (4 : Int)) then
 Option.bind (α := Bool)
 (bif (p0.N == (0 : UInt64)) then
 some (decide ((p0.S.length : Int) ≤ (64 : Int)))
 else
 some false)
 fun y36 =>
 some y36
 else
 bif (p0.Kind == (5 : Int)) then
 Option.bind (α := Bool)
 (bif (p0.N == (0 : UInt64)) then
 bif (decide ((p0.S.length : Int) ≤ (64 : Int))) then
 Option.bind (ref06_utf8 p0.S) fun r43 =>
 some r43
 else
 some false
 else
 some false)
 fun y40 =>
 some y40
 else
 some false
theorem ref06_Valid_ok (p0 : ApiValue) (r : Bool) (h0 : ref06_Valid p0 = some r) : CallAt Tryz.prog 111 [.d (eApiValue p0)] [] (.d (eB r)) [] := by
 unfold ref06_Valid at h0
 refine fn0 [0] Tryz.func111 rfl rfl rfl rfl rfl ?_
 refine sr (s1 (bxo (k := 0) rfl rfl rfl) (sa rfl (sn (sq (sr (s1 (far (k := 0) rfl fo43_0 ts3 rfl) (s1 (lod rfl (ld_box ts3 ta3 rfl rfl)) (sn (SC.blk ?_)))))))))
 refine sr (s1 (bi rfl rfl q_i64_eql) (sa rfl (sn (cB h0 rfl (fun h0 => ?_) (fun h0 => ?_)))))
 ·refine SC.seqP h0 (fun y => ⟨mk 58 [(2, .d (eB y))], []⟩) ?_ ?_
  ·intro u1_31 h1
   refine SC.region (s1 (far (k := 1) rfl fo43_1 ts41 rfl) (s1 (lod rfl (ld_box ts41 ta41 rfl rfl)) (s1 (bi rfl rfl (q_u64_eql (b := (0 : UInt64)))) (sm rfl (sp h1 (fun h1 => ?_) (fun h1 => ?_))))))
   ·have q := si h1; subst q
    exact gw rfl (far (k := 2) rfl fo43_2 ts9 rfl) (gw rfl (lod rfl (ld_box ts9 ta9 rfl rfl)) (gw rfl (bi rfl rfl (q_str_eql (b := ([] : List UInt8)))) (s1 (pkt rfl rfl) (sa rfl (SO.nil ((wc [] [] (by kernel_rfl) rfl (by kernel_rfl))))))))
   ·have q := si h1; subst q
    exact kw rfl (kw rfl (kw rfl (s1 (pkf rfl rfl) (sa rfl (SO.nil ((wc [] [] (by kernel_rfl) rfl (by kernel_rfl))))))))
  ·rintro y30 h0
   have q := si h0; subst q
   exact SC.ret (finR (Wk.refl _) (lresT rfl lresN) rfl)
 ·refine SC.seqP h0 (fun y => ⟨mk 58 [(1, .ref 0 0 0), (4, .d (eI p0.Kind)), (15, .d (eB y))], [.box (.d (eApiValue p0))]⟩) ?_ ?_
  ·intro u1_33 h1
   refine sr (s1 (bi rfl rfl q_i64_eql) (sa rfl (sn (cB h1 rfl (fun h1 => ?_) (fun h1 => ?_)))))
   ·have q := si h1; subst q
    exact SC.skip ((wq rfl))
   ·have q := si h1; subst q
    exact SC.region (s1 (bi rfl rfl q_i64_eql) (sa rfl (SO.nil ((wq rfl)))))
  ·rintro y32 h0
   refine cB h0 rfl (fun h0 => ?_) (fun h0 => ?_)
   ·have q := si h0; subst q
    exact sr (s1 (far (k := 2) rfl fo43_2 ts9 rfl) (s1 (lod rfl (ld_box ts9 ta9 rfl rfl)) (s1 (bi rfl rfl (q_str_eql (b := ([] : List UInt8)))) (sa rfl (sn (SC.ret (finR (wc (e' := [(2, .d (eB (p0.S == ([] : List UInt8))))]) [] [] (by kernel_rfl) rfl (by kernel_rfl)) (lresT rfl lresN) rfl)))))))
   ·refine sr (s1 (bi rfl rfl q_i64_eql) (sa rfl (sn (cB h0 rfl (fun h0 => ?_) (fun h0 => ?_)))))
    ·refine SC.seqP h0 (fun y => ⟨mk 58 [(2, .d (eB y))], []⟩) ?_ ?_
     ·intro u1_35 h1
      refine SC.region (s1 (far (k := 1) rfl fo43_1 ts41 rfl) (s1 (lod rfl (ld_box ts41 ta41 rfl rfl)) (s1 (bi rfl rfl (q_u64_lss (b := (2 : UInt64)))) (sm rfl (sp h1 (fun h1 => ?_) (fun h1 => ?_))))))
      ·have q := si h1; subst q
       exact gw rfl (far (k := 2) rfl fo43_2 ts9 rfl) (gw rfl (lod rfl (ld_box ts9 ta9 rfl rfl)) (gw rfl (bi rfl rfl (q_str_eql (b := ([] : List UInt8)))) (s1 (pkt rfl rfl) (sa rfl (SO.nil ((wc [] [] (by kernel_rfl) rfl (by kernel_rfl))))))))
      ·have q := si h1; subst q
       exact kw rfl (kw rfl (kw rfl (s1 (pkf rfl rfl) (sa rfl (SO.nil ((wc [] [] (by kernel_rfl) rfl (by kernel_rfl))))))))
     ·rintro y34 h0
      have q := si h0; subst q
      exact SC.ret (finR (Wk.refl _) (lresT rfl lresN) rfl)
    ·refine sr (s1 (bi rfl rfl q_i64_eql) (sa rfl (sn (cB h0 rfl (fun h0 => ?_) (fun h0 => ?_)))))
     ·refine SC.seqP h0 (fun y => ⟨mk 58 [(2, .d (eB y))], []⟩) ?_ ?_
      ·intro u1_37 h1
       refine SC.region (s1 (far (k := 1) rfl fo43_1 ts41 rfl) (s1 (lod rfl (ld_box ts41 ta41 rfl rfl)) (s1 (bi rfl rfl (q_u64_eql (b := (0 : UInt64)))) (sm rfl (sp h1 (fun h1 => ?_) (fun h1 => ?_))))))
       ·have q := si h1; subst q
        exact gw rfl (far (k := 2) rfl fo43_2 ts9 rfl) (gw rfl (lod rfl (ld_box ts9 ta9 rfl rfl)) (gw rfl (len rfl rfl rfl (len_str un9)) (gw rfl (bi rfl rfl q_i64_leq) (s1 (pkt rfl rfl) (sa rfl (SO.nil ((wc [] [] (by kernel_rfl) rfl (by kernel_rfl)))))))))
       ·have q := si h1; subst q
        exact kw rfl (kw rfl (kw rfl (kw rfl (s1 (pkf rfl rfl) (sa rfl (SO.nil ((wc [] [] (by kernel_rfl) rfl (by kernel_rfl)))))))))
      ·rintro y36 h0
       have q := si h0; subst q
       exact SC.ret (finR (Wk.refl _) (lresT rfl lresN) rfl)
     ·refine sr (s1 (bi rfl rfl q_i64_eql) (sa rfl (sn (cB h0 rfl (fun h0 => ?_) (fun h0 => ?_)))))
      ·refine SC.seqP h0 (fun y => ⟨mk 58 [(2, .d (eB y))], []⟩) ?_ ?_
       ·intro u1_41 h1
        refine SC.region (s1 (far (k := 1) rfl fo43_1 ts41 rfl) (s1 (lod rfl (ld_box ts41 ta41 rfl rfl)) (s1 (bi rfl rfl (q_u64_eql (b := (0 : UInt64)))) (sm rfl (sp h1 (fun h1 => ?_) (fun h1 => ?_))))))
        ·refine gw rfl (far (k := 2) rfl fo43_2 ts9 rfl) (gw rfl (lod rfl (ld_box ts9 ta9 rfl rfl)) (gw rfl (len rfl rfl rfl (len_str un9)) (gw rfl (bi rfl rfl q_i64_leq) (s1 (pkt rfl rfl) (sm rfl (sp h1 (fun h1 => ?_) (fun h1 => ?_)))))))
         ·obtain ⟨r43, hq42, h1⟩ := ob h1; have q := si h1; subst q
          exact gw rfl (far (k := 2) rfl fo43_2 ts9 rfl) (gw rfl (lod rfl (ld_box ts9 ta9 rfl rfl)) (c0 (ref06_utf8_ok p0.S _ hq42) (ww rfl) rfl rfl rfl cb124 rfl (fun _ => rfl) (fun _ => rfl) (s1 (pkt rfl rfl) (sa rfl (SO.nil ((wc [] [] (by kernel_rfl) rfl (by kernel_rfl))))))))
         ·have q := si h1; subst q
          exact kw rfl (kw rfl (kw rfl (s1 (pkf rfl rfl) (sa rfl (SO.nil ((wc [] [] (by kernel_rfl) rfl (by kernel_rfl))))))))
        ·have q := si h1; subst q
         refine kw rfl (kw rfl (kw rfl (kw rfl (s1 (pkf rfl rfl) (sm rfl (kw rfl (kw rfl (kw rfl (s1 (pkf rfl rfl) ?_)))))))))
         exact sa rfl (SO.nil ((wc [] [] (by kernel_rfl) rfl (by kernel_rfl))))
       ·rintro y40 h0
        have q := si h0; subst q
        exact SC.ret (finR (Wk.refl _) (lresT rfl lresN) rfl)
      ·refine SC.skip ?_
       change SC _ _ _ _ _
       have q := si h0; subst q
       exact sr (sa rfl (sn (SC.ret (finR (wc (e' := [(2, .d (eB false))]) [] [] (by kernel_rfl) rfl (by kernel_rfl)) (lresT rfl lresN) rfl))))
noncomputable def ref06_Fits (p0 : ApiColumn) (p1 : ApiValue) : Option Int :=
 Option.bind (α := Bool)
 (Option.bind (ref06_Valid p1) fun r23 =>
 bif (!r23) then
 some true
 else
 bif (p1.Kind == (0 : Int)) then
 bif (!p0.Nulls) then
 some true
 else
 bif (p1.Kind != (0 : Int)) then
 some (p1.Kind != p0.Kind)
 else
 some false
 else
 bif (p1.Kind != (0 : Int)) then
 some (p1.Kind != p0.Kind)
 else
 some false)
 fun y20 =>
 bif y20 then
 some (8 : Int)
 else
 Option.bind (α := Bool)
 (bif (p1.Kind == (4 : Int)) then
 some (decide ((p1.S.length : Int) > p0.Max))
 else
 bif (p1.Kind == (5 : Int)) then
 some (decide ((p1.S.length : Int) > p0.Max))
 else
 some false)
 fun y24 =>
 bif y24 then
 some (7 : Int)
 else
 some (0 : Int)
theorem ref06_Fits_ok (p0 : ApiColumn) (p1 : ApiValue) (r : Int) (h0 : ref06_Fits p0 p1 = some r) : CallAt Tryz.prog 75 [.d (eApiColumn p0), .d (eApiValue p1)] [] (.d (eI r)) [] := by
 unfold ref06_Fits at h0
 refine fn0 [0, 1] Tryz.func75 rfl rfl rfl rfl rfl ?_
 refine sr (s1 (bxo (k := 0) rfl rfl rfl) (s1 (bxo (k := 1) rfl rfl rfl) (sa rfl (sn (sq (SC.seqP h0 (fun y => ⟨mk 46 [(2, .ref 0 0 0), (3, .ref 1 0 0), (29, .d (eB y))], [.box (.d (eApiColumn p0)), .box (.d (eApiValue p1))]⟩) ?_ ?_))))))
 ·intro u1_21 h1
  obtain ⟨r23, hq22, h1⟩ := ob h1
  refine SC.region (s1 (lod (v := .d (eApiValue p1)) rfl (ld_box ts43 ta43 rfl rfl)) (c0 (ref06_Valid_ok p1 _ hq22) wf rfl rfl rfl cb111 rfl (fun _ => rfl) (fun _ => rfl) (s1 (nt rfl) (sm rfl (sp h1 (fun h1 => ?_) (fun h1 => ?_))))))
  ·have q := si h1; subst q
   refine kw rfl (kw rfl (kw rfl (kw rfl (kw rfl (kw rfl (kw rfl (kw rfl (s1 (pkt rfl rfl) (sm rfl ?_)))))))))
   refine kw rfl (kw rfl (kw rfl (kw rfl (kw rfl (kw rfl (kw rfl (kw rfl (kw rfl (kw rfl ?_)))))))))
   exact s1 (pkt rfl rfl) (SO.nil ((wq rfl)))
  ·refine gw rfl (far (k := 0) rfl fo43_0 ts3 rfl) (gw rfl (lod rfl (ld_box ts3 ta3 rfl rfl)) (gw rfl (bi rfl rfl q_i64_eql) (gw rfl (mv rfl) (sp h1 (fun h1 => ?_) (fun h1 => ?_)))))
   ·refine gw rfl (far (k := 3) rfl fo45_3 ts4 rfl) (gw rfl (lod rfl (ld_box ts4 ta4 rfl rfl)) (gw rfl (nt rfl) (gw rfl (pkt rfl rfl) (s1 (pkf rfl rfl) (sm rfl (sp h1 (fun h1 => ?_) (fun h1 => ?_)))))))
    ·have q := si h1; subst q
     refine kw rfl (kw rfl (kw rfl (kw rfl (kw rfl (kw rfl (kw rfl (kw rfl (kw rfl (kw rfl ?_)))))))))
     exact s1 (pkt rfl rfl) (SO.nil ((wq rfl)))
    ·refine gw rfl (far (k := 0) rfl fo43_0 ts3 rfl) (gw rfl (lod rfl (ld_box ts3 ta3 rfl rfl)) (gw rfl (bi rfl rfl q_i64_neq) (gw rfl (mv rfl) (sp h1 (fun h1 => ?_) (fun h1 => ?_)))))
     ·have q := si h1; subst q
      exact gw rfl (far (k := 0) rfl fo43_0 ts3 rfl) (gw rfl (lod rfl (ld_box ts3 ta3 rfl rfl)) (gw rfl (far (k := 1) rfl fo45_1 ts3 rfl) (gw rfl (lod rfl (ld_box ts3 ta3 rfl rfl)) (gw rfl (bi rfl rfl q_i64_neq) (gw rfl (pkt rfl rfl) (s1 (pkf rfl rfl) (SO.nil ((wq rfl)))))))))
     ·have q := si h1; subst q
      exact kw rfl (kw rfl (kw rfl (kw rfl (kw rfl (gw rfl (pkf rfl rfl) (s1 (pkf rfl rfl) (SO.nil ((wq rfl)))))))))
   ·refine kw rfl (kw rfl (kw rfl (gw rfl (pkf rfl rfl) (s1 (pkf rfl rfl) (sm rfl (gw rfl (far (k := 0) rfl fo43_0 ts3 rfl) (gw rfl (lod rfl (ld_box ts3 ta3 rfl rfl)) (gw rfl (bi rfl rfl q_i64_neq) (gw rfl (mv rfl) ?_)))))))))
    refine sp h1 (fun h1 => ?_) (fun h1 => ?_)
    ·have q := si h1; subst q
     exact gw rfl (far (k := 0) rfl fo43_0 ts3 rfl) (gw rfl (lod rfl (ld_box ts3 ta3 rfl rfl)) (gw rfl (far (k := 1) rfl fo45_1 ts3 rfl) (gw rfl (lod rfl (ld_box ts3 ta3 rfl rfl)) (gw rfl (bi rfl rfl q_i64_neq) (gw rfl (pkt rfl rfl) (s1 (pkf rfl rfl) (SO.nil ((wq rfl)))))))))
    ·have q := si h1; subst q
     exact kw rfl (kw rfl (kw rfl (kw rfl (kw rfl (gw rfl (pkf rfl rfl) (s1 (pkf rfl rfl) (SO.nil ((wq rfl)))))))))
 ·rintro y20 h0
  refine cB h0 rfl (fun h0 => ?_) (fun h0 => ?_)
  ·have q := si h0; subst q
   exact sr (sa rfl (sn (SC.ret (finR (wc (e' := [(4, .d (eI (8 : Int)))]) [] [] (by kernel_rfl) rfl (by kernel_rfl)) (lresT rfl lresN) rfl))))
  ·refine sk (sq (SC.seqP h0 (fun y => ⟨mk 46 [(45, .d (eB y))], []⟩) ?_ ?_))
   ·intro u1_25 h1
    refine SC.region (s1 (far (k := 0) rfl fo43_0 ts3 rfl) (s1 (lod rfl (ld_box ts3 ta3 rfl rfl)) (s1 (bi rfl rfl q_i64_eql) (sm rfl (sp h1 (fun h1 => ?_) (fun h1 => ?_))))))
    ·have q := si h1; subst q
     refine kw rfl (kw rfl (kw rfl (s1 (pkt rfl rfl) (sm rfl (gw rfl (far (k := 2) rfl fo43_2 ts9 rfl) (gw rfl (lod rfl (ld_box ts9 ta9 rfl rfl)) (gw rfl (len rfl rfl rfl (len_str un9)) (gw rfl (far (k := 2) rfl fo45_2 ts3 rfl) (gw rfl (lod rfl (ld_box ts3 ta3 rfl rfl)) ?_)))))))))
     exact gw rfl (bi rfl rfl q_i64_gtr) (s1 (pkt rfl rfl) (SO.nil ((wc [] [] (by kernel_rfl) rfl (by kernel_rfl)))))
    ·refine gw rfl (far (k := 0) rfl fo43_0 ts3 rfl) (gw rfl (lod rfl (ld_box ts3 ta3 rfl rfl)) (gw rfl (bi rfl rfl q_i64_eql) (s1 (pkf rfl rfl) (sm rfl (sp h1 (fun h1 => ?_) (fun h1 => ?_))))))
     ·have q := si h1; subst q
      exact gw rfl (far (k := 2) rfl fo43_2 ts9 rfl) (gw rfl (lod rfl (ld_box ts9 ta9 rfl rfl)) (gw rfl (len rfl rfl rfl (len_str un9)) (gw rfl (far (k := 2) rfl fo45_2 ts3 rfl) (gw rfl (lod rfl (ld_box ts3 ta3 rfl rfl)) (gw rfl (bi rfl rfl q_i64_gtr) (s1 (pkt rfl rfl) (SO.nil ((wc [] [] (by kernel_rfl) rfl (by kernel_rfl))))))))))
     ·have q := si h1; subst q
      exact kw rfl (kw rfl (kw rfl (kw rfl (kw rfl (kw rfl (s1 (pkf rfl rfl) (SO.nil ((wc [] [] (by kernel_rfl) rfl (by kernel_rfl))))))))))
   ·rintro y24 h0
    refine cB h0 rfl (fun h0 => ?_) (fun h0 => ?_)
    ·have q := si h0; subst q
     exact sr (sa rfl (sn (SC.ret (finR (Wk.refl _) (lresT rfl lresN) rfl))))
    ·have q := si h0; subst q
     exact sk (sr (sa rfl (sn (SC.ret (finR (Wk.refl _) (lresT rfl lresN) rfl)))))
noncomputable def ref06_Column (p0 : ApiColumn) : Option Int :=
 Option.bind (ref06_Name p0.Name) fun r19 =>
 bif (!r19) then
 some (1 : Int)
 else
 Option.bind (α := Bool)
 (bif (decide (p0.Kind < (1 : Int))) then
 some true
 else
 some (decide (p0.Kind > (5 : Int))))
 fun y20 =>
 bif y20 then
 some (8 : Int)
 else
 Option.bind (α := Bool)
 (bif (decide (p0.Kind < (4 : Int))) then
 bif (p0.Max != (0 : Int)) then
 some true
 else
 bif (decide (p0.Kind > (3 : Int))) then
 bif (decide (p0.Max < (1 : Int))) then
 some true
 else
 some (decide (p0.Max > (64 : Int)))
 else
 some false
 else
 bif (decide (p0.Kind > (3 : Int))) then
 bif (decide (p0.Max < (1 : Int))) then
 some true
 else
 some (decide (p0.Max > (64 : Int)))
 else
 some false)
 fun y22 =>
 bif y22 then
 some (7 : Int)
 else
 Option.bind (ref06_Fits p0 p0.Default) fun r25 =>
 some r25
theorem ref06_Column_ok (p0 : ApiColumn) (r : Int) (h0 : ref06_Column p0 = some r) : CallAt Tryz.prog 43 [.d (eApiColumn p0)] [] (.d (eI r)) [] := by
 unfold ref06_Column at h0
 refine fn0 [0] Tryz.func43 rfl rfl rfl rfl rfl ?_
 obtain ⟨r19, hq18, h0⟩ := ob h0
 refine sr (s1 (bxo (k := 0) rfl rfl rfl) (sa rfl (sn (sq (sr (s1 (far (k := 0) rfl fo45_0 ts9 rfl) (s1 (lod rfl (ld_box ts9 ta9 rfl rfl)) (c0 (ref06_Name_ok p0.Name _ hq18) wf rfl rfl rfl cb42 rfl (fun _ => rfl) (fun _ => rfl) (s1 (nt rfl) ?_)))))))))
 refine sn (cB h0 rfl (fun h0 => ?_) (fun h0 => ?_))
 ·have q := si h0; subst q
  exact sr (sa rfl (sn (SC.ret (finR (wc (e' := [(2, .d (eI (1 : Int)))]) [] [] (by kernel_rfl) rfl (by kernel_rfl)) (lresT rfl lresN) rfl))))
 ·refine sk (sq (SC.seqP h0 (fun y => ⟨mk 42 [(1, .ref 0 0 0), (14, .d (eB y))], [.box (.d (eApiColumn p0))]⟩) ?_ ?_))
  ·intro u1_21 h1
   refine SC.region (s1 (far (k := 1) rfl fo45_1 ts3 rfl) (s1 (lod rfl (ld_box ts3 ta3 rfl rfl)) (s1 (bi rfl rfl q_i64_lss) (sm rfl (sp h1 (fun h1 => ?_) (fun h1 => ?_))))))
   ·have q := si h1; subst q
    exact kw rfl (kw rfl (kw rfl (s1 (pkt rfl rfl) (SO.nil ((wq rfl))))))
   ·have q := si h1; subst q
    exact gw rfl (far (k := 1) rfl fo45_1 ts3 rfl) (gw rfl (lod rfl (ld_box ts3 ta3 rfl rfl)) (gw rfl (bi rfl rfl q_i64_gtr) (s1 (pkf rfl rfl) (SO.nil ((wq rfl))))))
  ·rintro y20 h0
   refine cB h0 rfl (fun h0 => ?_) (fun h0 => ?_)
   ·have q := si h0; subst q
    exact sr (sa rfl (sn (SC.ret (finR (wc (e' := [(2, .d (eI (8 : Int)))]) [] [] (by kernel_rfl) rfl (by kernel_rfl)) (lresT rfl lresN) rfl))))
   ·refine sk (sq (SC.seqP h0 (fun y => ⟨mk 42 [(1, .ref 0 0 0), (37, .d (eB y))], [.box (.d (eApiColumn p0))]⟩) ?_ ?_))
    ·intro u1_23 h1
     refine SC.region (s1 (far (k := 1) rfl fo45_1 ts3 rfl) (s1 (lod rfl (ld_box ts3 ta3 rfl rfl)) (s1 (bi rfl rfl q_i64_lss) (sm rfl (sp h1 (fun h1 => ?_) (fun h1 => ?_))))))
     ·refine gw rfl (far (k := 2) rfl fo45_2 ts3 rfl) (gw rfl (lod rfl (ld_box ts3 ta3 rfl rfl)) (gw rfl (bi rfl rfl q_i64_neq) (s1 (pkt rfl rfl) (sm rfl (sp h1 (fun h1 => ?_) (fun h1 => ?_))))))
      ·have q := si h1; subst q
       refine kw rfl (kw rfl (kw rfl (kw rfl (kw rfl (kw rfl (kw rfl (kw rfl (kw rfl (kw rfl ?_)))))))))
       exact kw rfl (kw rfl (kw rfl (s1 (pkt rfl rfl) (SO.nil ((wq rfl))))))
      ·refine gw rfl (far (k := 1) rfl fo45_1 ts3 rfl) (gw rfl (lod rfl (ld_box ts3 ta3 rfl rfl)) (gw rfl (bi rfl rfl q_i64_gtr) (gw rfl (mv rfl) (sp h1 (fun h1 => ?_) (fun h1 => ?_)))))
       ·refine gw rfl (far (k := 2) rfl fo45_2 ts3 rfl) (gw rfl (lod rfl (ld_box ts3 ta3 rfl rfl)) (gw rfl (bi rfl rfl q_i64_lss) (gw rfl (mv rfl) (sp h1 (fun h1 => ?_) (fun h1 => ?_)))))
        ·have q := si h1; subst q
         exact kw rfl (kw rfl (kw rfl (gw rfl (pkt rfl rfl) (gw rfl (pkt rfl rfl) (s1 (pkf rfl rfl) (SO.nil ((wq rfl))))))))
        ·have q := si h1; subst q
         exact gw rfl (far (k := 2) rfl fo45_2 ts3 rfl) (gw rfl (lod rfl (ld_box ts3 ta3 rfl rfl)) (gw rfl (bi rfl rfl q_i64_gtr) (gw rfl (pkf rfl rfl) (gw rfl (pkt rfl rfl) (s1 (pkf rfl rfl) (SO.nil ((wq rfl))))))))
       ·have q := si h1; subst q
        refine kw rfl (kw rfl (kw rfl (kw rfl (kw rfl (kw rfl (kw rfl (kw rfl (gw rfl (pkf rfl rfl) (s1 (pkf rfl rfl) ?_)))))))))
        exact SO.nil ((wq rfl))
     ·refine kw rfl (kw rfl (kw rfl (s1 (pkf rfl rfl) (sm rfl (gw rfl (far (k := 1) rfl fo45_1 ts3 rfl) (gw rfl (lod rfl (ld_box ts3 ta3 rfl rfl)) (gw rfl (bi rfl rfl q_i64_gtr) (gw rfl (mv rfl) (sp h1 (fun h1 => ?_) (fun h1 => ?_))))))))))
      ·refine gw rfl (far (k := 2) rfl fo45_2 ts3 rfl) (gw rfl (lod rfl (ld_box ts3 ta3 rfl rfl)) (gw rfl (bi rfl rfl q_i64_lss) (gw rfl (mv rfl) (sp h1 (fun h1 => ?_) (fun h1 => ?_)))))
       ·have q := si h1; subst q
        exact kw rfl (kw rfl (kw rfl (gw rfl (pkt rfl rfl) (gw rfl (pkt rfl rfl) (s1 (pkf rfl rfl) (SO.nil ((wq rfl))))))))
       ·have q := si h1; subst q
        exact gw rfl (far (k := 2) rfl fo45_2 ts3 rfl) (gw rfl (lod rfl (ld_box ts3 ta3 rfl rfl)) (gw rfl (bi rfl rfl q_i64_gtr) (gw rfl (pkf rfl rfl) (gw rfl (pkt rfl rfl) (s1 (pkf rfl rfl) (SO.nil ((wq rfl))))))))
      ·have q := si h1; subst q
       refine kw rfl (kw rfl (kw rfl (kw rfl (kw rfl (kw rfl (kw rfl (kw rfl (gw rfl (pkf rfl rfl) (s1 (pkf rfl rfl) ?_)))))))))
       exact SO.nil ((wq rfl))
    ·rintro y22 h0
     refine cB h0 rfl (fun h0 => ?_) (fun h0 => ?_)
     ·have q := si h0; subst q
      exact sr (sa rfl (sn (SC.ret (finR (wc (e' := [(2, .d (eI (7 : Int)))]) [] [] (by kernel_rfl) rfl (by kernel_rfl)) (lresT rfl lresN) rfl))))
     ·obtain ⟨r25, hq24, h0⟩ := ob h0; have q := si h0; subst q
      exact sk (sr (s1 (lod (v := .d (eApiColumn p0)) rfl (ld_box ts45 ta45 rfl rfl)) (s1 (far (k := 4) rfl fo45_4 ts43 rfl) (s1 (lod (v := .d (eApiValue p0.Default)) rfl (ld_box ts43 ta43 rfl rfl)) (c0 (ref06_Fits_ok p0 p0.Default _ hq24) wf rfl rfl rfl cb75 rfl (fun _ => rfl) (fun _ => rfl) (sa rfl (sn (SC.ret (finR (wc (e' := [(2, .d (eI r25))]) [] [] (by kernel_rfl) rfl (by kernel_rfl)) (lresT rfl lresN) rfl)))))))))
noncomputable def ref17_Has (p0 : List Int) (p1 : Int) : Option Bool :=
 bindE (Y := Unit) (E := Bool)
 (Option.bind (α := Unit ⊕ Bool)
 (loop (Y := Int) (W := Unit ⊕ Bool) (fun y46 =>
 bif (decide (y46 < (p0.length : Int))) then
 Option.bind (getI p0 y46) fun v51 =>
 bif (v51 == p1) then
 some (Sum.inr (Sum.inr true))
 else
 some (Sum.inl (w64 (y46 + (1 : Int))))
 else
 some (Sum.inr (Sum.inl ()))) (0 : Int))
 (Sum.elim (fun e => some (Sum.inl e)) (fun e => some (Sum.inr e))))
 (fun _ =>
 some false)
 (fun e => some e)
theorem ref17_Has_ok (p0 : List Int) (p1 : Int) (r : Bool) (h0 : ref17_Has p0 p1 = some r) : CallAt Tryz.prog 76 [.d ((eL 1 eI) p0), .d (eI p1)] [] (.d (eB r)) [] := by
 unfold ref17_Has at h0
 refine fn0 [0, 1] Tryz.func76 rfl rfl rfl rfl rfl ?_
 refine sr (sa rfl (sn (SC.seqB h0 (fun y => ⟨mk 18 [], []⟩) ?_ ?_)))
 ·intro u1_44 h1 h0
  obtain ⟨u2_50, h2, h1⟩ := ob h1
  refine sr (sa rfl (sn (SC.blk (SC.loopB h2 (fun y => ⟨mk 18 [(0, .d ((eL 1 eI) p0)), (1, .d (eI p1)), (5, .d (eI y))], []⟩) (wq rfl) ?_))))
  intro n52
  rintro y46 w2_49 h3 hv3
  refine sq (sr (sm rfl (sm rfl (s1 (len rfl rfl rfl (len_lst un23)) (s1 (bi rfl rfl q_i64_lss) (sn (cB h3 rfl (fun h3 => ?_) (fun h3 => ?_))))))))
  ·obtain ⟨v51, hv51, h3⟩ := ob h3
   refine sk (sq (SC.blk (sr (sm rfl (sm rfl (s1 (ial rfl rfl un23 ts3 (getI_some hv51).1 (map_get (getI_some hv51).2) rfl) (s1 (lod rfl (ld_rop ts3 ta3 rfl)) (sm rfl (s1 (bi rfl rfl q_i64_eql) ?_)))))))))
   refine sn (cB h3 rfl (fun h3 => ?_) (fun h3 => ?_))
   ·have q := si h3; subst q; have q : _ = _ := hv3; subst q; have q := si h1; subst q; have q := si h0; subst q
    exact sr (sa rfl (sn (SC.ret (finR (Wk.refl _) (lresT rfl lresN) rfl))))
   ·refine SC.skip ?_
    change SC _ _ _ _ _
    have q := si h3; subst q
    exact SC.region (sm rfl (s1 (bi rfl rfl q_i64_add) (sa rfl (SO.nil (lf (wq rfl))))))
  ·have q := si h3; subst q; have q : _ = _ := hv3; subst q; have q := si h1; subst q
   exact SC.exit (lf (wq rfl))
 ·intro _ h0
  have q := si h0; subst q
  exact sr (sa rfl (sn (SC.ret (finR (Wk.refl _) (lresT rfl lresN) rfl))))
noncomputable def ref17_places (p0 : Int) (p1 : List Int) : Option Bool :=
 bindE (Y := Unit) (E := Bool)
 (Option.bind (α := Unit ⊕ Bool)
 (loop (Y := Int) (W := Unit ⊕ Bool) (fun y254 =>
 bif (decide (y254 < (p1.length : Int))) then
 Option.bind (α := Bool)
 (Option.bind (getI p1 y254) fun v280 =>
 bif (decide (v280 < (0 : Int))) then
 some true
 else
 Option.bind (getI p1 y254) fun v281 =>
 bif (decide (v281 ≥ p0)) then
 some true
 else
 bif decide (0 ≤ y254 ∧ y254 ≤ (p1.length : Int)) then
 Option.bind (getI p1 y254) fun v283 =>
 Option.bind (ref17_Has (List.take y254.toNat p1) v283) fun r285 =>
 some r285
 else none)
 fun y278 =>
 bif y278 then
 some (Sum.inr (Sum.inr false))
 else
 some (Sum.inl (w64 (y254 + (1 : Int))))
 else
 some (Sum.inr (Sum.inl ()))) (0 : Int))
 (Sum.elim (fun e => some (Sum.inl e)) (fun e => some (Sum.inr e))))
 (fun _ =>
 some true)
 (fun e => some e)
theorem ref17_places_ok (p0 : Int) (p1 : List Int) (r : Bool) (h0 : ref17_places p0 p1 = some r) : CallAt Tryz.prog 44 [.d (eI p0), .d ((eL 1 eI) p1)] [] (.d (eB r)) [] := by
 unfold ref17_places at h0
 refine fn0 [0, 1] Tryz.func44 rfl rfl rfl rfl rfl ?_
 refine sr (sa rfl (sn (SC.seqB h0 (fun y => ⟨mk 35 [], []⟩) ?_ ?_)))
 ·intro u1_239 h1 h0
  obtain ⟨u2_271, h2, h1⟩ := ob h1
  refine sr (sa rfl (sn (SC.blk (SC.loopB h2 (fun y => ⟨mk 35 [(0, .d (eI p0)), (1, .d ((eL 1 eI) p1)), (5, .d (eI y))], []⟩) (wq rfl) ?_))))
  intro n286
  rintro y254 w2_270 h3 hv3
  refine sq (sr (sm rfl (sm rfl (s1 (len rfl rfl rfl (len_lst un23)) (s1 (bi rfl rfl q_i64_lss) (sn (cB h3 rfl (fun h3 => ?_) (fun h3 => ?_))))))))
  ·refine sk (sq (SC.blk (SC.seqP h3 (fun y => ⟨mk 35 [(0, .d (eI p0)), (1, .d ((eL 1 eI) p1)), (5, .d (eI y254)), (34, .d (eB y))], []⟩) ?_ ?_)))
   ·intro u4_279 h4
    obtain ⟨v280, hv280, h4⟩ := ob h4
    refine SC.draws (by kernel_rfl) (t1 ([], false) (mv rfl) rfl (t1 ([], false) (mv rfl) rfl (t1 ([], false) (ial rfl rfl un23 ts3 (getI_some hv280).1 (map_get (getI_some hv280).2) rfl) rfl (t1 ([], false) (lod rfl (ld_rop ts3 ta3 rfl)) rfl (t1 ([], false) (bi rfl rfl q_i64_lss) rfl (t1 ([], false) (mv rfl) rfl (tp h4 (fun h4 => ?_) (fun h4 => ?_))))))))
    ·have q := si h4; subst q
     refine jw rfl (jw rfl (jw rfl (jw rfl (jw rfl (jw rfl (t1 ([], false) (pkt rfl rfl) rfl (t1 ([], false) (mv rfl) rfl (jw rfl (jw rfl ?_)))))))))
     refine jw rfl (jw rfl (jw rfl (jw rfl (jw rfl (jw rfl (t1 ([], false) (pkt rfl rfl) rfl (ST.nil (And.intro (by decide +kernel) ?_))))))))
     exact (wq rfl)
    ·obtain ⟨v281, hv281, h4⟩ := ob h4
     refine u1 ([], false) (ww rfl) (mv rfl) rfl (u1 ([], false) (ww rfl) (mv rfl) rfl (u1 ([], false) (ww rfl) (ial rfl rfl un23 ts3 (getI_some hv281).1 (map_get (getI_some hv281).2) rfl) rfl (u1 ([], false) (ww rfl) (lod rfl (ld_rop ts3 ta3 rfl)) rfl (u1 ([], false) (ww rfl) (mv rfl) rfl (u1 ([], false) (ww rfl) (bi rfl rfl q_i64_geq) rfl (t1 ([], false) (pkf rfl rfl) rfl (t1 ([], false) (mv rfl) rfl (tp h4 (fun h4 => ?_) (fun h4 => ?_)))))))))
     ·have q := si h4; subst q
      refine jw rfl (jw rfl (jw rfl (jw rfl (jw rfl (jw rfl (jw rfl (jw rfl (t1 ([], false) (pkt rfl rfl) rfl (ST.nil (And.intro (by decide +kernel) ?_))))))))))
      exact (wq rfl)
     ·obtain ⟨hg282, h4⟩ := gd h4; obtain ⟨v283, hv283, h4⟩ := ob h4; obtain ⟨r285, hq284, h4⟩ := ob h4; have q := si h4; subst q
      refine u1 ([], false) (ww rfl) (mv rfl) rfl (u1 ([], false) (ww rfl) (mv rfl) rfl (u1 ([], false) (ww rfl) (slo rfl rfl rfl rfl (sl_lst_hi un23 ts3 hg282)) rfl (u1 ([], false) (ww rfl) (mv rfl) rfl (u1 ([], false) (ww rfl) (mv rfl) rfl (u1 ([], false) (ww rfl) (ial rfl rfl un23 ts3 (getI_some hv283).1 (map_get (getI_some hv283).2) rfl) rfl (u1 ([], false) (ww rfl) (lod rfl (ld_rop ts3 ta3 rfl)) rfl (tc0 (ref17_Has_ok (List.take y254.toNat p1) v283 _ hq284) (ww rfl) rfl rfl rfl cb76 rfl (fun _ => rfl) (fun _ => rfl) (t1 ([], false) (pkf rfl rfl) rfl (ST.nil (And.intro (by decide +kernel) ?_))))))))))
      exact (wq rfl)
   ·rintro y278 h3
    refine cB h3 rfl (fun h3 => ?_) (fun h3 => ?_)
    ·have q := si h3; subst q; have q : _ = _ := hv3; subst q; have q := si h1; subst q; have q := si h0; subst q
     exact sr (sa rfl (sn (SC.ret (finR (Wk.refl _) (lresT rfl lresN) rfl))))
    ·refine SC.skip ?_
     change SC _ _ _ _ _
     have q := si h3; subst q
     exact SC.region (sm rfl (s1 (bi rfl rfl q_i64_add) (sa rfl (SO.nil (lf (wq rfl))))))
  ·have q := si h3; subst q; have q : _ = _ := hv3; subst q; have q := si h1; subst q
   exact SC.exit (lf (wq rfl))
 ·intro _ h0
  have q := si h0; subst q
  exact sr (sa rfl (sn (SC.ret (finR (Wk.refl _) (lresT rfl lresN) rfl))))
noncomputable def ref17_wide (p0 : ApiColumn) (p1 : Int) : Option Int :=
 Option.bind (α := Bool)
 (bif (p0.Kind == (1 : Int)) then
 some (p0.Kind == (1 : Int))
 else
 some (p0.Kind == (2 : Int)))
 fun y6 =>
 bif y6 then
 some (9 : Int)
 else
 bif (p0.Kind == (3 : Int)) then
 some (2 : Int)
 else
 some (w64 ((3 : Int) + (w64 (p1 * p0.Max))))
theorem ref17_wide_ok (p0 : ApiColumn) (p1 : Int) (r : Int) (h0 : ref17_wide p0 p1 = some r) : CallAt Tryz.prog 77 [.d (eApiColumn p0), .d (eI p1)] [] (.d (eI r)) [] := by
 unfold ref17_wide at h0
 refine fn0 [0, 1] Tryz.func77 rfl rfl rfl rfl rfl ?_
 refine sr (s1 (bxo (k := 0) rfl rfl rfl) (sa rfl (sn (sq (sr (s1 (far (k := 1) rfl fo45_1 ts3 rfl) (s1 (lod rfl (ld_box ts3 ta3 rfl rfl)) (sn (SC.blk ?_)))))))))
 refine SC.seqP h0 (fun y => ⟨mk 17 [(1, .d (eI p1)), (2, .ref 0 0 0), (6, .d (eI p0.Kind)), (7, .d (eB y))], [.box (.d (eApiColumn p0))]⟩) ?_ ?_
 ·intro u1_7 h1
  refine sr (s1 (bi rfl rfl q_i64_eql) (sa rfl (sn (cB h1 rfl (fun h1 => ?_) (fun h1 => ?_)))))
  ·have q := si h1; subst q
   exact SC.skip ((wq rfl))
  ·have q := si h1; subst q
   exact SC.region (s1 (bi rfl rfl q_i64_eql) (sa rfl (SO.nil ((wq rfl)))))
 ·rintro y6 h0
  refine cB h0 rfl (fun h0 => ?_) (fun h0 => ?_)
  ·have q := si h0; subst q
   exact sr (sa rfl (sn (SC.ret (finR (wc (e' := [(4, .d (eI (9 : Int)))]) [] [] (by kernel_rfl) rfl (by kernel_rfl)) (lresT rfl lresN) rfl))))
  ·refine sr (s1 (bi rfl rfl q_i64_eql) (sa rfl (sn (cB h0 rfl (fun h0 => ?_) (fun h0 => ?_)))))
   ·have q := si h0; subst q
    exact sr (sa rfl (sn (SC.ret (finR (wc (e' := [(4, .d (eI (2 : Int)))]) [] [] (by kernel_rfl) rfl (by kernel_rfl)) (lresT rfl lresN) rfl))))
   ·refine SC.skip ?_
    change SC _ _ _ _ _
    have q := si h0; subst q
    exact sr (sm rfl (s1 (far (k := 2) rfl fo45_2 ts3 rfl) (s1 (lod rfl (ld_box ts3 ta3 rfl rfl)) (s1 (bi rfl rfl q_i64_mul) (s1 (bi rfl rfl q_i64_add) (sa rfl (sn (SC.ret (finR (wc (e' := [(4, .d (eI (w64 ((3 : Int) + (w64 (p1 * p0.Max))))))]) [] [] (by kernel_rfl) rfl (by kernel_rfl)) (lresT rfl lresN) rfl)))))))))
noncomputable def ref17_RowMax (p0 : List ApiColumn) : Option Int :=
 Option.bind (α := Int)
 (Option.bind (α := Int)
 (loop (Y := Int × Int) (W := Int) (fun (y91, y92) =>
 bif (decide (y92 < (p0.length : Int))) then
 Option.bind (getI p0 y92) fun v100 =>
 Option.bind (ref17_wide v100 (1 : Int)) fun r102 =>
 some (Sum.inl ((w64 (y91 + r102)), (w64 (y92 + (1 : Int)))))
 else
 some (Sum.inr y91)) ((1 : Int), (0 : Int)))
 (fun e => some e))
 fun y86 =>
 some y86
theorem ref17_RowMax_ok (p0 : List ApiColumn) (r : Int) (h0 : ref17_RowMax p0 = some r) : CallAt Tryz.prog 45 [.d ((eL 7 eApiColumn) p0)] [] (.d (eI r)) [] := by
 unfold ref17_RowMax at h0
 refine fn0 [0] Tryz.func45 rfl rfl rfl rfl rfl ?_
 refine sr (sa rfl (sn (sr (sa rfl (sn (SC.seqP h0 (fun y => ⟨mk 19 [(3, .d (eI y))], []⟩) ?_ ?_))))))
 ·intro u1_87 h1
  obtain ⟨u2_99, h2, h1⟩ := ob h1
  refine sr (sa rfl (sn (SC.blk (SC.loopB h2 (fun y => ⟨mk 19 [(0, .d ((eL 7 eApiColumn) p0)), (3, .d (eI y.1)), (4, .d (eI y.2))], []⟩) (wq rfl) ?_))))
  intro n103
  rintro ⟨y91, y92⟩ w2_98 h3 hv3
  refine sq (sr (sm rfl (sm rfl (s1 (len rfl rfl rfl (len_lst un22)) (s1 (bi rfl rfl q_i64_lss) (sn (cB h3 rfl (fun h3 => ?_) (fun h3 => ?_))))))))
  ·obtain ⟨v100, hv100, h3⟩ := ob h3; obtain ⟨r102, hq101, h3⟩ := ob h3
   refine sk (sq (SC.blk (SC.region (sm rfl (sm rfl (sm rfl (s1 (ial rfl rfl un22 ts45 (getI_some hv100).1 (map_get (getI_some hv100).2) rfl) (s1 (lod (v := .d (eApiColumn v100)) rfl (ld_rop ts45 ta45 rfl)) (c0 (ref17_wide_ok v100 (1 : Int) _ hq101) wf rfl rfl rfl cb77 rfl (fun _ => rfl) (fun _ => rfl) ?_)))))))))
   refine s1 (bi rfl rfl q_i64_add) (sa rfl (SO.nil ?_))
   change SC _ _ _ _ _
   have q := si h3; subst q
   exact SC.region (sm rfl (s1 (bi rfl rfl q_i64_add) (sa rfl (SO.nil (lf (wq rfl))))))
  ·have q := si h3; subst q; have q : _ = _ := hv3; subst q; have q := si h1; subst q
   exact SC.exit ((wq rfl))
 ·rintro y86 h0
  have q := si h0; subst q
  exact sr (sm rfl (sa rfl (sn (SC.ret (finR (Wk.refl _) (lresT rfl lresN) rfl)))))
noncomputable def ref17_Up (p0 : List Int) : Option ((List ApiPart)) :=
 Option.bind (α := (List ApiPart))
 (Option.bind (α := (List ApiPart))
 (loop (Y := (List ApiPart) × Int) (W := (List ApiPart)) (fun (y75, y76) =>
 bif (decide (y76 < (p0.length : Int))) then
 Option.bind (getI p0 y76) fun v83 =>
 bif decide ((y75.length + [(ApiPart.mk v83 false)].length) * 16 ≤ room) then
 some (Sum.inl ((y75 ++ [(ApiPart.mk v83 false)]), (w64 (y76 + (1 : Int)))))
 else none
 else
 some (Sum.inr y75)) (([] : List ApiPart), (0 : Int)))
 (fun e => some e))
 fun y71 =>
 some y71
theorem ref17_Up_ok (p0 : List Int) (r : (List ApiPart)) (h0 : ref17_Up p0 = some r) : CallAt Tryz.prog 47 [.d ((eL 1 eI) p0)] [] (.d ((eL 2 eApiPart) r)) [] := by
 unfold ref17_Up at h0
 refine fn0 [0] Tryz.func47 rfl rfl rfl rfl rfl ?_
 refine sr (s1 (asg (v := .d .nils) rfl) (sn (sr (s1 (asg (v := .d .nils) rfl) (sn (SC.seqP h0 (fun y => ⟨mk 20 [(3, .slc 0 2 0 y.length none)], [.row 2 (List.map eApiPart y) true]⟩) ?_ ?_))))))
 ·intro u1_72 h1
  obtain ⟨u2_82, h2, h1⟩ := ob h1
  refine sr (sa rfl (sn (SC.blk (SC.loopB h2 (fun y => ⟨mk 20 [(0, .d ((eL 1 eI) p0)), (3, .slc 0 2 0 y.1.length none), (4, .d (eI y.2))], [.row 2 (List.map eApiPart y.1) true]⟩) (Wk.trans (Wk.pushE (σ' := [.row 2 (List.map eApiPart ([] : List ApiPart)) true]) (.row 2 [] true) (fun _ hh => by cases hh) rfl) (Wk.trans (Wk.env (e' := [(0, .d ((eL 1 eI) p0)), (3, .slc 0 2 0 (([] : List ApiPart).length) none), (4, .d (eI (0 : Int)))]) (EW.cons (AW.refl _) (EW.cons (AW.slcn _ _ _) (EW.cons (AW.refl _) EW.nil)))) (wq rfl))) ?_))))
  intro n85
  rintro ⟨y75, y76⟩ w2_81 h3 hv3
  refine sq (sr (sm rfl (sm rfl (s1 (len rfl rfl rfl (len_lst un23)) (s1 (bi rfl rfl q_i64_lss) (sn (cB h3 rfl (fun h3 => ?_) (fun h3 => ?_))))))))
  ·obtain ⟨v83, hv83, h3⟩ := ob h3; obtain ⟨hg84, h3⟩ := gd h3
   refine sk (sq (SC.blk (SC.region (sm rfl (sm rfl (sm rfl (s1 (ial rfl rfl un23 ts3 (getI_some hv83).1 (map_get (getI_some hv83).2) rfl) (s1 (lod rfl (ld_rop ts3 ta3 rfl)) (s1 (bld rfl (bd78_0 v83)) ?_)))))))))
   refine s1 (bsn (k := 1) (ds := List.map eApiPart [(ApiPart.mk v83 false)]) (off := 0) (l' := [(ApiPart.mk v83 false)].length) rfl un54 ei78 rfl rfl (by rfl) rfl rfl rfl) (s1 (app rfl rfl rfl rfl bc54 (aF (f := eApiPart) (xs := y75) (k := 2) rfl un54 ei78 rfl (el_full (xs := [(ApiPart.mk v83 false)]) rfl) hg84 rfl)) (sa rfl (SO.nil ?_)))
   change SC _ _ _ _ _
   have q := si h3; subst q
   exact SC.region (sm rfl (s1 (bi rfl rfl q_i64_add) (sa rfl (SO.nil (lf (wc [2] [2] (by kernel_rfl) rfl (by kernel_rfl)))))))
  ·have q := si h3; subst q; have q : _ = _ := hv3; subst q; have q := si h1; subst q
   exact SC.exit ((wq rfl))
 ·rintro y71 h0
  have q := si h0; subst q
  exact sr (sm rfl (sa rfl (sn (SC.ret (finR (Wk.trans (Wk.frz (i := 2) (x := .slc 0 2 0 y71.length none) rfl rfl (fF rfl rfl rfl)) (wc (e' := [(2, .d ((eL 2 eApiPart) y71))]) [] [] (by kernel_rfl) rfl (by kernel_rfl))) (lresT rfl lresN) rfl)))))
noncomputable def ref17_KeyMax (p0 : List ApiColumn) (p1 : List ApiPart) : Option Int :=
 Option.bind (α := Int)
 (Option.bind (α := Int)
 (loop (Y := Int × Int) (W := Int) (fun (y107, y108) =>
 bif (decide (y108 < (p1.length : Int))) then
 Option.bind (getI p1 y108) fun v117 =>
 Option.bind (getI p0 v117.Col) fun v118 =>
 Option.bind (ref17_wide v118 (2 : Int)) fun r120 =>
 some (Sum.inl ((w64 (y107 + r120)), (w64 (y108 + (1 : Int)))))
 else
 some (Sum.inr y107)) ((0 : Int), (0 : Int)))
 (fun e => some e))
 fun y101 =>
 some y101
theorem ref17_KeyMax_ok (p0 : List ApiColumn) (p1 : List ApiPart) (r : Int) (h0 : ref17_KeyMax p0 p1 = some r) : CallAt Tryz.prog 46 [.d ((eL 7 eApiColumn) p0), .d ((eL 2 eApiPart) p1)] [] (.d (eI r)) [] := by
 unfold ref17_KeyMax at h0
 refine fn0 [0, 1] Tryz.func46 rfl rfl rfl rfl rfl ?_
 refine sr (sa rfl (sn (sr (sa rfl (sn (SC.seqP h0 (fun y => ⟨mk 25 [(5, .d (eI y))], []⟩) ?_ ?_))))))
 ·intro u1_102 h1
  obtain ⟨u2_116, h2, h1⟩ := ob h1
  refine sr (sa rfl (sn (SC.blk (SC.loopB h2 (fun y => ⟨mk 25 [(0, .d ((eL 7 eApiColumn) p0)), (1, .d ((eL 2 eApiPart) p1)), (5, .d (eI y.1)), (6, .d (eI y.2))], []⟩) (wq rfl) ?_))))
  intro n121
  rintro ⟨y107, y108⟩ w2_115 h3 hv3
  refine sq (sr (sm rfl (sm rfl (s1 (len rfl rfl rfl (len_lst un54)) (s1 (bi rfl rfl q_i64_lss) (sn (cB h3 rfl (fun h3 => ?_) (fun h3 => ?_))))))))
  ·obtain ⟨v117, hv117, h3⟩ := ob h3; obtain ⟨v118, hv118, h3⟩ := ob h3; obtain ⟨r120, hq119, h3⟩ := ob h3
   refine sk (sq (SC.blk (SC.region (sm rfl (sm rfl (sm rfl (sm rfl (s1 (ial rfl rfl un54 ts78 (getI_some hv117).1 (map_get (getI_some hv117).2) rfl) (s1 (fap rfl fo78_0 ts3 rfl) ?_)))))))))
   refine s1 (lod rfl (ld_rop ts3 ta3 rfl)) (s1 (ial rfl rfl un22 ts45 (getI_some hv118).1 (map_get (getI_some hv118).2) rfl) (s1 (lod (v := .d (eApiColumn v118)) rfl (ld_rop ts45 ta45 rfl)) (c0 (ref17_wide_ok v118 (2 : Int) _ hq119) wf rfl rfl rfl cb77 rfl (fun _ => rfl) (fun _ => rfl) (s1 (bi rfl rfl q_i64_add) (sa rfl (SO.nil ?_))))))
   change SC _ _ _ _ _
   have q := si h3; subst q
   exact SC.region (sm rfl (s1 (bi rfl rfl q_i64_add) (sa rfl (SO.nil (lf (wq rfl))))))
  ·have q := si h3; subst q; have q : _ = _ := hv3; subst q; have q := si h1; subst q
   exact SC.exit ((wq rfl))
 ·rintro y101 h0
  have q := si h0; subst q
  exact sr (sm rfl (sa rfl (sn (SC.ret (finR (Wk.refl _) (lresT rfl lresN) rfl)))))
noncomputable def ref17_Cols (p0 : List ApiPart) : Option ((List Int)) :=
 Option.bind (α := (List Int))
 (Option.bind (α := (List Int))
 (loop (Y := (List Int) × Int) (W := (List Int)) (fun (y75, y76) =>
 bif (decide (y76 < (p0.length : Int))) then
 Option.bind (getI p0 y76) fun v83 =>
 bif decide ((y75.length + [v83.Col].length) * 8 ≤ room) then
 some (Sum.inl ((y75 ++ [v83.Col]), (w64 (y76 + (1 : Int)))))
 else none
 else
 some (Sum.inr y75)) (([] : List Int), (0 : Int)))
 (fun e => some e))
 fun y71 =>
 some y71
theorem ref17_Cols_ok (p0 : List ApiPart) (r : (List Int)) (h0 : ref17_Cols p0 = some r) : CallAt Tryz.prog 78 [.d ((eL 2 eApiPart) p0)] [] (.d ((eL 1 eI) r)) [] := by
 unfold ref17_Cols at h0
 refine fn0 [0] Tryz.func78 rfl rfl rfl rfl rfl ?_
 refine sr (s1 (asg (v := .d .nils) rfl) (sn (sr (s1 (asg (v := .d .nils) rfl) (sn (SC.seqP h0 (fun y => ⟨mk 20 [(3, .slc 0 1 0 y.length none)], [.row 1 (List.map eI y) true]⟩) ?_ ?_))))))
 ·intro u1_72 h1
  obtain ⟨u2_82, h2, h1⟩ := ob h1
  refine sr (sa rfl (sn (SC.blk (SC.loopB h2 (fun y => ⟨mk 20 [(0, .d ((eL 2 eApiPart) p0)), (3, .slc 0 1 0 y.1.length none), (4, .d (eI y.2))], [.row 1 (List.map eI y.1) true]⟩) (Wk.trans (Wk.pushE (σ' := [.row 1 (List.map eI ([] : List Int)) true]) (.row 1 [] true) (fun _ hh => by cases hh) rfl) (Wk.trans (Wk.env (e' := [(0, .d ((eL 2 eApiPart) p0)), (3, .slc 0 1 0 (([] : List Int).length) none), (4, .d (eI (0 : Int)))]) (EW.cons (AW.refl _) (EW.cons (AW.slcn _ _ _) (EW.cons (AW.refl _) EW.nil)))) (wq rfl))) ?_))))
  intro n85
  rintro ⟨y75, y76⟩ w2_81 h3 hv3
  refine sq (sr (sm rfl (sm rfl (s1 (len rfl rfl rfl (len_lst un54)) (s1 (bi rfl rfl q_i64_lss) (sn (cB h3 rfl (fun h3 => ?_) (fun h3 => ?_))))))))
  ·obtain ⟨v83, hv83, h3⟩ := ob h3; obtain ⟨hg84, h3⟩ := gd h3
   refine sk (sq (SC.blk (SC.region (sm rfl (sm rfl (sm rfl (s1 (ial rfl rfl un54 ts78 (getI_some hv83).1 (map_get (getI_some hv83).2) rfl) (s1 (fap rfl fo78_0 ts3 rfl) (s1 (lod rfl (ld_rop ts3 ta3 rfl)) ?_)))))))))
   refine s1 (bsn (k := 1) (ds := List.map eI [v83.Col]) (off := 0) (l' := [v83.Col].length) rfl un23 ei3 rfl rfl (by rfl) rfl rfl rfl) (s1 (app rfl rfl rfl rfl bc23 (aF (f := eI) (xs := y75) (k := 2) rfl un23 ei3 rfl (el_full (xs := [v83.Col]) rfl) hg84 rfl)) (sa rfl (SO.nil ?_)))
   change SC _ _ _ _ _
   have q := si h3; subst q
   exact SC.region (sm rfl (s1 (bi rfl rfl q_i64_add) (sa rfl (SO.nil (lf (wc [2] [2] (by kernel_rfl) rfl (by kernel_rfl)))))))
  ·have q := si h3; subst q; have q : _ = _ := hv3; subst q; have q := si h1; subst q
   exact SC.exit ((wq rfl))
 ·rintro y71 h0
  have q := si h0; subst q
  exact sr (sm rfl (sa rfl (sn (SC.ret (finR (Wk.trans (Wk.frz (i := 2) (x := .slc 0 1 0 y71.length none) rfl rfl (fF rfl rfl rfl)) (wc (e' := [(2, .d ((eL 1 eI) y71))]) [] [] (by kernel_rfl) rfl (by kernel_rfl))) (lresT rfl lresN) rfl)))))
noncomputable def ref17_index (p0 : ApiTable) (p1 : ApiIndex) : Option Int :=
 Option.bind (α := Bool)
 (bif (decide ((p1.Parts.length : Int) < (1 : Int))) then
 some true
 else
 bif (decide ((p1.Parts.length : Int) > (4 : Int))) then
 some true
 else
 Option.bind (ref17_Cols p1.Parts) fun r281 =>
 Option.bind (ref17_places (p0.Cols.length : Int) r281) fun r283 =>
 bif (!r283) then
 some true
 else
 Option.bind (ref17_places (p0.Cols.length : Int) p1.Extra) fun r285 =>
 some (!r285))
 fun y278 =>
 bif y278 then
 some (1 : Int)
 else
 bindE (Y := Unit) (E := Int)
 (Option.bind (α := Unit ⊕ Int)
 (loop (Y := Int) (W := Unit ⊕ Int) (fun y364 =>
 bif (decide (y364 < (p1.Extra.length : Int))) then
 Option.bind (α := Bool)
 (Option.bind (ref17_Cols p1.Parts) fun r397 =>
 Option.bind (getI p1.Extra y364) fun v398 =>
 Option.bind (ref17_Has r397 v398) fun r400 =>
 bif r400 then
 some true
 else
 Option.bind (getI p1.Extra y364) fun v401 =>
 Option.bind (ref17_Has p0.Primary v401) fun r403 =>
 some r403)
 fun y394 =>
 bif y394 then
 some (Sum.inr (Sum.inr (1 : Int)))
 else
 some (Sum.inl (w64 (y364 + (1 : Int))))
 else
 some (Sum.inr (Sum.inl ()))) (0 : Int))
 (Sum.elim (fun e => some (Sum.inl e)) (fun e => some (Sum.inr e))))
 (fun _ =>
 Option.bind (ref17_KeyMax p0.Cols p1.Parts) fun r406 =>
 bif (decide (r406 > (128 : Int))) then
 some (7 : Int)
 else
 some (0 : Int))
 (fun e => some e)
theorem ref17_index_ok (p0 : ApiTable) (p1 : ApiIndex) (r : Int) (h0 : ref17_index p0 p1 = some r) : CallAt Tryz.prog 48 [.d (eApiTable p0), .d (eApiIndex p1)] [] (.d (eI r)) [] := by
 unfold ref17_index at h0
 refine fn0 [0, 1] Tryz.func48 rfl rfl rfl rfl rfl ?_
 refine sr (s1 (bxo (k := 0) rfl rfl rfl) (s1 (bxo (k := 1) rfl rfl rfl) (sa rfl (sn (sr (s1 (far (k := 1) rfl fo26_1 ts22 rfl) (s1 (lod rfl (ld_box ts22 ta22 rfl rfl)) (s1 (len rfl rfl rfl (len_lst un22)) (sa rfl ?_)))))))))
 refine sn (sq (SC.seqP h0 (fun y => ⟨mk 67 [(2, .ref 0 0 0), (3, .ref 1 0 0), (34, .d (eB y))], [.box (.d (eApiTable p0)), .box (.d (eApiIndex p1))]⟩) ?_ ?_))
 ·intro u1_279 h1
  refine SC.region (s1 (far (k := 1) rfl fo56_1 ts54 rfl) (s1 (lod rfl (ld_box ts54 ta54 rfl rfl)) (s1 (len rfl rfl rfl (len_lst un54)) (s1 (bi rfl rfl q_i64_lss) (sm rfl (sp h1 (fun h1 => ?_) (fun h1 => ?_)))))))
  ·have q := si h1; subst q
   refine kw rfl (kw rfl (kw rfl (kw rfl (s1 (pkt rfl rfl) (sm rfl (kw rfl (kw rfl (kw rfl (kw rfl ?_)))))))))
   refine kw rfl (kw rfl (s1 (pkt rfl rfl) (sm rfl (kw rfl (kw rfl (kw rfl (kw rfl (kw rfl (s1 (pkt rfl rfl) ?_)))))))))
   exact SO.nil ((wq rfl))
  ·refine gw rfl (far (k := 1) rfl fo56_1 ts54 rfl) (gw rfl (lod rfl (ld_box ts54 ta54 rfl rfl)) (gw rfl (len rfl rfl rfl (len_lst un54)) (gw rfl (bi rfl rfl q_i64_gtr) (s1 (pkf rfl rfl) (sm rfl (sp h1 (fun h1 => ?_) (fun h1 => ?_)))))))
   ·have q := si h1; subst q
    refine kw rfl (kw rfl (kw rfl (kw rfl (kw rfl (kw rfl (s1 (pkt rfl rfl) (sm rfl (kw rfl (kw rfl ?_)))))))))
    exact kw rfl (kw rfl (kw rfl (s1 (pkt rfl rfl) (SO.nil ((wq rfl))))))
   ·obtain ⟨r281, hq280, h1⟩ := ob h1; obtain ⟨r283, hq282, h1⟩ := ob h1
    refine gw rfl (mv rfl) (gw rfl (far (k := 1) rfl fo56_1 ts54 rfl) (gw rfl (lod rfl (ld_box ts54 ta54 rfl rfl)) (c0 (ref17_Cols_ok p1.Parts _ hq280) (ww rfl) rfl rfl rfl cb78 rfl (fun _ => rfl) (fun _ => rfl) (c0 (ref17_places_ok (p0.Cols.length : Int) r281 _ hq282) (ww rfl) rfl rfl rfl cb44 rfl (fun _ => rfl) (fun _ => rfl) (gw rfl (nt rfl) (s1 (pkf rfl rfl) (sm rfl (sp h1 (fun h1 => ?_) (fun h1 => ?_)))))))))
    ·have q := si h1; subst q
     exact kw rfl (kw rfl (kw rfl (kw rfl (kw rfl (s1 (pkt rfl rfl) (SO.nil ((wq rfl))))))))
    ·obtain ⟨r285, hq284, h1⟩ := ob h1; have q := si h1; subst q
     exact gw rfl (mv rfl) (gw rfl (far (k := 2) rfl fo56_2 ts23 rfl) (gw rfl (lod rfl (ld_box ts23 ta23 rfl rfl)) (c0 (ref17_places_ok (p0.Cols.length : Int) p1.Extra _ hq284) (ww rfl) rfl rfl rfl cb44 rfl (fun _ => rfl) (fun _ => rfl) (gw rfl (nt rfl) (s1 (pkf rfl rfl) (SO.nil ((wq rfl))))))))
 ·rintro y278 h0
  refine cB h0 rfl (fun h0 => ?_) (fun h0 => ?_)
  ·have q := si h0; subst q
   exact sr (sa rfl (sn (SC.ret (finR (wc (e' := [(4, .d (eI (1 : Int)))]) [] [] (by kernel_rfl) rfl (by kernel_rfl)) (lresT rfl lresN) rfl))))
  ·refine sk (SC.seqB h0 (fun y => ⟨mk 67 [(2, .ref 0 0 0), (3, .ref 1 0 0)], [.box (.d (eApiTable p0)), .box (.d (eApiIndex p1))]⟩) ?_ ?_)
   ·intro u1_345 h1 h0
    obtain ⟨u2_385, h2, h1⟩ := ob h1
    refine sr (sa rfl (sn (SC.blk (SC.loopB h2 (fun y => ⟨mk 67 [(2, .ref 0 0 0), (3, .ref 1 0 0), (6, .d (eI y))], [.box (.d (eApiTable p0)), .box (.d (eApiIndex p1))]⟩) (wq rfl) ?_))))
    intro n404
    rintro y364 w2_384 h3 hv3
    refine sq (sr (sm rfl (s1 (far (k := 2) rfl fo56_2 ts23 rfl) (s1 (lod rfl (ld_box ts23 ta23 rfl rfl)) (s1 (len rfl rfl rfl (len_lst un23)) (s1 (bi rfl rfl q_i64_lss) (sn (cB h3 rfl (fun h3 => ?_) (fun h3 => ?_)))))))))
    ·refine sk (sq (SC.blk (SC.seqP h3 (fun y => ⟨mk 67 [(2, .ref 0 0 0), (3, .ref 1 0 0), (6, .d (eI y364)), (60, .d (eB y))], [.box (.d (eApiTable p0)), .box (.d (eApiIndex p1))]⟩) ?_ ?_)))
     ·intro u4_395 h4
      obtain ⟨r397, hq396, h4⟩ := ob h4; obtain ⟨v398, hv398, h4⟩ := ob h4; obtain ⟨r400, hq399, h4⟩ := ob h4
      refine SC.draws (by kernel_rfl) (t1 ([], false) (far (k := 1) rfl fo56_1 ts54 rfl) rfl (t1 ([1], false) (lod rfl (ld_box ts54 ta54 rfl rfl)) rfl (tc0 (ref17_Cols_ok p1.Parts _ hq396) wf rfl rfl rfl cb78 rfl (fun _ => rfl) (fun _ => rfl) (t1 ([], false) (far (k := 2) rfl fo56_2 ts23 rfl) rfl (t1 ([1], false) (lod rfl (ld_box ts23 ta23 rfl rfl)) rfl (t1 ([], false) (mv rfl) rfl (t1 ([], false) (ial rfl rfl un23 ts3 (getI_some hv398).1 (map_get (getI_some hv398).2) rfl) rfl (t1 ([], false) (lod rfl (ld_rop ts3 ta3 rfl)) rfl (tc0 (ref17_Has_ok r397 v398 _ hq399) wf rfl rfl rfl cb76 rfl (fun _ => rfl) (fun _ => rfl) ?_)))))))))
      refine t1 ([], false) (mv rfl) rfl (tp h4 (fun h4 => ?_) (fun h4 => ?_))
      ·have q := si h4; subst q
       refine jw rfl (jw rfl (jw rfl (jw rfl (jw rfl (jw rfl (jw rfl (jw rfl (t1 ([], false) (pkt rfl rfl) rfl (ST.nil (And.intro (by decide +kernel) ?_))))))))))
       exact (wq rfl)
      ·obtain ⟨v401, hv401, h4⟩ := ob h4; obtain ⟨r403, hq402, h4⟩ := ob h4; have q := si h4; subst q
       refine u1 ([], false) (ww rfl) (far (k := 2) rfl fo26_2 ts23 rfl) rfl (u1 ([0], false) (ww rfl) (lod rfl (ld_box ts23 ta23 rfl rfl)) rfl (u1 ([], false) (ww rfl) (far (k := 2) rfl fo56_2 ts23 rfl) rfl (u1 ([1], false) (ww rfl) (lod rfl (ld_box ts23 ta23 rfl rfl)) rfl (u1 ([], false) (ww rfl) (mv rfl) rfl (u1 ([], false) (ww rfl) (ial rfl rfl un23 ts3 (getI_some hv401).1 (map_get (getI_some hv401).2) rfl) rfl (u1 ([], false) (ww rfl) (lod rfl (ld_rop ts3 ta3 rfl)) rfl (tc0 (ref17_Has_ok p0.Primary v401 _ hq402) (ww rfl) rfl rfl rfl cb76 rfl (fun _ => rfl) (fun _ => rfl) (t1 ([], false) (pkf rfl rfl) rfl (ST.nil (And.intro (by decide +kernel) ?_))))))))))
       exact (wq rfl)
     ·rintro y394 h3
      refine cB h3 rfl (fun h3 => ?_) (fun h3 => ?_)
      ·have q := si h3; subst q; have q : _ = _ := hv3; subst q; have q := si h1; subst q; have q := si h0; subst q
       exact sr (sa rfl (sn (SC.ret (finR (wc (e' := [(4, .d (eI (1 : Int)))]) [] [] (by kernel_rfl) rfl (by kernel_rfl)) (lresT rfl lresN) rfl))))
      ·refine SC.skip ?_
       change SC _ _ _ _ _
       have q := si h3; subst q
       exact SC.region (sm rfl (s1 (bi rfl rfl q_i64_add) (sa rfl (SO.nil (lf (wq rfl))))))
    ·have q := si h3; subst q; have q : _ = _ := hv3; subst q; have q := si h1; subst q
     exact SC.exit (lf (wq rfl))
   ·intro _ h0
    obtain ⟨r406, hq405, h0⟩ := ob h0
    refine sq (sr (s1 (far (k := 1) rfl fo26_1 ts22 rfl) (s1 (lod rfl (ld_box ts22 ta22 rfl rfl)) (s1 (far (k := 1) rfl fo56_1 ts54 rfl) (s1 (lod rfl (ld_box ts54 ta54 rfl rfl)) (c0 (ref17_KeyMax_ok p0.Cols p1.Parts _ hq405) wf rfl rfl rfl cb46 rfl (fun _ => rfl) (fun _ => rfl) (s1 (bi rfl rfl q_i64_gtr) (sn (cB h0 rfl (fun h0 => ?_) (fun h0 => ?_))))))))))
    ·have q := si h0; subst q
     exact sr (sa rfl (sn (SC.ret (finR (wc (e' := [(4, .d (eI (7 : Int)))]) [] [] (by kernel_rfl) rfl (by kernel_rfl)) (lresT rfl lresN) rfl))))
    ·have q := si h0; subst q
     exact sk (sr (sa rfl (sn (SC.ret (finR (wc (e' := [(4, .d (eI (0 : Int)))]) [] [] (by kernel_rfl) rfl (by kernel_rfl)) (lresT rfl lresN) rfl)))))
noncomputable def ref17_Check (p0 : ApiTable) : Option Int :=
 Option.bind (ref06_Name p0.Name) fun r885 =>
 bif (!r885) then
 some (1 : Int)
 else
 Option.bind (α := Bool)
 (bif (decide ((p0.Cols.length : Int) < (1 : Int))) then
 some true
 else
 some (decide ((p0.Cols.length : Int) > (24 : Int))))
 fun y886 =>
 bif y886 then
 some (7 : Int)
 else
 bindE (Y := Unit) (E := Int)
 (Option.bind (α := Unit ⊕ Int)
 (loop (Y := Int) (W := Unit ⊕ Int) (fun y978 =>
 bif (decide (y978 < (p0.Cols.length : Int))) then
 bindE (Y := Unit) (E := Int)
 (Option.bind (getI p0.Cols y978) fun v1026 =>
 Option.bind (ref06_Column v1026) fun r1028 =>
 bif (r1028 != (0 : Int)) then
 some (Sum.inr r1028)
 else
 Option.bind (α := Unit ⊕ Int)
 (loop (Y := Int) (W := Unit ⊕ Int) (fun y1031 =>
 bif (decide (y1031 < y978)) then
 Option.bind (getI p0.Cols y1031) fun v1037 =>
 Option.bind (getI p0.Cols y978) fun v1038 =>
 bif (v1037.Name == v1038.Name) then
 some (Sum.inr (Sum.inr (6 : Int)))
 else
 some (Sum.inl (w64 (y1031 + (1 : Int))))
 else
 some (Sum.inr (Sum.inl ()))) (0 : Int))
 (Sum.elim (fun e => some (Sum.inl e)) (fun e => some (Sum.inr e))))
 (fun _ =>
 some (Sum.inl (w64 (y978 + (1 : Int)))))
 (fun e => some (Sum.inr (Sum.inr e)))
 else
 some (Sum.inr (Sum.inl ()))) (0 : Int))
 (Sum.elim (fun e => some (Sum.inl e)) (fun e => some (Sum.inr e))))
 (fun _ =>
 Option.bind (α := Bool)
 (bif (decide ((p0.Primary.length : Int) < (1 : Int))) then
 some true
 else
 bif (decide ((p0.Primary.length : Int) > (4 : Int))) then
 some true
 else
 Option.bind (ref17_places (p0.Cols.length : Int) p0.Primary) fun r1046 =>
 some (!r1046))
 fun y1043 =>
 bif y1043 then
 some (1 : Int)
 else
 bindE (Y := Unit) (E := Int)
 (Option.bind (α := Unit ⊕ Int)
 (loop (Y := Int) (W := Unit ⊕ Int) (fun y1061 =>
 bif (decide (y1061 < (p0.Primary.length : Int))) then
 Option.bind (getI p0.Primary y1061) fun v1067 =>
 Option.bind (getI p0.Cols v1067) fun v1068 =>
 bif v1068.Nulls then
 some (Sum.inr (Sum.inr (1 : Int)))
 else
 some (Sum.inl (w64 (y1061 + (1 : Int))))
 else
 some (Sum.inr (Sum.inl ()))) (0 : Int))
 (Sum.elim (fun e => some (Sum.inl e)) (fun e => some (Sum.inr e))))
 (fun _ =>
 Option.bind (α := Bool)
 (Option.bind (ref17_RowMax p0.Cols) fun r1079 =>
 bif (decide (r1079 > (512 : Int))) then
 some true
 else
 Option.bind (ref17_Up p0.Primary) fun r1081 =>
 Option.bind (ref17_KeyMax p0.Cols r1081) fun r1083 =>
 bif (decide (r1083 > (128 : Int))) then
 some true
 else
 some (decide ((p0.Indexes.length : Int) > (6 : Int))))
 fun y1076 =>
 bif y1076 then
 some (7 : Int)
 else
 bindE (Y := Unit) (E := Int)
 (Option.bind (α := Unit ⊕ Int)
 (loop (Y := Int) (W := Unit ⊕ Int) (fun y1230 =>
 bif (decide (y1230 < (p0.Indexes.length : Int))) then
 bindE (Y := Unit) (E := Int)
 (Option.bind (getI p0.Indexes y1230) fun v1302 =>
 Option.bind (ref06_Name v1302.Name) fun r1304 =>
 bif (!r1304) then
 some (Sum.inr (1 : Int))
 else
 bindE (Y := Unit) (E := Int)
 (Option.bind (α := Unit ⊕ Int)
 (loop (Y := Int) (W := Unit ⊕ Int) (fun y1315 =>
 bif (decide (y1315 < y1230)) then
 Option.bind (getI p0.Indexes y1315) fun v1320 =>
 bif (v1320.Name == v1302.Name) then
 some (Sum.inr (Sum.inr (6 : Int)))
 else
 some (Sum.inl (w64 (y1315 + (1 : Int))))
 else
 some (Sum.inr (Sum.inl ()))) (0 : Int))
 (Sum.elim (fun e => some (Sum.inl e)) (fun e => some (Sum.inr e))))
 (fun _ =>
 Option.bind (ref17_index p0 v1302) fun r1323 =>
 bif (r1323 != (0 : Int)) then
 some (Sum.inr r1323)
 else
 some (Sum.inl ()))
 (fun e => some (Sum.inr e)))
 (fun _ =>
 some (Sum.inl (w64 (y1230 + (1 : Int)))))
 (fun e => some (Sum.inr (Sum.inr e)))
 else
 some (Sum.inr (Sum.inl ()))) (0 : Int))
 (Sum.elim (fun e => some (Sum.inl e)) (fun e => some (Sum.inr e))))
 (fun _ =>
 some (0 : Int))
 (fun e => some e))
 (fun e => some e))
 (fun e => some e)
theorem ref17_Check_ok (p0 : ApiTable) (r : Int) (h0 : ref17_Check p0 = some r) : CallAt Tryz.prog 23 [.d (eApiTable p0)] [] (.d (eI r)) [] := by
 unfold ref17_Check at h0
 refine fn0 [0] Tryz.func23 rfl rfl rfl rfl rfl ?_
 obtain ⟨r885, hq884, h0⟩ := ob h0
 refine sr (s1 (bxo (k := 0) rfl rfl rfl) (sa rfl (sn (sq (sr (s1 (far (k := 0) rfl fo26_0 ts9 rfl) (s1 (lod rfl (ld_box ts9 ta9 rfl rfl)) (c0 (ref06_Name_ok p0.Name _ hq884) wf rfl rfl rfl cb42 rfl (fun _ => rfl) (fun _ => rfl) (s1 (nt rfl) ?_)))))))))
 refine sn (cB h0 rfl (fun h0 => ?_) (fun h0 => ?_))
 ·have q := si h0; subst q
  exact sr (sa rfl (sn (SC.ret (finR (wc (e' := [(2, .d (eI (1 : Int)))]) [] [] (by kernel_rfl) rfl (by kernel_rfl)) (lresT rfl lresN) rfl))))
 ·refine sk (sq (SC.seqP h0 (fun y => ⟨mk 150 [(1, .ref 0 0 0), (24, .d (eB y))], [.box (.d (eApiTable p0))]⟩) ?_ ?_))
  ·intro u1_887 h1
   refine SC.region (s1 (far (k := 1) rfl fo26_1 ts22 rfl) (s1 (lod rfl (ld_box ts22 ta22 rfl rfl)) (s1 (len rfl rfl rfl (len_lst un22)) (s1 (bi rfl rfl q_i64_lss) (sm rfl (sp h1 (fun h1 => ?_) (fun h1 => ?_)))))))
   ·have q := si h1; subst q
    exact kw rfl (kw rfl (kw rfl (kw rfl (s1 (pkt rfl rfl) (SO.nil ((wq rfl)))))))
   ·have q := si h1; subst q
    exact gw rfl (far (k := 1) rfl fo26_1 ts22 rfl) (gw rfl (lod rfl (ld_box ts22 ta22 rfl rfl)) (gw rfl (len rfl rfl rfl (len_lst un22)) (gw rfl (bi rfl rfl q_i64_gtr) (s1 (pkf rfl rfl) (SO.nil ((wq rfl)))))))
  ·rintro y886 h0
   refine cB h0 rfl (fun h0 => ?_) (fun h0 => ?_)
   ·have q := si h0; subst q
    exact sr (sa rfl (sn (SC.ret (finR (wc (e' := [(2, .d (eI (7 : Int)))]) [] [] (by kernel_rfl) rfl (by kernel_rfl)) (lresT rfl lresN) rfl))))
   ·refine sk (SC.seqB h0 (fun y => ⟨mk 150 [(1, .ref 0 0 0)], [.box (.d (eApiTable p0))]⟩) ?_ ?_)
    ·intro u1_964 h1 h0
     obtain ⟨u2_1010, h2, h1⟩ := ob h1
     refine sr (sa rfl (sn (SC.blk (SC.loopB h2 (fun y => ⟨mk 150 [(1, .ref 0 0 0), (3, .d (eI y))], [.box (.d (eApiTable p0))]⟩) (wq rfl) ?_))))
     intro n1040
     rintro y978 w2_1009 h3 hv3
     refine sq (sr (sm rfl (s1 (far (k := 1) rfl fo26_1 ts22 rfl) (s1 (lod rfl (ld_box ts22 ta22 rfl rfl)) (s1 (len rfl rfl rfl (len_lst un22)) (s1 (bi rfl rfl q_i64_lss) (sn (cB h3 rfl (fun h3 => ?_) (fun h3 => ?_)))))))))
     ·refine sk (SC.seqB h3 (fun y => ⟨mk 150 [(1, .ref 0 0 0), (3, .d (eI y978))], [.box (.d (eApiTable p0))]⟩) ?_ ?_)
      ·intro u4_1025 h4 h3
       obtain ⟨v1026, hv1026, h4⟩ := ob h4; obtain ⟨r1028, hq1027, h4⟩ := ob h4
       refine SC.blk (sr (s1 (far (k := 1) rfl fo26_1 ts22 rfl) (s1 (lod rfl (ld_box ts22 ta22 rfl rfl)) (sm rfl (s1 (ial rfl rfl un22 ts45 (getI_some hv1026).1 (map_get (getI_some hv1026).2) rfl) (s1 (lod (v := .d (eApiColumn v1026)) rfl (ld_rop ts45 ta45 rfl)) (c0 (ref06_Column_ok v1026 _ hq1027) wf rfl rfl rfl cb43 rfl (fun _ => rfl) (fun _ => rfl) (sa rfl (sn ?_)))))))))
       refine sq (sr (sm rfl (s1 (bi rfl rfl q_i64_neq) (sn (cB h4 rfl (fun h4 => ?_) (fun h4 => ?_))))))
       ·have q := si h4; subst q; have q := si h3; subst q; have q : _ = _ := hv3; subst q; have q := si h1; subst q; have q := si h0; subst q
        exact sr (sm rfl (sa rfl (sn (SC.ret (finR (wc (e' := [(2, .d (eI r1028))]) [] [] (by kernel_rfl) rfl (by kernel_rfl)) (lresT rfl lresN) rfl)))))
       ·obtain ⟨u5_1036, h5, h4⟩ := ob h4
        refine sk (sr (sa rfl (sn (SC.blk (SC.loopB h5 (fun y => ⟨mk 150 [(1, .ref 0 0 0), (3, .d (eI y978)), (5, .d (eI y))], [.box (.d (eApiTable p0))]⟩) (wq rfl) ?_)))))
        intro n1039
        rintro y1031 w5_1035 h6 hv6
        refine sq (sr (sm rfl (sm rfl (s1 (bi rfl rfl q_i64_lss) (sn (cB h6 rfl (fun h6 => ?_) (fun h6 => ?_)))))))
        ·obtain ⟨v1037, hv1037, h6⟩ := ob h6; obtain ⟨v1038, hv1038, h6⟩ := ob h6
         refine sk (sq (SC.blk (sd (by kernel_rfl) (t1 ([], false) (far (k := 1) rfl fo26_1 ts22 rfl) rfl (t1 ([0], false) (lod rfl (ld_box ts22 ta22 rfl rfl)) rfl (t1 ([], false) (mv rfl) rfl (t1 ([], false) (ial rfl rfl un22 ts45 (getI_some hv1037).1 (map_get (getI_some hv1037).2) rfl) rfl (t1 ([], false) (fap rfl fo45_0 ts9 rfl) rfl (t1 ([], false) (lod rfl (ld_rop ts9 ta9 rfl)) rfl ?_)))))))))
         refine t1 ([], false) (far (k := 1) rfl fo26_1 ts22 rfl) rfl (t1 ([0], false) (lod rfl (ld_box ts22 ta22 rfl rfl)) rfl (t1 ([], false) (mv rfl) rfl (t1 ([], false) (ial rfl rfl un22 ts45 (getI_some hv1038).1 (map_get (getI_some hv1038).2) rfl) rfl (t1 ([], false) (fap rfl fo45_0 ts9 rfl) rfl (t1 ([], false) (lod rfl (ld_rop ts9 ta9 rfl)) rfl (t1 ([], false) (bi rfl rfl q_str_eql) rfl (tn (by decide +kernel) (cB h6 rfl (fun h6 => ?_) (fun h6 => ?_)))))))))
         ·have q := si h6; subst q; have q : _ = _ := hv6; subst q; have q := si h4; subst q; have q := si h3; subst q; have q : _ = _ := hv3; subst q; have q := si h1; subst q; have q := si h0; subst q
          exact sr (sa rfl (sn (SC.ret (finR (wc (e' := [(2, .d (eI (6 : Int)))]) [] [] (by kernel_rfl) rfl (by kernel_rfl)) (lresT rfl lresN) rfl))))
         ·refine SC.skip ?_
          change SC _ _ _ _ _
          have q := si h6; subst q
          exact SC.region (sm rfl (s1 (bi rfl rfl q_i64_add) (sa rfl (SO.nil (lf (wq rfl))))))
        ·have q := si h6; subst q; have q : _ = _ := hv6; subst q; have q := si h4; subst q
         exact SC.exit (lf (wq rfl))
      ·intro _ h3
       have q := si h3; subst q
       exact SC.region (sm rfl (s1 (bi rfl rfl q_i64_add) (sa rfl (SO.nil (lf (wq rfl))))))
     ·have q := si h3; subst q; have q : _ = _ := hv3; subst q; have q := si h1; subst q
      exact SC.exit (lf (wq rfl))
    ·intro _ h0
     refine sq (SC.seqP h0 (fun y => ⟨mk 150 [(1, .ref 0 0 0), (77, .d (eB y))], [.box (.d (eApiTable p0))]⟩) ?_ ?_)
     ·intro u1_1044 h1
      refine SC.region (s1 (far (k := 2) rfl fo26_2 ts23 rfl) (s1 (lod rfl (ld_box ts23 ta23 rfl rfl)) (s1 (len rfl rfl rfl (len_lst un23)) (s1 (bi rfl rfl q_i64_lss) (sm rfl (sp h1 (fun h1 => ?_) (fun h1 => ?_)))))))
      ·have q := si h1; subst q
       refine kw rfl (kw rfl (kw rfl (kw rfl (s1 (pkt rfl rfl) (sm rfl (kw rfl (kw rfl (kw rfl (kw rfl ?_)))))))))
       exact kw rfl (kw rfl (kw rfl (s1 (pkt rfl rfl) (SO.nil ((wq rfl))))))
      ·refine gw rfl (far (k := 2) rfl fo26_2 ts23 rfl) (gw rfl (lod rfl (ld_box ts23 ta23 rfl rfl)) (gw rfl (len rfl rfl rfl (len_lst un23)) (gw rfl (bi rfl rfl q_i64_gtr) (s1 (pkf rfl rfl) (sm rfl (sp h1 (fun h1 => ?_) (fun h1 => ?_)))))))
       ·have q := si h1; subst q
        exact kw rfl (kw rfl (kw rfl (kw rfl (kw rfl (kw rfl (kw rfl (s1 (pkt rfl rfl) (SO.nil ((wq rfl))))))))))
       ·obtain ⟨r1046, hq1045, h1⟩ := ob h1; have q := si h1; subst q
        exact gw rfl (far (k := 1) rfl fo26_1 ts22 rfl) (gw rfl (lod rfl (ld_box ts22 ta22 rfl rfl)) (gw rfl (len rfl rfl rfl (len_lst un22)) (gw rfl (far (k := 2) rfl fo26_2 ts23 rfl) (gw rfl (lod rfl (ld_box ts23 ta23 rfl rfl)) (c0 (ref17_places_ok (p0.Cols.length : Int) p0.Primary _ hq1045) (ww rfl) rfl rfl rfl cb44 rfl (fun _ => rfl) (fun _ => rfl) (gw rfl (nt rfl) (s1 (pkf rfl rfl) (SO.nil ((wq rfl))))))))))
     ·rintro y1043 h0
      refine cB h0 rfl (fun h0 => ?_) (fun h0 => ?_)
      ·have q := si h0; subst q
       exact sr (sa rfl (sn (SC.ret (finR (wc (e' := [(2, .d (eI (1 : Int)))]) [] [] (by kernel_rfl) rfl (by kernel_rfl)) (lresT rfl lresN) rfl))))
      ·refine sk (SC.seqB h0 (fun y => ⟨mk 150 [(1, .ref 0 0 0)], [.box (.d (eApiTable p0))]⟩) ?_ ?_)
       ·intro u1_1058 h1 h0
        obtain ⟨u2_1066, h2, h1⟩ := ob h1
        refine sr (sa rfl (sn (SC.blk (SC.loopB h2 (fun y => ⟨mk 150 [(1, .ref 0 0 0), (6, .d (eI y))], [.box (.d (eApiTable p0))]⟩) (wq rfl) ?_))))
        intro n1069
        rintro y1061 w2_1065 h3 hv3
        refine sq (sr (sm rfl (s1 (far (k := 2) rfl fo26_2 ts23 rfl) (s1 (lod rfl (ld_box ts23 ta23 rfl rfl)) (s1 (len rfl rfl rfl (len_lst un23)) (s1 (bi rfl rfl q_i64_lss) (sn (cB h3 rfl (fun h3 => ?_) (fun h3 => ?_)))))))))
        ·obtain ⟨v1067, hv1067, h3⟩ := ob h3; obtain ⟨v1068, hv1068, h3⟩ := ob h3
         refine sk (sq (SC.blk (sd (by kernel_rfl) (t1 ([], false) (far (k := 1) rfl fo26_1 ts22 rfl) rfl (t1 ([0], false) (lod rfl (ld_box ts22 ta22 rfl rfl)) rfl (t1 ([], false) (far (k := 2) rfl fo26_2 ts23 rfl) rfl (t1 ([0], false) (lod rfl (ld_box ts23 ta23 rfl rfl)) rfl (t1 ([], false) (mv rfl) rfl (t1 ([], false) (ial rfl rfl un23 ts3 (getI_some hv1067).1 (map_get (getI_some hv1067).2) rfl) rfl ?_)))))))))
         refine t1 ([], false) (lod rfl (ld_rop ts3 ta3 rfl)) rfl (t1 ([], false) (ial rfl rfl un22 ts45 (getI_some hv1068).1 (map_get (getI_some hv1068).2) rfl) rfl (t1 ([], false) (fap rfl fo45_3 ts4 rfl) rfl (t1 ([], false) (lod rfl (ld_rop ts4 ta4 rfl)) rfl (tn (by decide +kernel) (cB h3 rfl (fun h3 => ?_) (fun h3 => ?_))))))
         ·have q := si h3; subst q; have q : _ = _ := hv3; subst q; have q := si h1; subst q; have q := si h0; subst q
          exact sr (sa rfl (sn (SC.ret (finR (wc (e' := [(2, .d (eI (1 : Int)))]) [] [] (by kernel_rfl) rfl (by kernel_rfl)) (lresT rfl lresN) rfl))))
         ·refine SC.skip ?_
          change SC _ _ _ _ _
          have q := si h3; subst q
          exact SC.region (sm rfl (s1 (bi rfl rfl q_i64_add) (sa rfl (SO.nil (lf (wq rfl))))))
        ·have q := si h3; subst q; have q : _ = _ := hv3; subst q; have q := si h1; subst q
         exact SC.exit (lf (wq rfl))
       ·intro _ h0
        refine sq (SC.seqP h0 (fun y => ⟨mk 150 [(1, .ref 0 0 0), (113, .d (eB y))], [.box (.d (eApiTable p0))]⟩) ?_ ?_)
        ·intro u1_1077 h1
         obtain ⟨r1079, hq1078, h1⟩ := ob h1
         refine SC.draws (by kernel_rfl) (t1 ([], false) (far (k := 1) rfl fo26_1 ts22 rfl) rfl (t1 ([0], false) (lod rfl (ld_box ts22 ta22 rfl rfl)) rfl (tc0 (ref17_RowMax_ok p0.Cols _ hq1078) wf rfl rfl rfl cb45 rfl (fun _ => rfl) (fun _ => rfl) (t1 ([], false) (bi rfl rfl q_i64_gtr) rfl (t1 ([], false) (mv rfl) rfl (tp h1 (fun h1 => ?_) (fun h1 => ?_)))))))
         ·have q := si h1; subst q
          refine jw rfl (jw rfl (jw rfl (jw rfl (jw rfl (jw rfl (jw rfl (t1 ([], false) (pkt rfl rfl) rfl (t1 ([], false) (mv rfl) rfl (jw rfl ?_)))))))))
          refine jw rfl (jw rfl (jw rfl (t1 ([], false) (pkt rfl rfl) rfl (ST.nil (And.intro (by decide +kernel) ?_)))))
          exact (wq rfl)
         ·obtain ⟨r1081, hq1080, h1⟩ := ob h1; obtain ⟨r1083, hq1082, h1⟩ := ob h1
          refine u1 ([], false) (ww rfl) (far (k := 1) rfl fo26_1 ts22 rfl) rfl (u1 ([0], false) (ww rfl) (lod rfl (ld_box ts22 ta22 rfl rfl)) rfl (u1 ([], false) (ww rfl) (far (k := 2) rfl fo26_2 ts23 rfl) rfl (u1 ([0], false) (ww rfl) (lod rfl (ld_box ts23 ta23 rfl rfl)) rfl (tc0 (ref17_Up_ok p0.Primary _ hq1080) (ww rfl) rfl rfl rfl cb47 rfl (fun _ => rfl) (fun _ => rfl) (tc0 (ref17_KeyMax_ok p0.Cols r1081 _ hq1082) (ww rfl) rfl rfl rfl cb46 rfl (fun _ => rfl) (fun _ => rfl) (u1 ([], false) (ww rfl) (bi rfl rfl q_i64_gtr) rfl (t1 ([], false) (pkf rfl rfl) rfl (t1 ([], false) (mv rfl) rfl (tp h1 (fun h1 => ?_) (fun h1 => ?_))))))))))
          ·have q := si h1; subst q
           refine jw rfl (jw rfl (jw rfl (jw rfl (t1 ([], false) (pkt rfl rfl) rfl (ST.nil (And.intro (by decide +kernel) ?_))))))
           exact (wq rfl)
          ·have q := si h1; subst q
           refine u1 ([], false) (ww rfl) (far (k := 3) rfl fo26_3 ts24 rfl) rfl (u1 ([0], false) (ww rfl) (lod rfl (ld_box ts24 ta24 rfl rfl)) rfl (u1 ([], false) (ww rfl) (len rfl rfl rfl (len_lst un24)) rfl (u1 ([], false) (ww rfl) (bi rfl rfl q_i64_gtr) rfl (t1 ([], false) (pkf rfl rfl) rfl (ST.nil (And.intro (by decide +kernel) ?_))))))
           exact (wq rfl)
        ·rintro y1076 h0
         refine cB h0 rfl (fun h0 => ?_) (fun h0 => ?_)
         ·have q := si h0; subst q
          exact sr (sa rfl (sn (SC.ret (finR (wc (e' := [(2, .d (eI (7 : Int)))]) [] [] (by kernel_rfl) rfl (by kernel_rfl)) (lresT rfl lresN) rfl))))
         ·refine sk (SC.seqB h0 (fun y => ⟨mk 150 [], []⟩) ?_ ?_)
          ·intro u1_1204 h1 h0
           obtain ⟨u2_1278, h2, h1⟩ := ob h1
           refine sr (sa rfl (sn (SC.blk (SC.loopB h2 (fun y => ⟨mk 150 [(1, .ref 0 0 0), (7, .d (eI y))], [.box (.d (eApiTable p0))]⟩) (wq rfl) ?_))))
           intro n1324
           rintro y1230 w2_1277 h3 hv3
           refine sq (sr (sm rfl (s1 (far (k := 3) rfl fo26_3 ts24 rfl) (s1 (lod rfl (ld_box ts24 ta24 rfl rfl)) (s1 (len rfl rfl rfl (len_lst un24)) (s1 (bi rfl rfl q_i64_lss) (sn (cB h3 rfl (fun h3 => ?_) (fun h3 => ?_)))))))))
           ·refine sk (SC.seqB h3 (fun y => ⟨mk 150 [(1, .ref 0 0 0), (7, .d (eI y1230))], [.box (.d (eApiTable p0))]⟩) ?_ ?_)
            ·intro u4_1301 h4 h3
             obtain ⟨v1302, hv1302, h4⟩ := ob h4; obtain ⟨r1304, hq1303, h4⟩ := ob h4
             refine SC.blk (sr (s1 (far (k := 3) rfl fo26_3 ts24 rfl) (s1 (lod rfl (ld_box ts24 ta24 rfl rfl)) (sm rfl (s1 (ial rfl rfl un24 ts56 (getI_some hv1302).1 (map_get (getI_some hv1302).2) rfl) (s1 (lod (v := .d (eApiIndex v1302)) rfl (ld_rop ts56 ta56 rfl)) (s1 (alo (k := 1) zo56 rfl) (s0 (sto rfl rfl (sB (d' := .d (eApiIndex v1302)) ts56 rfl rfl rfl rfl rfl rfl rfl)) (sn ?_)))))))))
             refine sq (sr (s1 (far (k := 0) rfl fo56_0 ts9 rfl) (s1 (lod rfl (ld_box ts9 ta9 rfl rfl)) (c0 (ref06_Name_ok v1302.Name _ hq1303) wf rfl rfl rfl cb42 rfl (fun _ => rfl) (fun _ => rfl) (s1 (nt rfl) (sn (cB h4 rfl (fun h4 => ?_) (fun h4 => ?_))))))))
             ·have q := si h4; subst q; have q := si h3; subst q; have q : _ = _ := hv3; subst q; have q := si h1; subst q; have q := si h0; subst q
              exact sr (sa rfl (sn (SC.ret (finR (wc (e' := [(2, .d (eI (1 : Int)))]) [] [] (by kernel_rfl) rfl (by kernel_rfl)) (lresT rfl lresN) rfl))))
             ·refine sk (SC.seqB h4 (fun y => ⟨mk 150 [(1, .ref 0 0 0), (7, .d (eI y1230)), (8, .ref 1 0 0)], [.box (.d (eApiTable p0)), .box (.d (eApiIndex v1302))]⟩) ?_ ?_)
              ·intro u5_1313 h5 h4
               obtain ⟨u6_1319, h6, h5⟩ := ob h5
               refine sr (sa rfl (sn (SC.blk (SC.loopB h6 (fun y => ⟨mk 150 [(1, .ref 0 0 0), (7, .d (eI y1230)), (8, .ref 1 0 0), (9, .d (eI y))], [.box (.d (eApiTable p0)), .box (.d (eApiIndex v1302))]⟩) (wq rfl) ?_))))
               intro n1321
               rintro y1315 w6_1318 h7 hv7
               refine sq (sr (sm rfl (sm rfl (s1 (bi rfl rfl q_i64_lss) (sn (cB h7 rfl (fun h7 => ?_) (fun h7 => ?_)))))))
               ·obtain ⟨v1320, hv1320, h7⟩ := ob h7
                refine sk (sq (SC.blk (sd (by kernel_rfl) (t1 ([], false) (far (k := 3) rfl fo26_3 ts24 rfl) rfl (t1 ([0], false) (lod rfl (ld_box ts24 ta24 rfl rfl)) rfl (t1 ([], false) (mv rfl) rfl (t1 ([], false) (ial rfl rfl un24 ts56 (getI_some hv1320).1 (map_get (getI_some hv1320).2) rfl) rfl (t1 ([], false) (fap rfl fo56_0 ts9 rfl) rfl (t1 ([], false) (lod rfl (ld_rop ts9 ta9 rfl)) rfl ?_)))))))))
                refine t1 ([], false) (far (k := 0) rfl fo56_0 ts9 rfl) rfl (t1 ([1], false) (lod rfl (ld_box ts9 ta9 rfl rfl)) rfl (t1 ([], false) (bi rfl rfl q_str_eql) rfl (tn (by decide +kernel) (cB h7 rfl (fun h7 => ?_) (fun h7 => ?_)))))
                ·have q := si h7; subst q; have q : _ = _ := hv7; subst q; have q := si h5; subst q; have q := si h4; subst q; have q := si h3; subst q; have q : _ = _ := hv3; subst q; have q := si h1; subst q; have q := si h0; subst q
                 exact sr (sa rfl (sn (SC.ret (finR (wc (e' := [(2, .d (eI (6 : Int)))]) [] [] (by kernel_rfl) rfl (by kernel_rfl)) (lresT rfl lresN) rfl))))
                ·refine SC.skip ?_
                 change SC _ _ _ _ _
                 have q := si h7; subst q
                 exact SC.region (sm rfl (s1 (bi rfl rfl q_i64_add) (sa rfl (SO.nil (lf (wq rfl))))))
               ·have q := si h7; subst q; have q : _ = _ := hv7; subst q; have q := si h5; subst q
                exact SC.exit (lf (wq rfl))
              ·intro _ h4
               obtain ⟨r1323, hq1322, h4⟩ := ob h4
               refine sr (s1 (lod (v := .d (eApiTable p0)) rfl (ld_box ts26 ta26 rfl rfl)) (s1 (lod (v := .d (eApiIndex v1302)) rfl (ld_box ts56 ta56 rfl rfl)) (c0 (ref17_index_ok p0 v1302 _ hq1322) wf rfl rfl rfl cb48 rfl (fun _ => rfl) (fun _ => rfl) (sa rfl (sn (sr (sm rfl (s1 (bi rfl rfl q_i64_neq) (sn ?_)))))))))
               refine cB h4 rfl (fun h4 => ?_) (fun h4 => ?_)
               ·have q := si h4; subst q; have q := si h3; subst q; have q : _ = _ := hv3; subst q; have q := si h1; subst q; have q := si h0; subst q
                exact sr (sm rfl (sa rfl (sn (SC.ret (finR (wc (e' := [(2, .d (eI r1323))]) [] [] (by kernel_rfl) rfl (by kernel_rfl)) (lresT rfl lresN) rfl)))))
               ·have q := si h4; subst q
                exact SC.skip (lf (wc [0] [0] (by kernel_rfl) rfl (by kernel_rfl)))
            ·intro _ h3
             have q := si h3; subst q
             exact SC.region (sm rfl (s1 (bi rfl rfl q_i64_add) (sa rfl (SO.nil (lf (wq rfl))))))
           ·have q := si h3; subst q; have q : _ = _ := hv3; subst q; have q := si h1; subst q
            exact SC.exit (lf (wc [] [] (by kernel_rfl) rfl (by kernel_rfl)))
          ·intro _ h0
           have q := si h0; subst q
           exact sr (sa rfl (sn (SC.ret (finR (Wk.refl _) (lresT rfl lresN) rfl))))
noncomputable def ref18_tree (p0 : Int) : Option Bool :=
 Option.bind (α := Bool)
 (bif (decide (p0 ≥ (1 : Int))) then
 some (decide (p0 ≤ (65535 : Int)))
 else
 some false)
 fun y6 =>
 some y6
theorem ref18_tree_ok (p0 : Int) (r : Bool) (h0 : ref18_tree p0 = some r) : CallAt Tryz.prog 24 [.d (eI p0)] [] (.d (eB r)) [] := by
 unfold ref18_tree at h0
 refine fn0 [0] Tryz.func24 rfl rfl rfl rfl rfl ?_
 refine sr (sa rfl (sn (SC.seqP h0 (fun y => ⟨mk 9 [(2, .d (eB y))], []⟩) ?_ ?_)))
 ·intro u1_7 h1
  refine SC.region (sm rfl (s1 (bi rfl rfl q_i64_geq) (sm rfl (sp h1 (fun h1 => ?_) (fun h1 => ?_)))))
  ·have q := si h1; subst q
   exact gw rfl (mv rfl) (gw rfl (bi rfl rfl q_i64_leq) (s1 (pkt rfl rfl) (sa rfl (SO.nil ((wq rfl))))))
  ·have q := si h1; subst q
   exact kw rfl (kw rfl (s1 (pkf rfl rfl) (sa rfl (SO.nil ((wq rfl))))))
 ·rintro y6 h0
  have q := si h0; subst q
  exact SC.ret (finR (Wk.refl _) (lresT rfl lresN) rfl)
noncomputable def ref01_Out_Num (p0 : UInt64) (p1 : Int) : Option ((List UInt8)) :=
 Option.bind (α := (List UInt8))
 (loop (Y := Int × (List UInt8)) (W := (List UInt8)) (fun (y30, y31) =>
 bif (decide (y30 ≥ (0 : Int))) then
 bif decide (0 ≤ (w64 ((8 : Int) * y30))) then
 bif decide ((y31.length + [((shr64 p0 ((w64 ((8 : Int) * y30)).toNat)).toUInt8)].length) * 1 ≤ room) then
 some (Sum.inl ((w64 (y30 - (1 : Int))), (y31 ++ [((shr64 p0 ((w64 ((8 : Int) * y30)).toNat)).toUInt8)])))
 else none
 else none
 else
 some (Sum.inr y31)) ((w64 (p1 - (1 : Int))), ([] : List UInt8)))
 (fun e => some e)
theorem ref01_Out_Num_ok (p0 : UInt64) (p1 : Int) (r : (List UInt8)) (h0 : ref01_Out_Num p0 p1 = some r) : CallAt Tryz.prog 25 [.ref 0 0 0, .d (eU64 p0), .d (eI p1)] [.box (.d (.agg [.nils]))] (.tuple []) [.box (.agg [.slc 1 1 0 r.length none]), .row 1 (List.map eU8 r) true] := by
 unfold ref01_Out_Num at h0
 refine fn0 [0, 1, 2] Tryz.func25 rfl rfl rfl rfl rfl ?_
 obtain ⟨u1_37, h1, h0⟩ := ob h0
 refine sr (sm rfl (s1 (bi rfl rfl q_i64_sub) (sa rfl (sn (SC.blk (SC.loopB h1 (fun y => ⟨mk 27 [(0, .ref 0 0 0), (1, .d (eU64 p0)), (6, .d (eI y.1))], [.box (.agg [.slc 1 1 0 y.2.length none]), .row 1 (List.map eU8 y.2) true]⟩) (Wk.trans (Wk.pushE (σ' := [.box (.d (.agg [.nils])), .row 1 (List.map eU8 ([] : List UInt8)) true]) (.row 1 [] true) (fun _ hh => by cases hh) rfl) (Wk.trans (Wk.boxE (id := 0) (y := .agg [.slc 1 1 0 (([] : List UInt8).length) none]) (σ' := [.box (.agg [.slc 1 1 0 (([] : List UInt8).length) none]), .row 1 (List.map eU8 ([] : List UInt8)) true]) rfl (AWs.cons (AW.slcn _ _ _) AWs.nil) rfl) (wq rfl))) ?_))))))
 intro n40
 rintro ⟨y30, y31⟩ w1_36 h2 hv2
 refine sq (sr (sm rfl (s1 (bi rfl rfl q_i64_geq) (sn (cB h2 rfl (fun h2 => ?_) (fun h2 => ?_))))))
 ·obtain ⟨hg38, h2⟩ := gd h2; obtain ⟨hg39, h2⟩ := gd h2
  refine sk (sq (SC.blk (SC.draws (by kernel_rfl) (t1 ([], false) (mv rfl) rfl (t1 ([], false) (mv rfl) rfl (t1 ([], false) (nkr rfl) rfl (t1 ([], false) (far (k := 0) rfl fo73_0 ts57 rfl) rfl (t1 ([0], false) (lod rfl (ld_box ts57 ta57 rfl rfl)) rfl (t1 ([], false) (mv rfl) rfl ?_)))))))))
  refine t1 ([], false) (mv rfl) rfl (t1 ([], false) (bi rfl rfl q_i64_mul) rfl (t1 ([], false) (bi (v := .d (eU64 (shr64 p0 ((w64 ((8 : Int) * y30)).toNat)))) rfl rfl (fun X Y => b_u64_shr _ X Y p0 _ hg38)) rfl (t1 ([], false) (cvo rfl (cv_u64_u8 un41 un5 (shr64 p0 ((w64 ((8 : Int) * y30)).toNat)))) rfl (t1 ([2], true) (bsn (k := 2) (ds := List.map eU8 [((shr64 p0 ((w64 ((8 : Int) * y30)).toNat)).toUInt8)]) (off := 0) (l' := [((shr64 p0 ((w64 ((8 : Int) * y30)).toNat)).toUInt8)].length) rfl un57 ei5 rfl rfl (by rfl) rfl rfl rfl) rfl (t1 ([1, 2, 3], true) (app rfl rfl rfl rfl bc57 (aF (f := eU8) (xs := y31) (k := 3) rfl un57 ei5 rfl (el_full (xs := [((shr64 p0 ((w64 ((8 : Int) * y30)).toNat)).toUInt8)]) rfl) hg39 rfl)) rfl (t1 ([], false) (nkr rfl) rfl (t1 ([], false) (far (k := 0) rfl fo73_0 ts57 rfl) rfl (t0 ([0, 3], true) (sto rfl rfl (sB (d' := .agg [.slc 3 1 0 ((y31 ++ [((shr64 p0 ((w64 ((8 : Int) * y30)).toNat)).toUInt8)]).length) none]) ts57 rfl rfl rfl rfl rfl rfl rfl)) rfl (ST.nil (And.intro (by decide +kernel) ?_))))))))))
  change SC _ _ _ _ _
  have q := si h2; subst q
  exact SC.region (sm rfl (s1 (bi rfl rfl q_i64_sub) (sa rfl (SO.nil (lf (wc [0, 3] [0, 0] (by kernel_rfl) rfl (by kernel_rfl)))))))
 ·have q := si h2; subst q; have q : _ = _ := hv2; subst q; have q := si h0; subst q
  exact SC.exit (finN (Wk.refl _) lresN rfl)
noncomputable def ref01_Out_Num_1 (p0 : UInt64) (p1 : Int) (p2 : List UInt8) : Option ((List UInt8)) :=
 Option.bind (α := (List UInt8))
 (loop (Y := Int × (List UInt8)) (W := (List UInt8)) (fun (y30, y31) =>
 bif (decide (y30 ≥ (0 : Int))) then
 bif decide (0 ≤ (w64 ((8 : Int) * y30))) then
 bif decide ((y31.length + [((shr64 p0 ((w64 ((8 : Int) * y30)).toNat)).toUInt8)].length) * 1 ≤ room) then
 some (Sum.inl ((w64 (y30 - (1 : Int))), (y31 ++ [((shr64 p0 ((w64 ((8 : Int) * y30)).toNat)).toUInt8)])))
 else none
 else none
 else
 some (Sum.inr y31)) ((w64 (p1 - (1 : Int))), p2))
 (fun e => some e)
theorem ref01_Out_Num_1_ok (p0 : UInt64) (p1 : Int) (p2 : List UInt8) (r : (List UInt8)) (h0 : ref01_Out_Num_1 p0 p1 p2 = some r) : CallAt Tryz.prog 25 [.ref 0 0 0, .d (eU64 p0), .d (eI p1)] [.box (.agg [.slc 1 1 0 p2.length none]), .row 1 (List.map eU8 p2) true] (.tuple []) [.box (.agg [.slc 2 1 0 r.length none]), .dead, .row 1 (List.map eU8 r) true] := by
 unfold ref01_Out_Num_1 at h0
 refine fn0 [0, 1, 2] Tryz.func25 rfl rfl rfl rfl rfl ?_
 obtain ⟨u1_37, h1, h0⟩ := ob h0
 refine sr (sm rfl (s1 (bi rfl rfl q_i64_sub) (sa rfl (sn (SC.blk (SC.loopB h1 (fun y => ⟨mk 27 [(0, .ref 0 0 0), (1, .d (eU64 p0)), (6, .d (eI y.1))], [.box (.agg [.slc 2 1 0 y.2.length none]), .dead, .row 1 (List.map eU8 y.2) true]⟩) (Wk.trans (wq (e' := [(0, .ref 0 0 0), (1, .d (eU64 p0)), (6, .d (eI (w64 (p1 - (1 : Int)))))]) rfl) (Wk.trans (Wk.move (e' := [(0, .ref 0 0 0), (1, .d (eU64 p0)), (6, .d (eI (w64 (p1 - (1 : Int)))))]) (os := [.box (.agg [.slc 2 1 0 p2.length none]), .row 1 (List.map eU8 p2) true]) (o := .row 1 (List.map eU8 p2) true) (σ' := [.box (.agg [.slc 2 1 0 p2.length none]), .dead, .row 1 (List.map eU8 p2) true]) 1 (Nat.le_of_ble_eq_true rfl) rfl rfl rfl rfl) (wq rfl))) ?_))))))
 intro n40
 rintro ⟨y30, y31⟩ w1_36 h2 hv2
 refine sq (sr (sm rfl (s1 (bi rfl rfl q_i64_geq) (sn (cB h2 rfl (fun h2 => ?_) (fun h2 => ?_))))))
 ·obtain ⟨hg38, h2⟩ := gd h2; obtain ⟨hg39, h2⟩ := gd h2
  refine sk (sq (SC.blk (SC.draws (by kernel_rfl) (t1 ([], false) (mv rfl) rfl (t1 ([], false) (mv rfl) rfl (t1 ([], false) (nkr rfl) rfl (t1 ([], false) (far (k := 0) rfl fo73_0 ts57 rfl) rfl (t1 ([0], false) (lod rfl (ld_box ts57 ta57 rfl rfl)) rfl (t1 ([], false) (mv rfl) rfl ?_)))))))))
  refine t1 ([], false) (mv rfl) rfl (t1 ([], false) (bi rfl rfl q_i64_mul) rfl (t1 ([], false) (bi (v := .d (eU64 (shr64 p0 ((w64 ((8 : Int) * y30)).toNat)))) rfl rfl (fun X Y => b_u64_shr _ X Y p0 _ hg38)) rfl (t1 ([], false) (cvo rfl (cv_u64_u8 un41 un5 (shr64 p0 ((w64 ((8 : Int) * y30)).toNat)))) rfl (t1 ([3], true) (bsn (k := 3) (ds := List.map eU8 [((shr64 p0 ((w64 ((8 : Int) * y30)).toNat)).toUInt8)]) (off := 0) (l' := [((shr64 p0 ((w64 ((8 : Int) * y30)).toNat)).toUInt8)].length) rfl un57 ei5 rfl rfl (by rfl) rfl rfl rfl) rfl (t1 ([2, 3, 4], true) (app rfl rfl rfl rfl bc57 (aF (f := eU8) (xs := y31) (k := 4) rfl un57 ei5 rfl (el_full (xs := [((shr64 p0 ((w64 ((8 : Int) * y30)).toNat)).toUInt8)]) rfl) hg39 rfl)) rfl (t1 ([], false) (nkr rfl) rfl (t1 ([], false) (far (k := 0) rfl fo73_0 ts57 rfl) rfl (t0 ([0, 4], true) (sto rfl rfl (sB (d' := .agg [.slc 4 1 0 ((y31 ++ [((shr64 p0 ((w64 ((8 : Int) * y30)).toNat)).toUInt8)]).length) none]) ts57 rfl rfl rfl rfl rfl rfl rfl)) rfl (ST.nil (And.intro (by decide +kernel) ?_))))))))))
  change SC _ _ _ _ _
  have q := si h2; subst q
  exact SC.region (sm rfl (s1 (bi rfl rfl q_i64_sub) (sa rfl (SO.nil (lf (Wk.trans (wq (e' := [(0, .ref 0 0 0), (1, .d (eU64 p0)), (6, .d (eI (w64 (y30 - (1 : Int)))))]) rfl) (wc [0, 1, 4] [0, 1, 0] (by kernel_rfl) rfl (by kernel_rfl))))))))
 ·have q := si h2; subst q; have q : _ = _ := hv2; subst q; have q := si h0; subst q
  exact SC.exit (finN (Wk.refl _) lresN rfl)
noncomputable def ref18_sub (p0 : List UInt8) (p1 : List UInt8) (p2 : Int) : Option Unit :=
 bif decide (([116] : List UInt8).length + p0.length ≤ 9223372036854775807) then
 bif decide ((([116] : List UInt8) ++ p0).length + ([0] : List UInt8).length ≤ 9223372036854775807) then
 bif decide (((([116] : List UInt8) ++ p0) ++ ([0] : List UInt8)).length + p1.length ≤ 9223372036854775807) then
 bif decide ((((([116] : List UInt8) ++ p0) ++ ([0] : List UInt8)) ++ p1).length + [(u8i p2)].length ≤ 9223372036854775807) then
 some ()
 else none
 else none
 else none
 else none
theorem ref18_sub_ok (p0 : List UInt8) (p1 : List UInt8) (p2 : Int) (r : Unit) (h0 : ref18_sub p0 p1 p2 = some r) : CallAt Tryz.prog 26 [.d (eS p0), .d (eS p1), .d (eI p2)] [] (.d (eS ((((([116] : List UInt8) ++ p0) ++ ([0] : List UInt8)) ++ p1) ++ [(u8i p2)]))) [] := by
 unfold ref18_sub at h0
 refine fn0 [0, 1, 2] Tryz.func26 rfl rfl rfl rfl rfl ?_
 obtain ⟨hg9, h0⟩ := gd h0; obtain ⟨hg10, h0⟩ := gd h0; obtain ⟨hg11, h0⟩ := gd h0; obtain ⟨hg12, h0⟩ := gd h0; have q := si h0; subst q
 refine sr (s1 (asg (v := .d (eS ([] : List UInt8))) rfl) (sn (sr (sm rfl (s1 (bi (v := .d (eS (([116] : List UInt8) ++ p0))) rfl rfl (fun X Y => b_str_add _ X Y ([116] : List UInt8) p0 hg9)) (s1 (bi (v := .d (eS ((([116] : List UInt8) ++ p0) ++ ([0] : List UInt8)))) rfl rfl (fun X Y => b_str_add _ X Y (([116] : List UInt8) ++ p0) ([0] : List UInt8) hg10)) (sm rfl (s1 (bi (v := .d (eS (((([116] : List UInt8) ++ p0) ++ ([0] : List UInt8)) ++ p1))) rfl rfl (fun X Y => b_str_add _ X Y ((([116] : List UInt8) ++ p0) ++ ([0] : List UInt8)) p1 hg11)) (sm rfl ?_)))))))))
 exact s1 (cvo rfl (cv_i64_u8 un3 un5 p2)) (s1 (bsn (k := 0) (ds := List.map eU8 [(u8i p2)]) (off := 0) (l' := [(u8i p2)].length) rfl un57 ei5 rfl rfl (by rfl) rfl rfl rfl) (s1 (cvo (v := .d (eS [(u8i p2)])) rfl (cv_bytes_str un57 un9 un5 (el_full (xs := [(u8i p2)]) rfl) (fun _ hh => by cases hh))) (s1 (bi (v := .d (eS ((((([116] : List UInt8) ++ p0) ++ ([0] : List UInt8)) ++ p1) ++ [(u8i p2)]))) rfl rfl (fun X Y => b_str_add _ X Y (((([116] : List UInt8) ++ p0) ++ ([0] : List UInt8)) ++ p1) [(u8i p2)] hg12)) (sa rfl (sn (SC.ret (finR (wc (e' := [(6, .d (eS ((((([116] : List UInt8) ++ p0) ++ ([0] : List UInt8)) ++ p1) ++ [(u8i p2)])))]) [] [] (by kernel_rfl) rfl (by kernel_rfl)) (lresT rfl lresN) rfl)))))))
noncomputable def ref01_Out_Text_1 (p0 : List UInt8) : Option (Bool × (List UInt8)) :=
 bif (decide ((p0.length : Int) > (65535 : Int))) then
 some (false, ([] : List UInt8))
 else
 Option.bind (ref01_Out_Num (u64i (p0.length : Int)) (2 : Int)) fun r10 =>
 bif decide ((r10.length + p0.length) * 1 ≤ room) then
 some (true, (r10 ++ p0))
 else none
theorem ref01_Out_Text_1_ok (p0 : List UInt8) (r : Bool × (List UInt8)) (h0 : ref01_Out_Text_1 p0 = some r) : CallAt Tryz.prog 49 [.ref 0 0 0, .d (eS p0)] [.box (.d (.agg [.nils]))] (.d (eB r.1)) [.box (.agg [.slc 1 1 0 r.2.length none]), .row 1 (List.map eU8 r.2) true] := by
 unfold ref01_Out_Text_1 at h0
 refine fn0 [0, 1] Tryz.func49 rfl rfl rfl rfl rfl ?_
 refine sr (sa rfl (sn (sq (sr (sm rfl (s1 (len rfl rfl rfl (len_str un9)) (s1 (bi rfl rfl q_i64_gtr) (sn (cB h0 rfl (fun h0 => ?_) (fun h0 => ?_))))))))))
 ·have q := si h0; subst q
  exact sr (sa rfl (sn (SC.ret (finR (Wk.trans (Wk.pushE (σ' := [.box (.d (.agg [.nils])), .row 1 (List.map eU8 ([] : List UInt8)) true]) (.row 1 [] true) (fun _ hh => by cases hh) rfl) (Wk.trans (Wk.boxE (id := 0) (y := .agg [.slc 1 1 0 (([] : List UInt8).length) none]) (σ' := [.box (.agg [.slc 1 1 0 (([] : List UInt8).length) none]), .row 1 (List.map eU8 ([] : List UInt8)) true]) rfl (AWs.cons (AW.slcn _ _ _) AWs.nil) rfl) (wq (e' := [(4, .d (eB false))]) rfl))) (lresT rfl lresN) rfl))))
 ·obtain ⟨r10, hq9, h0⟩ := ob h0; obtain ⟨hg11, h0⟩ := gd h0; have q := si h0; subst q
  refine sk (sr (sm rfl (sm rfl (s1 (len rfl rfl rfl (len_str un9)) (s1 (cvo rfl (cv_i64_u64 un3 un41 (p0.length : Int))) (cq [0] [1] (ref01_Out_Num_ok (u64i (p0.length : Int)) (2 : Int) _ hq9) wf rfl rfl rfl cb25 rfl rfl rfl rfl rfl rfl rfl rfl (sn (sr (sm rfl ?_)))))))))
  refine sm rfl (s1 (nkr rfl) (s1 (far (k := 0) rfl fo73_0 ts57 rfl) (s1 (lod rfl (ld_box ts57 ta57 rfl rfl)) (sm rfl (s1 (app rfl rfl rfl rfl bc9 (aF (f := eU8) (xs := r10) (k := 2) rfl un57 ei5 rfl el_str hg11 rfl)) (s1 (nkr rfl) (s1 (far (k := 0) rfl fo73_0 ts57 rfl) (s0 (sto rfl rfl (sB (d' := .agg [.slc 2 1 0 ((r10 ++ p0).length) none]) ts57 rfl rfl rfl rfl rfl rfl rfl)) (sn ?_)))))))))
  exact sr (sa rfl (sn (SC.ret (finR (wc (e' := [(4, .d (eB true))]) [0, 2] [0] (by kernel_rfl) rfl (by kernel_rfl)) (lresT rfl lresN) rfl))))
noncomputable def ref01_Out_Flag (p0 : Bool) (p1 : List UInt8) : Option ((List UInt8)) :=
 bif p0 then
 bif decide ((p1.length + [(1 : UInt8)].length) * 1 ≤ room) then
 some (p1 ++ [(1 : UInt8)])
 else none
 else
 bif decide ((p1.length + [(0 : UInt8)].length) * 1 ≤ room) then
 some (p1 ++ [(0 : UInt8)])
 else none
theorem ref01_Out_Flag_ok (p0 : Bool) (p1 : List UInt8) (r : (List UInt8)) (h0 : ref01_Out_Flag p0 p1 = some r) : CallAt Tryz.prog 50 [.ref 0 0 0, .d (eB p0)] [.box (.agg [.slc 1 1 0 p1.length none]), .row 1 (List.map eU8 p1) true] (.tuple []) [.box (.agg [.slc 2 1 0 r.length none]), .dead, .row 1 (List.map eU8 r) true] := by
 unfold ref01_Out_Flag at h0
 refine fn0 [0, 1] Tryz.func50 rfl rfl rfl rfl rfl ?_
 refine sr (sm rfl (sn (cB h0 rfl (fun h0 => ?_) (fun h0 => ?_))))
 ·obtain ⟨hg6, h0⟩ := gd h0; have q := si h0; subst q
  refine SC.region (sm rfl (sm rfl (s1 (nkr rfl) (s1 (far (k := 0) rfl fo73_0 ts57 rfl) (s1 (lod rfl (ld_box ts57 ta57 rfl rfl)) (s1 (bsn (k := 2) (ds := List.map eU8 [(1 : UInt8)]) (off := 0) (l' := [(1 : UInt8)].length) rfl un57 ei5 rfl rfl (by rfl) rfl rfl rfl) (s1 (app rfl rfl rfl rfl bc57 (aF (f := eU8) (xs := p1) (k := 3) rfl un57 ei5 rfl (el_full (xs := [(1 : UInt8)]) rfl) hg6 rfl)) (s1 (nkr rfl) (s1 (far (k := 0) rfl fo73_0 ts57 rfl) ?_)))))))))
  exact s0 (sto rfl rfl (sB (d' := .agg [.slc 3 1 0 ((p1 ++ [(1 : UInt8)]).length) none]) ts57 rfl rfl rfl rfl rfl rfl rfl)) (SO.nil (finN (wc (e' := []) [0, 1, 3] [0, 1] (by kernel_rfl) rfl (by kernel_rfl)) lresN rfl))
 ·obtain ⟨hg7, h0⟩ := gd h0; have q := si h0; subst q
  refine SC.region (sm rfl (sm rfl (s1 (nkr rfl) (s1 (far (k := 0) rfl fo73_0 ts57 rfl) (s1 (lod rfl (ld_box ts57 ta57 rfl rfl)) (s1 (bsn (k := 2) (ds := List.map eU8 [(0 : UInt8)]) (off := 0) (l' := [(0 : UInt8)].length) rfl un57 ei5 rfl rfl (by rfl) rfl rfl rfl) (s1 (app rfl rfl rfl rfl bc57 (aF (f := eU8) (xs := p1) (k := 3) rfl un57 ei5 rfl (el_full (xs := [(0 : UInt8)]) rfl) hg7 rfl)) (s1 (nkr rfl) (s1 (far (k := 0) rfl fo73_0 ts57 rfl) ?_)))))))))
  exact s0 (sto rfl rfl (sB (d' := .agg [.slc 3 1 0 ((p1 ++ [(0 : UInt8)]).length) none]) ts57 rfl rfl rfl rfl rfl rfl rfl)) (SO.nil (finN (wc (e' := []) [0, 1, 3] [0, 1] (by kernel_rfl) rfl (by kernel_rfl)) lresN rfl))
noncomputable def ref01_Out_Text (p0 : List UInt8) (p1 : List UInt8) : Option (Bool × (List UInt8)) :=
 bif (decide ((p0.length : Int) > (65535 : Int))) then
 some (false, p1)
 else
 Option.bind (ref01_Out_Num_1 (u64i (p0.length : Int)) (2 : Int) p1) fun r10 =>
 bif decide ((r10.length + p0.length) * 1 ≤ room) then
 some (true, (r10 ++ p0))
 else none
theorem ref01_Out_Text_ok (p0 : List UInt8) (p1 : List UInt8) (r : Bool × (List UInt8)) (h0 : ref01_Out_Text p0 p1 = some r) : CallAt Tryz.prog 49 [.ref 0 0 0, .d (eS p0)] [.box (.agg [.slc 1 1 0 p1.length none]), .row 1 (List.map eU8 p1) true] (.d (eB r.1)) [.box (.agg [.slc 2 1 0 r.2.length none]), .dead, .row 1 (List.map eU8 r.2) true] := by
 unfold ref01_Out_Text at h0
 refine fn0 [0, 1] Tryz.func49 rfl rfl rfl rfl rfl ?_
 refine sr (sa rfl (sn (sq (sr (sm rfl (s1 (len rfl rfl rfl (len_str un9)) (s1 (bi rfl rfl q_i64_gtr) (sn (cB h0 rfl (fun h0 => ?_) (fun h0 => ?_))))))))))
 ·have q := si h0; subst q
  exact sr (sa rfl (sn (SC.ret (finR (Wk.trans (wq (e' := [(4, .d (eB false))]) rfl) (Wk.trans (Wk.move (e' := [(4, .d (eB false))]) (os := [.box (.agg [.slc 2 1 0 p1.length none]), .row 1 (List.map eU8 p1) true]) (o := .row 1 (List.map eU8 p1) true) (σ' := [.box (.agg [.slc 2 1 0 p1.length none]), .dead, .row 1 (List.map eU8 p1) true]) 1 (Nat.le_of_ble_eq_true rfl) rfl rfl rfl rfl) (wq (e' := [(4, .d (eB false))]) rfl))) (lresT rfl lresN) rfl))))
 ·obtain ⟨r10, hq9, h0⟩ := ob h0; obtain ⟨hg11, h0⟩ := gd h0; have q := si h0; subst q
  refine sk (sr (sm rfl (sm rfl (s1 (len rfl rfl rfl (len_str un9)) (s1 (cvo rfl (cv_i64_u64 un3 un41 (p0.length : Int))) (cq [0, 1] [2] (ref01_Out_Num_1_ok (u64i (p0.length : Int)) (2 : Int) p1 _ hq9) wf rfl rfl rfl cb25 rfl rfl rfl rfl rfl rfl rfl rfl (sn (sr (sm rfl ?_)))))))))
  refine sm rfl (s1 (nkr rfl) (s1 (far (k := 0) rfl fo73_0 ts57 rfl) (s1 (lod rfl (ld_box ts57 ta57 rfl rfl)) (sm rfl (s1 (app rfl rfl rfl rfl bc9 (aF (f := eU8) (xs := r10) (k := 3) rfl un57 ei5 rfl el_str hg11 rfl)) (s1 (nkr rfl) (s1 (far (k := 0) rfl fo73_0 ts57 rfl) (s0 (sto rfl rfl (sB (d' := .agg [.slc 3 1 0 ((r10 ++ p0).length) none]) ts57 rfl rfl rfl rfl rfl rfl rfl)) (sn ?_)))))))))
  exact sr (sa rfl (sn (SC.ret (finR (Wk.trans (wq (e' := [(4, .d (eB true))]) rfl) (wc (e' := [(4, .d (eB true))]) [0, 1, 3] [0, 1] (by kernel_rfl) rfl (by kernel_rfl))) (lresT rfl lresN) rfl))))
noncomputable def ref18_column (p0 : ApiColumn) : Option ((List UInt8)) :=
 Option.bind (ref01_Out_Text_1 p0.Name) fun (r35, r36) =>
 Option.bind (ref01_Out_Num_1 (u64i p0.Kind) (1 : Int) r36) fun r38 =>
 Option.bind (ref01_Out_Num_1 (u64i p0.Max) (1 : Int) r38) fun r40 =>
 Option.bind (ref01_Out_Flag p0.Nulls r40) fun r42 =>
 Option.bind (ref01_Out_Num_1 (u64i p0.Default.Kind) (1 : Int) r42) fun r44 =>
 Option.bind (ref01_Out_Num_1 p0.Default.N (8 : Int) r44) fun r46 =>
 Option.bind (ref01_Out_Text p0.Default.S r46) fun (r48, r49) =>
 some r49
theorem ref18_column_ok (p0 : ApiColumn) (r : (List UInt8)) (h0 : ref18_column p0 = some r) : CallAt Tryz.prog 27 [.d (eApiColumn p0)] [] (.d (eS r)) [] := by
 unfold ref18_column at h0
 refine fn0 [0] Tryz.func27 rfl rfl rfl rfl rfl ?_
 obtain ⟨⟨r35, r36⟩, hq34, h0⟩ := ob h0; obtain ⟨r38, hq37, h0⟩ := ob h0; obtain ⟨r40, hq39, h0⟩ := ob h0; obtain ⟨r42, hq41, h0⟩ := ob h0; obtain ⟨r44, hq43, h0⟩ := ob h0; obtain ⟨r46, hq45, h0⟩ := ob h0; obtain ⟨⟨r48, r49⟩, hq47, h0⟩ := ob h0; have q := si h0; subst q
 refine sr (s1 (bxo (k := 0) rfl rfl rfl) (s1 (asg (v := .d (eS ([] : List UInt8))) rfl) (sn (sr (s1 (bld rfl (bd73_ )) (s1 (bxo (k := 1) rfl rfl rfl) (sa rfl (sn (sr ?_)))))))))
 refine sm rfl (s1 (far (k := 0) rfl fo45_0 ts9 rfl) (s1 (lod rfl (ld_box ts9 ta9 rfl rfl)) (cq [1] [2] (ref01_Out_Text_1_ok p0.Name _ hq34) wf rfl rfl rfl cb49 rfl rfl rfl rfl rfl rfl rfl rfl (sn (sr (sm rfl (s1 (far (k := 1) rfl fo45_1 ts3 rfl) (s1 (lod rfl (ld_box ts3 ta3 rfl rfl)) (s1 (cvo rfl (cv_i64_u64 un3 un41 p0.Kind)) ?_)))))))))
 refine cq [1, 2] [3] (ref01_Out_Num_1_ok (u64i p0.Kind) (1 : Int) r36 _ hq37) wf rfl rfl rfl cb25 rfl rfl rfl rfl rfl rfl rfl rfl (sn (sr (sm rfl (s1 (far (k := 2) rfl fo45_2 ts3 rfl) (s1 (lod rfl (ld_box ts3 ta3 rfl rfl)) (s1 (cvo rfl (cv_i64_u64 un3 un41 p0.Max)) (cq [1, 3] [4] (ref01_Out_Num_1_ok (u64i p0.Max) (1 : Int) r38 _ hq39) wf rfl rfl rfl cb25 rfl rfl rfl rfl rfl rfl rfl rfl (sn (sr ?_)))))))))
 refine sm rfl (s1 (far (k := 3) rfl fo45_3 ts4 rfl) (s1 (lod rfl (ld_box ts4 ta4 rfl rfl)) (cq [1, 4] [5] (ref01_Out_Flag_ok p0.Nulls r40 _ hq41) wf rfl rfl rfl cb50 rfl rfl rfl rfl rfl rfl rfl rfl (sn (sr (sm rfl (s1 (far (k := 4) rfl fo45_4 ts43 rfl) (s1 (far (k := 4) rfl fo43_0 ts3 rfl) (s1 (lod rfl (ld_box ts3 ta3 rfl rfl)) ?_)))))))))
 refine s1 (cvo rfl (cv_i64_u64 un3 un41 p0.Default.Kind)) (cq [1, 5] [6] (ref01_Out_Num_1_ok (u64i p0.Default.Kind) (1 : Int) r42 _ hq43) wf rfl rfl rfl cb25 rfl rfl rfl rfl rfl rfl rfl rfl (sn (sr (sm rfl (s1 (far (k := 4) rfl fo45_4 ts43 rfl) (s1 (far (k := 5) rfl fo43_1 ts41 rfl) (s1 (lod rfl (ld_box ts41 ta41 rfl rfl)) (cq [1, 6] [7] (ref01_Out_Num_1_ok p0.Default.N (8 : Int) r44 _ hq45) wf rfl rfl rfl cb25 rfl rfl rfl rfl rfl rfl rfl rfl (sn ?_)))))))))
 refine sr (sm rfl (s1 (far (k := 4) rfl fo45_4 ts43 rfl) (s1 (far (k := 6) rfl fo43_2 ts9 rfl) (s1 (lod rfl (ld_box ts9 ta9 rfl rfl)) (cq [1, 7] [8] (ref01_Out_Text_ok p0.Default.S r46 _ hq47) wf rfl rfl rfl cb49 rfl rfl rfl rfl rfl rfl rfl rfl (sn (sr (sm rfl (s1 (nkr rfl) ?_)))))))))
 exact s1 (far (k := 0) rfl fo73_0 ts57 rfl) (s1 (lod rfl (ld_box ts57 ta57 rfl rfl)) (s1 (cvo (v := .d (eS r49)) rfl (cv_bytes_str un57 un9 un5 (el_full (xs := r49) rfl) (fun _ hh => by cases hh))) (sa rfl (sn (SC.ret (finR (wc (e' := [(2, .d (eS r49))]) [] [] (by kernel_rfl) rfl (by kernel_rfl)) (lresT rfl lresN) rfl))))))
noncomputable def ref18_index (p0 : ApiIndex) : Option ((List UInt8)) :=
 Option.bind (ref01_Out_Text_1 p0.Name) fun (r201, r202) =>
 Option.bind (ref01_Out_Num_1 (u64i (p0.Parts.length : Int)) (1 : Int) r202) fun r204 =>
 Option.bind (α := (List UInt8))
 (Option.bind (α := (List UInt8))
 (loop (Y := Int × (List UInt8)) (W := (List UInt8)) (fun (y238, y239) =>
 bif (decide (y238 < (p0.Parts.length : Int))) then
 Option.bind (getI p0.Parts y238) fun v250 =>
 Option.bind (ref01_Out_Num_1 (u64i v250.Col) (1 : Int) y239) fun r252 =>
 Option.bind (getI p0.Parts y238) fun v253 =>
 Option.bind (ref01_Out_Flag v253.Down r252) fun r255 =>
 some (Sum.inl ((w64 (y238 + (1 : Int))), r255))
 else
 some (Sum.inr y239)) ((0 : Int), r204))
 (fun e => some e))
 fun y230 =>
 Option.bind (ref01_Out_Num_1 (u64i (p0.Extra.length : Int)) (1 : Int) y230) fun r258 =>
 Option.bind (α := (List UInt8))
 (Option.bind (α := (List UInt8))
 (loop (Y := Int × (List UInt8)) (W := (List UInt8)) (fun (y280, y281) =>
 bif (decide (y280 < (p0.Extra.length : Int))) then
 Option.bind (getI p0.Extra y280) fun v289 =>
 Option.bind (ref01_Out_Num_1 (u64i v289) (1 : Int) y281) fun r291 =>
 some (Sum.inl ((w64 (y280 + (1 : Int))), r291))
 else
 some (Sum.inr y281)) ((0 : Int), r258))
 (fun e => some e))
 fun y275 =>
 Option.bind (ref01_Out_Flag p0.Unique y275) fun r294 =>
 Option.bind (ref01_Out_Flag p0.Ready r294) fun r296 =>
 Option.bind (ref01_Out_Num_1 (u64i p0.Tree) (2 : Int) r296) fun r298 =>
 some r298
theorem ref18_index_ok (p0 : ApiIndex) (r : (List UInt8)) (h0 : ref18_index p0 = some r) : CallAt Tryz.prog 28 [.d (eApiIndex p0)] [] (.d (eS r)) [] := by
 unfold ref18_index at h0
 refine fn0 [0] Tryz.func28 rfl rfl rfl rfl rfl ?_
 obtain ⟨⟨r201, r202⟩, hq200, h0⟩ := ob h0; obtain ⟨r204, hq203, h0⟩ := ob h0
 refine sr (s1 (bxo (k := 0) rfl rfl rfl) (s1 (asg (v := .d (eS ([] : List UInt8))) rfl) (sn (sr (s1 (bld rfl (bd73_ )) (s1 (bxo (k := 1) rfl rfl rfl) (sa rfl (sn (sr ?_)))))))))
 refine sm rfl (s1 (far (k := 0) rfl fo56_0 ts9 rfl) (s1 (lod rfl (ld_box ts9 ta9 rfl rfl)) (cq [1] [2] (ref01_Out_Text_1_ok p0.Name _ hq200) wf rfl rfl rfl cb49 rfl rfl rfl rfl rfl rfl rfl rfl (sn (sr (sm rfl (s1 (far (k := 1) rfl fo56_1 ts54 rfl) (s1 (lod rfl (ld_box ts54 ta54 rfl rfl)) (s1 (len rfl rfl rfl (len_lst un54)) ?_)))))))))
 refine s1 (cvo rfl (cv_i64_u64 un3 un41 (p0.Parts.length : Int))) (cq [1, 2] [3] (ref01_Out_Num_1_ok (u64i (p0.Parts.length : Int)) (1 : Int) r202 _ hq203) wf rfl rfl rfl cb25 rfl rfl rfl rfl rfl rfl rfl rfl (sn (SC.seqP h0 (fun y => ⟨mk 81 [(1, .ref 0 0 0), (3, .ref 1 0 0)], [.box (.d (eApiIndex p0)), .box (.agg [.slc 2 1 0 y.length none]), .row 1 (List.map eU8 y) true]⟩) ?_ ?_)))
 ·intro u1_231 h1
  obtain ⟨u2_249, h2, h1⟩ := ob h1
  refine sr (sa rfl (sn (SC.blk (SC.loopB h2 (fun y => ⟨mk 81 [(1, .ref 0 0 0), (3, .ref 1 0 0), (4, .d (eI y.1))], [.box (.d (eApiIndex p0)), .box (.agg [.slc 2 1 0 y.2.length none]), .row 1 (List.map eU8 y.2) true]⟩) (wc [0, 1, 3] [0, 1] (by kernel_rfl) rfl (by kernel_rfl)) ?_))))
  intro n256
  rintro ⟨y238, y239⟩ w2_248 h3 hv3
  refine sq (sr (sm rfl (s1 (far (k := 1) rfl fo56_1 ts54 rfl) (s1 (lod rfl (ld_box ts54 ta54 rfl rfl)) (s1 (len rfl rfl rfl (len_lst un54)) (s1 (bi rfl rfl q_i64_lss) (sn (cB h3 rfl (fun h3 => ?_) (fun h3 => ?_)))))))))
  ·obtain ⟨v250, hv250, h3⟩ := ob h3; obtain ⟨r252, hq251, h3⟩ := ob h3; obtain ⟨v253, hv253, h3⟩ := ob h3; obtain ⟨r255, hq254, h3⟩ := ob h3
   refine sk (sq (SC.blk (sr (sm rfl (s1 (far (k := 1) rfl fo56_1 ts54 rfl) (s1 (lod rfl (ld_box ts54 ta54 rfl rfl)) (sm rfl (s1 (ial rfl rfl un54 ts78 (getI_some hv250).1 (map_get (getI_some hv250).2) rfl) (s1 (fap rfl fo78_0 ts3 rfl) ?_)))))))))
   refine s1 (lod rfl (ld_rop ts3 ta3 rfl)) (s1 (cvo rfl (cv_i64_u64 un3 un41 v250.Col)) (cq [1, 2] [3] (ref01_Out_Num_1_ok (u64i v250.Col) (1 : Int) y239 _ hq251) wf rfl rfl rfl cb25 rfl rfl rfl rfl rfl rfl rfl rfl (sn (SC.region (sm rfl (s1 (far (k := 1) rfl fo56_1 ts54 rfl) (s1 (lod rfl (ld_box ts54 ta54 rfl rfl)) (sm rfl (s1 (ial rfl rfl un54 ts78 (getI_some hv253).1 (map_get (getI_some hv253).2) rfl) ?_)))))))))
   refine s1 (fap rfl fo78_1 ts4 rfl) (s1 (lod rfl (ld_rop ts4 ta4 rfl)) (cq [1, 3] [4] (ref01_Out_Flag_ok v253.Down r252 _ hq254) wf rfl rfl rfl cb50 rfl rfl rfl rfl rfl rfl rfl rfl (SO.nil ?_)))
   change SC _ _ _ _ _
   have q := si h3; subst q
   exact SC.region (sm rfl (s1 (bi rfl rfl q_i64_add) (sa rfl (SO.nil (lf (wc [0, 1, 4] [0, 1] (by kernel_rfl) rfl (by kernel_rfl)))))))
  ·have q := si h3; subst q; have q : _ = _ := hv3; subst q; have q := si h1; subst q
   exact SC.exit ((wq rfl))
 ·rintro y230 h0
  obtain ⟨r258, hq257, h0⟩ := ob h0
  refine sr (sm rfl (s1 (far (k := 2) rfl fo56_2 ts23 rfl) (s1 (lod rfl (ld_box ts23 ta23 rfl rfl)) (s1 (len rfl rfl rfl (len_lst un23)) (s1 (cvo rfl (cv_i64_u64 un3 un41 (p0.Extra.length : Int))) (cq [1, 2] [3] (ref01_Out_Num_1_ok (u64i (p0.Extra.length : Int)) (1 : Int) y230 _ hq257) wf rfl rfl rfl cb25 rfl rfl rfl rfl rfl rfl rfl rfl (sn (SC.seqP h0 (fun y => ⟨mk 81 [(1, .ref 0 0 0), (3, .ref 1 0 0)], [.box (.d (eApiIndex p0)), .box (.agg [.slc 2 1 0 y.length none]), .row 1 (List.map eU8 y) true]⟩) ?_ ?_))))))))
  ·intro u1_276 h1
   obtain ⟨u2_288, h2, h1⟩ := ob h1
   refine sr (sa rfl (sn (SC.blk (SC.loopB h2 (fun y => ⟨mk 81 [(1, .ref 0 0 0), (3, .ref 1 0 0), (5, .d (eI y.1))], [.box (.d (eApiIndex p0)), .box (.agg [.slc 2 1 0 y.2.length none]), .row 1 (List.map eU8 y.2) true]⟩) (wc [0, 1, 3] [0, 1] (by kernel_rfl) rfl (by kernel_rfl)) ?_))))
   intro n292
   rintro ⟨y280, y281⟩ w2_287 h3 hv3
   refine sq (sr (sm rfl (s1 (far (k := 2) rfl fo56_2 ts23 rfl) (s1 (lod rfl (ld_box ts23 ta23 rfl rfl)) (s1 (len rfl rfl rfl (len_lst un23)) (s1 (bi rfl rfl q_i64_lss) (sn (cB h3 rfl (fun h3 => ?_) (fun h3 => ?_)))))))))
   ·obtain ⟨v289, hv289, h3⟩ := ob h3; obtain ⟨r291, hq290, h3⟩ := ob h3
    refine sk (sq (SC.blk (SC.region (sm rfl (s1 (far (k := 2) rfl fo56_2 ts23 rfl) (s1 (lod rfl (ld_box ts23 ta23 rfl rfl)) (sm rfl (s1 (ial rfl rfl un23 ts3 (getI_some hv289).1 (map_get (getI_some hv289).2) rfl) (s1 (lod rfl (ld_rop ts3 ta3 rfl)) ?_)))))))))
    refine s1 (cvo rfl (cv_i64_u64 un3 un41 v289)) (cq [1, 2] [3] (ref01_Out_Num_1_ok (u64i v289) (1 : Int) y281 _ hq290) wf rfl rfl rfl cb25 rfl rfl rfl rfl rfl rfl rfl rfl (SO.nil ?_))
    change SC _ _ _ _ _
    have q := si h3; subst q
    exact SC.region (sm rfl (s1 (bi rfl rfl q_i64_add) (sa rfl (SO.nil (lf (wc [0, 1, 3] [0, 1] (by kernel_rfl) rfl (by kernel_rfl)))))))
   ·have q := si h3; subst q; have q : _ = _ := hv3; subst q; have q := si h1; subst q
    exact SC.exit ((wq rfl))
  ·rintro y275 h0
   obtain ⟨r294, hq293, h0⟩ := ob h0; obtain ⟨r296, hq295, h0⟩ := ob h0; obtain ⟨r298, hq297, h0⟩ := ob h0; have q := si h0; subst q
   refine sr (sm rfl (s1 (far (k := 3) rfl fo56_3 ts4 rfl) (s1 (lod rfl (ld_box ts4 ta4 rfl rfl)) (cq [1, 2] [3] (ref01_Out_Flag_ok p0.Unique y275 _ hq293) wf rfl rfl rfl cb50 rfl rfl rfl rfl rfl rfl rfl rfl (sn (sr (sm rfl (s1 (far (k := 4) rfl fo56_4 ts4 rfl) (s1 (lod rfl (ld_box ts4 ta4 rfl rfl)) ?_)))))))))
   refine cq [1, 3] [4] (ref01_Out_Flag_ok p0.Ready r294 _ hq295) wf rfl rfl rfl cb50 rfl rfl rfl rfl rfl rfl rfl rfl (sn (sr (sm rfl (s1 (far (k := 5) rfl fo56_5 ts3 rfl) (s1 (lod rfl (ld_box ts3 ta3 rfl rfl)) (s1 (cvo rfl (cv_i64_u64 un3 un41 p0.Tree)) (cq [1, 4] [5] (ref01_Out_Num_1_ok (u64i p0.Tree) (2 : Int) r296 _ hq297) wf rfl rfl rfl cb25 rfl rfl rfl rfl rfl rfl rfl rfl (sn (sr ?_)))))))))
   exact sm rfl (s1 (nkr rfl) (s1 (far (k := 0) rfl fo73_0 ts57 rfl) (s1 (lod rfl (ld_box ts57 ta57 rfl rfl)) (s1 (cvo (v := .d (eS r298)) rfl (cv_bytes_str un57 un9 un5 (el_full (xs := r298) rfl) (fun _ hh => by cases hh))) (sa rfl (sn (SC.ret (finR (wc (e' := [(2, .d (eS r298))]) [] [] (by kernel_rfl) rfl (by kernel_rfl)) (lresT rfl lresN) rfl))))))))
noncomputable def ref18_Pairs (p0 : ApiTable) : Option ((List ApiPair) × Int) :=
 Option.bind (α := Bool)
 (Option.bind (ref17_Check p0) fun r336 =>
 bif (r336 != (0 : Int)) then
 some true
 else
 Option.bind (ref18_tree p0.Tree) fun r338 =>
 some (!r338))
 fun y333 =>
 bif y333 then
 some (([] : List ApiPair), (1 : Int))
 else
 Option.bind (ref01_Out_Num (u64i p0.Tree) (2 : Int)) fun r340 =>
 Option.bind (ref01_Out_Num_1 (u64i (p0.Cols.length : Int)) (1 : Int) r340) fun r342 =>
 Option.bind (ref01_Out_Num_1 (u64i (p0.Primary.length : Int)) (1 : Int) r342) fun r344 =>
 Option.bind (α := (List UInt8))
 (Option.bind (α := (List UInt8))
 (loop (Y := Int × (List UInt8)) (W := (List UInt8)) (fun (y366, y367) =>
 bif (decide (y366 < (p0.Primary.length : Int))) then
 Option.bind (getI p0.Primary y366) fun v375 =>
 Option.bind (ref01_Out_Num_1 (u64i v375) (1 : Int) y367) fun r377 =>
 some (Sum.inl ((w64 (y366 + (1 : Int))), r377))
 else
 some (Sum.inr y367)) ((0 : Int), r344))
 (fun e => some e))
 fun y361 =>
 Option.bind (ref01_Out_Num_1 (u64i (p0.Indexes.length : Int)) (1 : Int) y361) fun r380 =>
 bif decide (([116] : List UInt8).length + p0.Name.length ≤ 9223372036854775807) then
 Option.bind (α := (List ApiPair))
 (Option.bind (α := (List ApiPair))
 (loop (Y := (List ApiPair) × Int) (W := (List ApiPair)) (fun (y411, y412) =>
 bif (decide (y412 < (p0.Cols.length : Int))) then
 Option.bind (ref18_sub p0.Name ([99] : List UInt8) y412) fun _ =>
 Option.bind (getI p0.Cols y412) fun v423 =>
 Option.bind (ref18_column v423) fun r425 =>
 bif decide ((y411.length + [(ApiPair.mk ((((([116] : List UInt8) ++ p0.Name) ++ ([0] : List UInt8)) ++ ([99] : List UInt8)) ++ [(u8i y412)]) r425)].length) * 32 ≤ room) then
 some (Sum.inl ((y411 ++ [(ApiPair.mk ((((([116] : List UInt8) ++ p0.Name) ++ ([0] : List UInt8)) ++ ([99] : List UInt8)) ++ [(u8i y412)]) r425)]), (w64 (y412 + (1 : Int)))))
 else none
 else
 some (Sum.inr y411)) ([(ApiPair.mk (([116] : List UInt8) ++ p0.Name) r380)], (0 : Int)))
 (fun e => some e))
 fun y404 =>
 bindE (Y := (List ApiPair)) (E := (List ApiPair) × Int)
 (Option.bind (α := ((List ApiPair)) ⊕ ((List ApiPair) × Int))
 (loop (Y := (List ApiPair) × Int) (W := ((List ApiPair)) ⊕ ((List ApiPair) × Int)) (fun (y469, y470) =>
 bif (decide (y470 < (p0.Indexes.length : Int))) then
 Option.bind (getI p0.Indexes y470) fun v483 =>
 Option.bind (ref18_tree v483.Tree) fun r485 =>
 bif (!r485) then
 some (Sum.inr (Sum.inr (([] : List ApiPair), (1 : Int))))
 else
 Option.bind (ref18_sub p0.Name ([105] : List UInt8) y470) fun _ =>
 Option.bind (getI p0.Indexes y470) fun v487 =>
 Option.bind (ref18_index v487) fun r489 =>
 bif decide ((y469.length + [(ApiPair.mk ((((([116] : List UInt8) ++ p0.Name) ++ ([0] : List UInt8)) ++ ([105] : List UInt8)) ++ [(u8i y470)]) r489)].length) * 32 ≤ room) then
 some (Sum.inl ((y469 ++ [(ApiPair.mk ((((([116] : List UInt8) ++ p0.Name) ++ ([0] : List UInt8)) ++ ([105] : List UInt8)) ++ [(u8i y470)]) r489)]), (w64 (y470 + (1 : Int)))))
 else none
 else
 some (Sum.inr (Sum.inl y469))) (y404, (0 : Int)))
 (Sum.elim (fun e => some (Sum.inl e)) (fun e => some (Sum.inr e))))
 (fun y459 =>
 some (y459, (0 : Int)))
 (fun e => some e)
 else none
theorem ref18_Pairs_ok (p0 : ApiTable) (r : (List ApiPair) × Int) (h0 : ref18_Pairs p0 = some r) : CallAt Tryz.prog 8 [.d (eApiTable p0)] [] (.tuple [.d ((eL 2 eApiPair) r.1), .d (eI r.2)]) [] := by
 unfold ref18_Pairs at h0
 refine fn0 [0] Tryz.func8 rfl rfl rfl rfl rfl ?_
 refine sr (s1 (bxo (k := 0) rfl rfl rfl) (s1 (asg (v := .d .nils) rfl) (sa rfl (sn (sq (SC.seqP h0 (fun y => ⟨mk 119 [(1, .ref 0 0 0), (17, .d (eB y))], [.box (.d (eApiTable p0))]⟩) ?_ ?_))))))
 ·intro u1_334 h1
  obtain ⟨r336, hq335, h1⟩ := ob h1
  refine SC.region (s1 (lod (v := .d (eApiTable p0)) rfl (ld_box ts26 ta26 rfl rfl)) (c0 (ref17_Check_ok p0 _ hq335) wf rfl rfl rfl cb23 rfl (fun _ => rfl) (fun _ => rfl) (s1 (bi rfl rfl q_i64_neq) (sm rfl (sp h1 (fun h1 => ?_) (fun h1 => ?_))))))
  ·have q := si h1; subst q
   exact kw rfl (kw rfl (kw rfl (kw rfl (s1 (pkt rfl rfl) (SO.nil ((wq rfl)))))))
  ·obtain ⟨r338, hq337, h1⟩ := ob h1; have q := si h1; subst q
   exact gw rfl (far (k := 4) rfl fo26_4 ts3 rfl) (gw rfl (lod rfl (ld_box ts3 ta3 rfl rfl)) (c0 (ref18_tree_ok p0.Tree _ hq337) (ww rfl) rfl rfl rfl cb24 rfl (fun _ => rfl) (fun _ => rfl) (gw rfl (nt rfl) (s1 (pkf rfl rfl) (SO.nil ((wq rfl)))))))
 ·rintro y333 h0
  refine cB h0 rfl (fun h0 => ?_) (fun h0 => ?_)
  ·have q := si h0; subst q
   exact sr (s1 (asg (v := .d .nils) rfl) (sa rfl (sn (SC.ret (finR (Wk.trans (Wk.env (e' := [(2, .d ((eL 2 eApiPair) ([] : List ApiPair))), (3, .d (eI (1 : Int)))]) (EW.cons (AW.nl _) (EW.cons (AW.refl _) EW.nil))) (wc (e' := [(2, .d ((eL 2 eApiPair) ([] : List ApiPair))), (3, .d (eI (1 : Int)))]) [] [] (by kernel_rfl) rfl (by kernel_rfl))) (lresT rfl (lresT rfl lresN)) rfl)))))
  ·obtain ⟨r340, hq339, h0⟩ := ob h0; obtain ⟨r342, hq341, h0⟩ := ob h0; obtain ⟨r344, hq343, h0⟩ := ob h0
   refine sk (sr (s1 (bld rfl (bd73_ )) (s1 (bxo (k := 1) rfl rfl rfl) (sa rfl (sn (sr (sm rfl (s1 (far (k := 4) rfl fo26_4 ts3 rfl) (s1 (lod rfl (ld_box ts3 ta3 rfl rfl)) ?_)))))))))
   refine s1 (cvo rfl (cv_i64_u64 un3 un41 p0.Tree)) (cq [1] [2] (ref01_Out_Num_ok (u64i p0.Tree) (2 : Int) _ hq339) wf rfl rfl rfl cb25 rfl rfl rfl rfl rfl rfl rfl rfl (sn (sr (sm rfl (s1 (far (k := 1) rfl fo26_1 ts22 rfl) (s1 (lod rfl (ld_box ts22 ta22 rfl rfl)) (s1 (len rfl rfl rfl (len_lst un22)) (s1 (cvo rfl (cv_i64_u64 un3 un41 (p0.Cols.length : Int))) (cq [1, 2] [3] (ref01_Out_Num_1_ok (u64i (p0.Cols.length : Int)) (1 : Int) r340 _ hq341) wf rfl rfl rfl cb25 rfl rfl rfl rfl rfl rfl rfl rfl ?_)))))))))
   refine sn (sr (sm rfl (s1 (far (k := 2) rfl fo26_2 ts23 rfl) (s1 (lod rfl (ld_box ts23 ta23 rfl rfl)) (s1 (len rfl rfl rfl (len_lst un23)) (s1 (cvo rfl (cv_i64_u64 un3 un41 (p0.Primary.length : Int))) (cq [1, 3] [4] (ref01_Out_Num_1_ok (u64i (p0.Primary.length : Int)) (1 : Int) r342 _ hq343) wf rfl rfl rfl cb25 rfl rfl rfl rfl rfl rfl rfl rfl (sn (SC.seqP h0 (fun y => ⟨mk 119 [(1, .ref 0 0 0), (4, .ref 1 0 0)], [.box (.d (eApiTable p0)), .box (.agg [.slc 2 1 0 y.length none]), .row 1 (List.map eU8 y) true]⟩) ?_ ?_)))))))))
   ·intro u1_362 h1
    obtain ⟨u2_374, h2, h1⟩ := ob h1
    refine sr (sa rfl (sn (SC.blk (SC.loopB h2 (fun y => ⟨mk 119 [(1, .ref 0 0 0), (4, .ref 1 0 0), (5, .d (eI y.1))], [.box (.d (eApiTable p0)), .box (.agg [.slc 2 1 0 y.2.length none]), .row 1 (List.map eU8 y.2) true]⟩) (wc [0, 1, 4] [0, 1] (by kernel_rfl) rfl (by kernel_rfl)) ?_))))
    intro n378
    rintro ⟨y366, y367⟩ w2_373 h3 hv3
    refine sq (sr (sm rfl (s1 (far (k := 2) rfl fo26_2 ts23 rfl) (s1 (lod rfl (ld_box ts23 ta23 rfl rfl)) (s1 (len rfl rfl rfl (len_lst un23)) (s1 (bi rfl rfl q_i64_lss) (sn (cB h3 rfl (fun h3 => ?_) (fun h3 => ?_)))))))))
    ·obtain ⟨v375, hv375, h3⟩ := ob h3; obtain ⟨r377, hq376, h3⟩ := ob h3
     refine sk (sq (SC.blk (SC.region (sm rfl (s1 (far (k := 2) rfl fo26_2 ts23 rfl) (s1 (lod rfl (ld_box ts23 ta23 rfl rfl)) (sm rfl (s1 (ial rfl rfl un23 ts3 (getI_some hv375).1 (map_get (getI_some hv375).2) rfl) (s1 (lod rfl (ld_rop ts3 ta3 rfl)) ?_)))))))))
     refine s1 (cvo rfl (cv_i64_u64 un3 un41 v375)) (cq [1, 2] [3] (ref01_Out_Num_1_ok (u64i v375) (1 : Int) y367 _ hq376) wf rfl rfl rfl cb25 rfl rfl rfl rfl rfl rfl rfl rfl (SO.nil ?_))
     change SC _ _ _ _ _
     have q := si h3; subst q
     exact SC.region (sm rfl (s1 (bi rfl rfl q_i64_add) (sa rfl (SO.nil (lf (wc [0, 1, 3] [0, 1] (by kernel_rfl) rfl (by kernel_rfl)))))))
    ·have q := si h3; subst q; have q : _ = _ := hv3; subst q; have q := si h1; subst q
     exact SC.exit ((wq rfl))
   ·rintro y361 h0
    obtain ⟨r380, hq379, h0⟩ := ob h0; obtain ⟨hg381, h0⟩ := gd h0
    refine sr (sm rfl (s1 (far (k := 3) rfl fo26_3 ts24 rfl) (s1 (lod rfl (ld_box ts24 ta24 rfl rfl)) (s1 (len rfl rfl rfl (len_lst un24)) (s1 (cvo rfl (cv_i64_u64 un3 un41 (p0.Indexes.length : Int))) (cq [1, 2] [3] (ref01_Out_Num_1_ok (u64i (p0.Indexes.length : Int)) (1 : Int) y361 _ hq379) wf rfl rfl rfl cb25 rfl rfl rfl rfl rfl rfl rfl rfl (sn (sd (by kernel_rfl) (t1 ([], false) (far (k := 0) rfl fo26_0 ts9 rfl) rfl ?_)))))))))
    refine t1 ([0], false) (lod rfl (ld_box ts9 ta9 rfl rfl)) rfl (t1 ([], false) (bi (v := .d (eS (([116] : List UInt8) ++ p0.Name))) rfl rfl (fun X Y => b_str_add _ X Y ([116] : List UInt8) p0.Name hg381)) rfl (t1 ([], false) (mv rfl) rfl (t1 ([], false) (nkr rfl) rfl (t1 ([], false) (far (k := 0) rfl fo73_0 ts57 rfl) rfl (t1 ([1], false) (lod rfl (ld_box ts57 ta57 rfl rfl)) rfl (t1 ([3], false) (cvo (v := .d (eS r380)) rfl (cv_bytes_str un57 un9 un5 (el_full (xs := r380) rfl) (fun _ hh => by cases hh))) rfl (t1 ([], false) (bld rfl (bd49_0_1 (([116] : List UInt8) ++ p0.Name) r380)) rfl (t1 ([4], true) (bsn (k := 4) (ds := List.map eApiPair [(ApiPair.mk (([116] : List UInt8) ++ p0.Name) r380)]) (off := 0) (l' := [(ApiPair.mk (([116] : List UInt8) ++ p0.Name) r380)].length) rfl un29 ei49 rfl rfl (by rfl) rfl rfl rfl) rfl (t1 ([], false) (asg rfl) rfl ?_)))))))))
    refine tn (by decide +kernel) (SC.seqP h0 (fun y => ⟨mk 119 [(1, .ref 0 0 0), (6, .slc 1 2 0 y.length none)], [.box (.d (eApiTable p0)), .row 2 (List.map eApiPair y) true]⟩) ?_ ?_)
    ·intro u1_405 h1
     obtain ⟨u2_421, h2, h1⟩ := ob h1
     refine sr (sa rfl (sn (SC.blk (SC.loopB h2 (fun y => ⟨mk 119 [(1, .ref 0 0 0), (6, .slc 1 2 0 y.1.length none), (7, .d (eI y.2))], [.box (.d (eApiTable p0)), .row 2 (List.map eApiPair y.1) true]⟩) (wc [0, 4] [0, 4] (by kernel_rfl) rfl (by kernel_rfl)) ?_))))
     intro n427
     rintro ⟨y411, y412⟩ w2_420 h3 hv3
     refine sq (sr (sm rfl (s1 (far (k := 1) rfl fo26_1 ts22 rfl) (s1 (lod rfl (ld_box ts22 ta22 rfl rfl)) (s1 (len rfl rfl rfl (len_lst un22)) (s1 (bi rfl rfl q_i64_lss) (sn (cB h3 rfl (fun h3 => ?_) (fun h3 => ?_)))))))))
     ·obtain ⟨_, hq422, h3⟩ := ob h3; obtain ⟨v423, hv423, h3⟩ := ob h3; obtain ⟨r425, hq424, h3⟩ := ob h3; obtain ⟨hg426, h3⟩ := gd h3
      refine sk (sq (SC.blk (SC.draws (by kernel_rfl) (t1 ([], false) (mv rfl) rfl (t1 ([], false) (far (k := 0) rfl fo26_0 ts9 rfl) rfl (t1 ([0], false) (lod rfl (ld_box ts9 ta9 rfl rfl)) rfl (t1 ([], false) (mv rfl) rfl (tc0 (ref18_sub_ok p0.Name ([99] : List UInt8) y412 _ hq422) wf rfl rfl rfl cb26 rfl (fun _ => rfl) (fun _ => rfl) (t1 ([], false) (far (k := 1) rfl fo26_1 ts22 rfl) rfl ?_)))))))))
      refine t1 ([0], false) (lod rfl (ld_box ts22 ta22 rfl rfl)) rfl (t1 ([], false) (mv rfl) rfl (t1 ([], false) (ial rfl rfl un22 ts45 (getI_some hv423).1 (map_get (getI_some hv423).2) rfl) rfl (t1 ([], false) (lod (v := .d (eApiColumn v423)) rfl (ld_rop ts45 ta45 rfl)) rfl (tc0 (ref18_column_ok v423 _ hq424) wf rfl rfl rfl cb27 rfl (fun _ => rfl) (fun _ => rfl) (t1 ([], false) (bld rfl (bd49_0_1 ((((([116] : List UInt8) ++ p0.Name) ++ ([0] : List UInt8)) ++ ([99] : List UInt8)) ++ [(u8i y412)]) r425)) rfl (t1 ([2], true) (bsn (k := 2) (ds := List.map eApiPair [(ApiPair.mk ((((([116] : List UInt8) ++ p0.Name) ++ ([0] : List UInt8)) ++ ([99] : List UInt8)) ++ [(u8i y412)]) r425)]) (off := 0) (l' := [(ApiPair.mk ((((([116] : List UInt8) ++ p0.Name) ++ ([0] : List UInt8)) ++ ([99] : List UInt8)) ++ [(u8i y412)]) r425)].length) rfl un29 ei49 rfl rfl (by rfl) rfl rfl rfl) rfl (t1 ([1, 2, 3], true) (app rfl rfl rfl rfl bc29 (aF (f := eApiPair) (xs := y411) (k := 3) rfl un29 ei49 rfl (el_full (xs := [(ApiPair.mk ((((([116] : List UInt8) ++ p0.Name) ++ ([0] : List UInt8)) ++ ([99] : List UInt8)) ++ [(u8i y412)]) r425)]) rfl) hg426 rfl)) rfl (t1 ([], false) (asg rfl) rfl (ST.nil (And.intro (by decide +kernel) ?_))))))))))
      change SC _ _ _ _ _
      have q := si h3; subst q
      exact SC.region (sm rfl (s1 (bi rfl rfl q_i64_add) (sa rfl (SO.nil (lf (wc [0, 3] [0, 3] (by kernel_rfl) rfl (by kernel_rfl)))))))
     ·have q := si h3; subst q; have q : _ = _ := hv3; subst q; have q := si h1; subst q
      exact SC.exit ((wq rfl))
    ·rintro y404 h0
     refine SC.seqB h0 (fun y => ⟨mk 119 [(6, .slc 0 2 0 y.length none)], [.row 2 (List.map eApiPair y) true]⟩) ?_ ?_
     ·intro u1_460 h1 h0
      obtain ⟨u2_482, h2, h1⟩ := ob h1
      refine sr (sa rfl (sn (SC.blk (SC.loopB h2 (fun y => ⟨mk 119 [(1, .ref 0 0 0), (6, .slc 1 2 0 y.1.length none), (8, .d (eI y.2))], [.box (.d (eApiTable p0)), .row 2 (List.map eApiPair y.1) true]⟩) (wq rfl) ?_))))
      intro n491
      rintro ⟨y469, y470⟩ w2_481 h3 hv3
      refine sq (sr (sm rfl (s1 (far (k := 3) rfl fo26_3 ts24 rfl) (s1 (lod rfl (ld_box ts24 ta24 rfl rfl)) (s1 (len rfl rfl rfl (len_lst un24)) (s1 (bi rfl rfl q_i64_lss) (sn (cB h3 rfl (fun h3 => ?_) (fun h3 => ?_)))))))))
      ·obtain ⟨v483, hv483, h3⟩ := ob h3; obtain ⟨r485, hq484, h3⟩ := ob h3
       refine sk (sq (SC.blk (sq (sr (s1 (far (k := 3) rfl fo26_3 ts24 rfl) (s1 (lod rfl (ld_box ts24 ta24 rfl rfl)) (sm rfl (s1 (ial rfl rfl un24 ts56 (getI_some hv483).1 (map_get (getI_some hv483).2) rfl) (s1 (fap rfl fo56_5 ts3 rfl) ?_)))))))))
       refine s1 (lod rfl (ld_rop ts3 ta3 rfl)) (c0 (ref18_tree_ok v483.Tree _ hq484) wf rfl rfl rfl cb24 rfl (fun _ => rfl) (fun _ => rfl) (s1 (nt rfl) (sn (cB h3 rfl (fun h3 => ?_) (fun h3 => ?_)))))
       ·have q := si h3; subst q; have q : _ = _ := hv3; subst q; have q := si h1; subst q; have q := si h0; subst q
        exact sr (s1 (asg (v := .d .nils) rfl) (sa rfl (sn (SC.ret (finR (Wk.trans (Wk.env (e' := [(2, .d ((eL 2 eApiPair) ([] : List ApiPair))), (3, .d (eI (1 : Int)))]) (EW.cons (AW.nl _) (EW.cons (AW.refl _) EW.nil))) (wc (e' := [(2, .d ((eL 2 eApiPair) ([] : List ApiPair))), (3, .d (eI (1 : Int)))]) [] [] (by kernel_rfl) rfl (by kernel_rfl))) (lresT rfl (lresT rfl lresN)) rfl)))))
       ·obtain ⟨_, hq486, h3⟩ := ob h3; obtain ⟨v487, hv487, h3⟩ := ob h3; obtain ⟨r489, hq488, h3⟩ := ob h3; obtain ⟨hg490, h3⟩ := gd h3
        refine sk (SC.draws (by kernel_rfl) (t1 ([], false) (mv rfl) rfl (t1 ([], false) (far (k := 0) rfl fo26_0 ts9 rfl) rfl (t1 ([0], false) (lod rfl (ld_box ts9 ta9 rfl rfl)) rfl (t1 ([], false) (mv rfl) rfl (tc0 (ref18_sub_ok p0.Name ([105] : List UInt8) y470 _ hq486) wf rfl rfl rfl cb26 rfl (fun _ => rfl) (fun _ => rfl) (t1 ([], false) (far (k := 3) rfl fo26_3 ts24 rfl) rfl (t1 ([0], false) (lod rfl (ld_box ts24 ta24 rfl rfl)) rfl (t1 ([], false) (mv rfl) rfl ?_)))))))))
        refine t1 ([], false) (ial rfl rfl un24 ts56 (getI_some hv487).1 (map_get (getI_some hv487).2) rfl) rfl (t1 ([], false) (lod (v := .d (eApiIndex v487)) rfl (ld_rop ts56 ta56 rfl)) rfl (tc0 (ref18_index_ok v487 _ hq488) wf rfl rfl rfl cb28 rfl (fun _ => rfl) (fun _ => rfl) (t1 ([], false) (bld rfl (bd49_0_1 ((((([116] : List UInt8) ++ p0.Name) ++ ([0] : List UInt8)) ++ ([105] : List UInt8)) ++ [(u8i y470)]) r489)) rfl (t1 ([2], true) (bsn (k := 2) (ds := List.map eApiPair [(ApiPair.mk ((((([116] : List UInt8) ++ p0.Name) ++ ([0] : List UInt8)) ++ ([105] : List UInt8)) ++ [(u8i y470)]) r489)]) (off := 0) (l' := [(ApiPair.mk ((((([116] : List UInt8) ++ p0.Name) ++ ([0] : List UInt8)) ++ ([105] : List UInt8)) ++ [(u8i y470)]) r489)].length) rfl un29 ei49 rfl rfl (by rfl) rfl rfl rfl) rfl (t1 ([1, 2, 3], true) (app rfl rfl rfl rfl bc29 (aF (f := eApiPair) (xs := y469) (k := 3) rfl un29 ei49 rfl (el_full (xs := [(ApiPair.mk ((((([116] : List UInt8) ++ p0.Name) ++ ([0] : List UInt8)) ++ ([105] : List UInt8)) ++ [(u8i y470)]) r489)]) rfl) hg490 rfl)) rfl (t1 ([], false) (asg rfl) rfl (ST.nil (And.intro (by decide +kernel) ?_))))))))
        change SC _ _ _ _ _
        have q := si h3; subst q
        exact SC.region (sm rfl (s1 (bi rfl rfl q_i64_add) (sa rfl (SO.nil (lf (wc [0, 3] [0, 3] (by kernel_rfl) rfl (by kernel_rfl)))))))
      ·have q := si h3; subst q; have q : _ = _ := hv3; subst q; have q := si h1; subst q
       exact SC.exit (lf (wc [1] [1] (by kernel_rfl) rfl (by kernel_rfl)))
     ·rintro y459 h0
      have q := si h0; subst q
      exact sr (sm rfl (sa rfl (sa rfl (sn (SC.ret (finR (Wk.trans (Wk.frz (i := 2) (x := .slc 0 2 0 y459.length none) rfl rfl (fF rfl rfl rfl)) (wc (e' := [(2, .d ((eL 2 eApiPair) y459)), (3, .d (eI (0 : Int)))]) [] [] (by kernel_rfl) rfl (by kernel_rfl))) (lresT rfl (lresT rfl lresN)) rfl))))))
noncomputable def raw_Pairs (p0 : List ApiPair) (p1 : List ApiPair) : Option Bool :=
 bif ((p0.length : Int) != (p1.length : Int)) then
 some false
 else
 bindE (Y := Unit) (E := Bool)
 (Option.bind (α := Unit ⊕ Bool)
 (loop (Y := Int) (W := Unit ⊕ Bool) (fun y62 =>
 bif (decide (y62 < (p0.length : Int))) then
 Option.bind (getI p0 y62) fun v68 =>
 Option.bind (getI p1 y62) fun v69 =>
 bif (!(eqApiPair v68 v69)) then
 some (Sum.inr (Sum.inr false))
 else
 some (Sum.inl (w64 (y62 + (1 : Int))))
 else
 some (Sum.inr (Sum.inl ()))) (0 : Int))
 (Sum.elim (fun e => some (Sum.inl e)) (fun e => some (Sum.inr e))))
 (fun _ =>
 some true)
 (fun e => some e)
theorem raw_Pairs_ok (p0 : List ApiPair) (p1 : List ApiPair) (r : Bool) (h0 : raw_Pairs p0 p1 = some r) : CallAt Tryz.prog 9 [.d ((eL 2 eApiPair) p0), .d ((eL 2 eApiPair) p1)] [] (.d (eB r)) [] := by
 unfold raw_Pairs at h0
 refine fn0 [0, 1] Tryz.func9 rfl rfl rfl rfl rfl ?_
 refine sr (sa rfl (sn (sq (sr (sm rfl (s1 (len rfl rfl rfl (len_lst un29)) (sm rfl (s1 (len rfl rfl rfl (len_lst un29)) (s1 (bi rfl rfl q_i64_neq) ?_)))))))))
 refine sn (cB h0 rfl (fun h0 => ?_) (fun h0 => ?_))
 ·have q := si h0; subst q
  exact sr (sa rfl (sn (SC.ret (finR (Wk.refl _) (lresT rfl lresN) rfl))))
 ·refine sk (SC.seqB h0 (fun y => ⟨mk 26 [], []⟩) ?_ ?_)
  ·intro u1_59 h1 h0
   obtain ⟨u2_67, h2, h1⟩ := ob h1
   refine sr (sa rfl (sn (SC.blk (SC.loopB h2 (fun y => ⟨mk 26 [(0, .d ((eL 2 eApiPair) p0)), (1, .d ((eL 2 eApiPair) p1)), (5, .d (eI y))], []⟩) (wq rfl) ?_))))
   intro n70
   rintro y62 w2_66 h3 hv3
   refine sq (sr (sm rfl (sm rfl (s1 (len rfl rfl rfl (len_lst un29)) (s1 (bi rfl rfl q_i64_lss) (sn (cB h3 rfl (fun h3 => ?_) (fun h3 => ?_))))))))
   ·obtain ⟨v68, hv68, h3⟩ := ob h3; obtain ⟨v69, hv69, h3⟩ := ob h3
    refine sk (sq (SC.blk (sd (by kernel_rfl) (t1 ([], false) (mv rfl) rfl (t1 ([], false) (mv rfl) rfl (t1 ([], false) (ial rfl rfl un29 ts49 (getI_some hv68).1 (map_get (getI_some hv68).2) rfl) rfl (t1 ([], false) (lod (v := .d (eApiPair v68)) rfl (ld_rop ts49 ta49 rfl)) rfl (t1 ([], false) (mv rfl) rfl (t1 ([], false) (mv rfl) rfl ?_)))))))))
    refine t1 ([], false) (ial rfl rfl un29 ts49 (getI_some hv69).1 (map_get (getI_some hv69).2) rfl) rfl (t1 ([], false) (lod (v := .d (eApiPair v69)) rfl (ld_rop ts49 ta49 rfl)) rfl (t1 ([], false) (bi (v := .d (eB (!(eqApiPair v68 v69)))) rfl rfl (fun X Y => eqApiPair_neq_49 X Y v68 v69)) rfl (tn (by decide +kernel) (cB h3 rfl (fun h3 => ?_) (fun h3 => ?_)))))
    ·have q := si h3; subst q; have q : _ = _ := hv3; subst q; have q := si h1; subst q; have q := si h0; subst q
     exact sr (sa rfl (sn (SC.ret (finR (Wk.refl _) (lresT rfl lresN) rfl))))
    ·refine SC.skip ?_
     change SC _ _ _ _ _
     have q := si h3; subst q
     exact SC.region (sm rfl (s1 (bi rfl rfl q_i64_add) (sa rfl (SO.nil (lf (wq rfl))))))
   ·have q := si h3; subst q; have q : _ = _ := hv3; subst q; have q := si h1; subst q
    exact SC.exit (lf (wq rfl))
  ·intro _ h0
   have q := si h0; subst q
   exact sr (sa rfl (sn (SC.ret (finR (Wk.refl _) (lresT rfl lresN) rfl))))
end Lv
