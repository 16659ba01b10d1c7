/- Part of the proof of a law: functions and their walks. -/
import Derived.Test.YtjnpmmiacggffaaGreatDoorXFn1
namespace Lv
open Go Go.Proofs
set_option linter.unusedVariables false
set_option linter.unusedSimpArgs false
set_option linter.unusedSectionVars false
set_option maxRecDepth 100000
variable [BaseTab] [TabOk]
noncomputable def ref06_utf8 (p0 : List UInt8) : Option Bool :=
 bindE (Y := Unit) (E := Bool)
 (Option.bind (α := Unit ⊕ Bool)
 (loop (Y := Int) (W := Unit ⊕ Bool) (fun y878 =>
 bif (decide (y878 < (p0.length : Int))) then
 Option.bind (getI p0 y878) fun v935 =>
 bindE (Y := Int × Int × Int) (E := Bool)
 (bif (decide ((v935.toNat : Int) < (128 : Int))) then
 some (Sum.inl ((1 : Int), (0 : Int), (v935.toNat : Int)))
 else
 Option.bind (α := Bool)
 (bif (decide ((v935.toNat : Int) ≥ (194 : Int))) then
 some (decide ((v935.toNat : Int) < (224 : Int)))
 else
 some false)
 fun y946 =>
 bif y946 then
 some (Sum.inl ((2 : Int), (128 : Int), (w64 ((v935.toNat : Int) - (192 : Int)))))
 else
 Option.bind (α := Bool)
 (bif (decide ((v935.toNat : Int) ≥ (224 : Int))) then
 some (decide ((v935.toNat : Int) < (240 : Int)))
 else
 some false)
 fun y948 =>
 bif y948 then
 some (Sum.inl ((3 : Int), (2048 : Int), (w64 ((v935.toNat : Int) - (224 : Int)))))
 else
 Option.bind (α := Bool)
 (bif (decide ((v935.toNat : Int) ≥ (240 : Int))) then
 some (decide ((v935.toNat : Int) < (245 : Int)))
 else
 some false)
 fun y950 =>
 bif y950 then
 some (Sum.inl ((4 : Int), (65536 : Int), (w64 ((v935.toNat : Int) - (240 : Int)))))
 else
 some (Sum.inr false))
 (fun (y942, y943, y944) =>
 bif (decide ((w64 (y878 + y942)) > (p0.length : Int))) then
 some (Sum.inr (Sum.inr false))
 else
 bindE (Y := Int) (E := Bool)
 (Option.bind (α := Int ⊕ Bool)
 (loop (Y := Int × Int) (W := Int ⊕ Bool) (fun (y973, y974) =>
 bif (decide (y974 < y942)) then
 Option.bind (getI p0 (w64 (y878 + y974))) fun v982 =>
 Option.bind (α := Bool)
 (bif (decide ((v982.toNat : Int) < (128 : Int))) then
 some true
 else
 some (decide ((v982.toNat : Int) ≥ (192 : Int))))
 fun y983 =>
 bif y983 then
 some (Sum.inr (Sum.inr false))
 else
 some (Sum.inl ((w64 ((w64 ((w64 (y973 * (64 : Int))) + (v982.toNat : Int))) - (128 : Int))), (w64 (y974 + (1 : Int)))))
 else
 some (Sum.inr (Sum.inl y973))) (y944, (1 : Int)))
 (Sum.elim (fun e => some (Sum.inl e)) (fun e => some (Sum.inr e))))
 (fun y968 =>
 Option.bind (α := Bool)
 (bif (decide (y968 < y943)) then
 some true
 else
 bif (decide (y968 > (1114111 : Int))) then
 some true
 else
 bif (decide (y968 ≥ (55296 : Int))) then
 some (decide (y968 < (57344 : Int)))
 else
 some false)
 fun y986 =>
 bif y986 then
 some (Sum.inr (Sum.inr false))
 else
 some (Sum.inl (w64 (y878 + y942))))
 (fun e => some (Sum.inr (Sum.inr e))))
 (fun e => some (Sum.inr (Sum.inr e)))
 else
 some (Sum.inr (Sum.inl ()))) (0 : Int))
 (Sum.elim (fun e => some (Sum.inl e)) (fun e => some (Sum.inr e))))
 (fun _ =>
 some true)
 (fun e => some e)
theorem ref06_utf8_ok (p0 : List UInt8) (r : Bool) (h0 : ref06_utf8 p0 = some r) : CallAt Tryz.prog 116 [.d (eS p0)] [] (.d (eB r)) [] := by
 unfold ref06_utf8 at h0
 refine fn0 [0] Tryz.func116 rfl rfl rfl rfl rfl ?_
 refine sr (sa rfl (sn (SC.seqB h0 (fun y => ⟨mk 95 [], []⟩) ?_ ?_)))
 ·intro u1_824 h1 h0
  obtain ⟨u2_934, h2, h1⟩ := ob h1
  refine sr (sa rfl (sn (SC.blk (SC.loopB h2 (fun y => ⟨mk 95 [(0, .d (eS p0)), (3, .d (eI y))], []⟩) (wq rfl) ?_))))
  intro n988
  rintro y878 w2_933 h3 hv3
  refine sq (sr (sm rfl (sm rfl (s1 (len rfl rfl rfl (len_str un9)) (s1 (bi rfl rfl q_i64_lss) (sn (cB h3 rfl (fun h3 => ?_) (fun h3 => ?_))))))))
  ·obtain ⟨v935, hv935, h3⟩ := ob h3
   refine sk (SC.blk (sr (sm rfl (sm rfl (s1 (ixs rfl rfl rfl rfl (ix_str un9 (getI_some hv935).1 (getI_some hv935).2)) (s1 (cvo rfl (cv_u8_i64 un5 un3 v935)) (sa rfl (sn (sr ?_)))))))))
   refine sa rfl (sn (sr (sa rfl (sn (sr (sm rfl (sa rfl (sn (SC.seqB h3 (fun y => ⟨mk 95 [(0, .d (eS p0)), (3, .d (eI y878)), (5, .d (eI y.1)), (6, .d (eI y.2.1)), (7, .d (eI y.2.2))], []⟩) ?_ ?_)))))))))
   ·intro u4_945 h4 h3
    refine SC.blk (sr (sm rfl (s1 (bi rfl rfl q_i64_lss) (sa rfl (sn (cB h4 rfl (fun h4 => ?_) (fun h4 => ?_)))))))
    ·have q := si h4; subst q
     exact SC.skip (lf (wq rfl))
    ·refine SC.seqP h4 (fun y => ⟨mk 95 [(0, .d (eS p0)), (3, .d (eI y878)), (4, .d (eI (v935.toNat : Int))), (22, .d (eB y))], []⟩) ?_ ?_
     ·intro u5_947 h5
      refine SC.region (sm rfl (s1 (bi rfl rfl q_i64_geq) (sm rfl (sp h5 (fun h5 => ?_) (fun h5 => ?_)))))
      ·have q := si h5; subst q
       exact gw rfl (mv rfl) (gw rfl (bi rfl rfl q_i64_lss) (s1 (pkt rfl rfl) (sa rfl (SO.nil ((wq rfl))))))
      ·have q := si h5; subst q
       exact kw rfl (kw rfl (s1 (pkf rfl rfl) (sa rfl (SO.nil ((wq rfl))))))
     ·rintro y946 h4
      refine cB h4 rfl (fun h4 => ?_) (fun h4 => ?_)
      ·have q := si h4; subst q
       exact SC.region (sm rfl (s1 (bi rfl rfl q_i64_sub) (sa rfl (sa rfl (sa rfl (SO.nil (lf (wq rfl))))))))
      ·refine SC.seqP h4 (fun y => ⟨mk 95 [(0, .d (eS p0)), (3, .d (eI y878)), (4, .d (eI (v935.toNat : Int))), (31, .d (eB y))], []⟩) ?_ ?_
       ·intro u5_949 h5
        refine SC.region (sm rfl (s1 (bi rfl rfl q_i64_geq) (sm rfl (sp h5 (fun h5 => ?_) (fun h5 => ?_)))))
        ·have q := si h5; subst q
         exact gw rfl (mv rfl) (gw rfl (bi rfl rfl q_i64_lss) (s1 (pkt rfl rfl) (sa rfl (SO.nil ((wq rfl))))))
        ·have q := si h5; subst q
         exact kw rfl (kw rfl (s1 (pkf rfl rfl) (sa rfl (SO.nil ((wq rfl))))))
       ·rintro y948 h4
        refine cB h4 rfl (fun h4 => ?_) (fun h4 => ?_)
        ·have q := si h4; subst q
         exact SC.region (sm rfl (s1 (bi rfl rfl q_i64_sub) (sa rfl (sa rfl (sa rfl (SO.nil (lf (wq rfl))))))))
        ·refine SC.seqP h4 (fun y => ⟨mk 95 [(0, .d (eS p0)), (3, .d (eI y878)), (4, .d (eI (v935.toNat : Int))), (40, .d (eB y))], []⟩) ?_ ?_
         ·intro u5_951 h5
          refine SC.region (sm rfl (s1 (bi rfl rfl q_i64_geq) (sm rfl (sp h5 (fun h5 => ?_) (fun h5 => ?_)))))
          ·have q := si h5; subst q
           exact gw rfl (mv rfl) (gw rfl (bi rfl rfl q_i64_lss) (s1 (pkt rfl rfl) (sa rfl (SO.nil ((wq rfl))))))
          ·have q := si h5; subst q
           exact kw rfl (kw rfl (s1 (pkf rfl rfl) (sa rfl (SO.nil ((wq rfl))))))
         ·rintro y950 h4
          refine cB h4 rfl (fun h4 => ?_) (fun h4 => ?_)
          ·have q := si h4; subst q
           exact SC.region (sm rfl (s1 (bi rfl rfl q_i64_sub) (sa rfl (sa rfl (sa rfl (SO.nil (lf (wq rfl))))))))
          ·have q := si h4; subst q; have q := si h3; subst q; have q : _ = _ := hv3; subst q; have q := si h1; subst q; have q := si h0; subst q
           exact sr (sa rfl (sn (SC.ret (finR (Wk.refl _) (lresT rfl lresN) rfl))))
   ·rintro ⟨y942, y943, y944⟩ h3
    refine sq (sr (sm rfl (sm rfl (s1 (bi rfl rfl q_i64_add) (sm rfl (s1 (len rfl rfl rfl (len_str un9)) (s1 (bi rfl rfl q_i64_gtr) (sn (cB h3 rfl (fun h3 => ?_) (fun h3 => ?_))))))))))
    ·have q := si h3; subst q; have q : _ = _ := hv3; subst q; have q := si h1; subst q; have q := si h0; subst q
     exact sr (sa rfl (sn (SC.ret (finR (Wk.refl _) (lresT rfl lresN) rfl))))
    ·refine sk (SC.seqB h3 (fun y => ⟨mk 95 [(0, .d (eS p0)), (3, .d (eI y878)), (5, .d (eI y942)), (6, .d (eI y943)), (7, .d (eI y))], []⟩) ?_ ?_)
     ·intro u4_969 h4 h3
      obtain ⟨u5_981, h5, h4⟩ := ob h4
      refine sr (sa rfl (sn (SC.blk (SC.loopB h5 (fun y => ⟨mk 95 [(0, .d (eS p0)), (3, .d (eI y878)), (5, .d (eI y942)), (6, .d (eI y943)), (7, .d (eI y.1)), (8, .d (eI y.2))], []⟩) (wq rfl) ?_))))
      intro n985
      rintro ⟨y973, y974⟩ w5_980 h6 hv6
      refine sq (sr (sm rfl (sm rfl (s1 (bi rfl rfl q_i64_lss) (sn (cB h6 rfl (fun h6 => ?_) (fun h6 => ?_)))))))
      ·obtain ⟨v982, hv982, h6⟩ := ob h6
       refine sk (sq (SC.blk (sr (sm rfl (sm rfl (sm rfl (s1 (bi rfl rfl q_i64_add) (s1 (ixs rfl rfl rfl rfl (ix_str un9 (getI_some hv982).1 (getI_some hv982).2)) (s1 (cvo rfl (cv_u8_i64 un5 un3 v982)) ?_)))))))))
       refine sa rfl (sn (sq (SC.seqP h6 (fun y => ⟨mk 95 [(0, .d (eS p0)), (3, .d (eI y878)), (5, .d (eI y942)), (6, .d (eI y943)), (7, .d (eI y973)), (8, .d (eI y974)), (9, .d (eI (v982.toNat : Int))), (71, .d (eB y))], []⟩) ?_ ?_)))
       ·intro u7_984 h7
        refine SC.region (sm rfl (s1 (bi rfl rfl q_i64_lss) (sm rfl (sp h7 (fun h7 => ?_) (fun h7 => ?_)))))
        ·have q := si h7; subst q
         exact kw rfl (kw rfl (s1 (pkt rfl rfl) (SO.nil ((wq rfl)))))
        ·have q := si h7; subst q
         exact gw rfl (mv rfl) (gw rfl (bi rfl rfl q_i64_geq) (s1 (pkf rfl rfl) (SO.nil ((wq rfl)))))
       ·rintro y983 h6
        refine cB h6 rfl (fun h6 => ?_) (fun h6 => ?_)
        ·have q := si h6; subst q; have q : _ = _ := hv6; subst q; have q := si h4; subst q; have q := si h3; subst q; have q : _ = _ := hv3; subst q; have q := si h1; subst q; have q := si h0; subst q
         exact sr (sa rfl (sn (SC.ret (finR (Wk.refl _) (lresT rfl lresN) rfl))))
        ·refine sk (SC.region (sm rfl (s1 (bi rfl rfl q_i64_mul) (sm rfl (s1 (bi rfl rfl q_i64_add) (s1 (bi rfl rfl q_i64_sub) (sa rfl (SO.nil ?_))))))))
         change SC _ _ _ _ _
         have q := si h6; subst q
         exact SC.region (sm rfl (s1 (bi rfl rfl q_i64_add) (sa rfl (SO.nil (lf (wq rfl))))))
      ·have q := si h6; subst q; have q : _ = _ := hv6; subst q; have q := si h4; subst q
       exact SC.exit (lf (wq rfl))
     ·rintro y968 h3
      refine sq (SC.seqP h3 (fun y => ⟨mk 95 [(0, .d (eS p0)), (3, .d (eI y878)), (5, .d (eI y942)), (91, .d (eB y))], []⟩) ?_ ?_)
      ·intro u4_987 h4
       refine SC.region (sm rfl (sm rfl (s1 (bi rfl rfl q_i64_lss) (sm rfl (sp h4 (fun h4 => ?_) (fun h4 => ?_))))))
       ·have q := si h4; subst q
        refine kw rfl (kw rfl (s1 (pkt rfl rfl) (sm rfl (kw rfl (kw rfl (kw rfl (kw rfl (kw rfl (kw rfl ?_)))))))))
        exact s1 (pkt rfl rfl) (SO.nil ((wq rfl)))
       ·refine gw rfl (mv rfl) (gw rfl (bi rfl rfl q_i64_gtr) (s1 (pkf rfl rfl) (sm rfl (sp h4 (fun h4 => ?_) (fun h4 => ?_)))))
        ·have q := si h4; subst q
         exact kw rfl (kw rfl (kw rfl (kw rfl (kw rfl (kw rfl (s1 (pkt rfl rfl) (SO.nil ((wq rfl)))))))))
        ·refine gw rfl (mv rfl) (gw rfl (bi rfl rfl q_i64_geq) (gw rfl (mv rfl) (sp h4 (fun h4 => ?_) (fun h4 => ?_))))
         ·have q := si h4; subst q
          exact gw rfl (mv rfl) (gw rfl (bi rfl rfl q_i64_lss) (gw rfl (pkt rfl rfl) (s1 (pkf rfl rfl) (SO.nil ((wq rfl))))))
         ·have q := si h4; subst q
          exact kw rfl (kw rfl (gw rfl (pkf rfl rfl) (s1 (pkf rfl rfl) (SO.nil ((wq rfl))))))
      ·rintro y986 h3
       refine cB h3 rfl (fun h3 => ?_) (fun h3 => ?_)
       ·have q := si h3; subst q; have q : _ = _ := hv3; subst q; have q := si h1; subst q; have q := si h0; subst q
        exact sr (sa rfl (sn (SC.ret (finR (Wk.refl _) (lresT rfl lresN) rfl))))
       ·have q := si h3; subst q
        exact sk (SC.region (sm rfl (sm rfl (s1 (bi rfl rfl q_i64_add) (sa rfl (SO.nil (lf (wq rfl))))))))
  ·have q := si h3; subst q; have q : _ = _ := hv3; subst q; have q := si h1; subst q
   exact SC.exit (lf (wq rfl))
 ·intro _ h0
  have q := si h0; subst q
  exact sr (sa rfl (sn (SC.ret (finR (Wk.refl _) (lresT rfl lresN) rfl))))
noncomputable def ref06_Valid (p0 : ApiValue) : Option Bool :=
 bif (p0.Kind == (0 : Int)) then
 Option.bind (α := Bool)
 (bif (p0.N == (0 : UInt64)) then
 some (p0.S == ([] : List UInt8))
 else
 some false)
 fun y30 =>
 some y30
 else
 Option.bind (α := Bool)
 (bif (p0.Kind == (1 : Int)) then
 some (p0.Kind == (1 : Int))
 else
 some (p0.Kind == (2 : Int)))
 fun y32 =>
 bif y32 then
 some (p0.S == ([] : List UInt8))
 else
 bif (p0.Kind == (3 : Int)) then
 Option.bind (α := Bool)
 (bif (decide (p0.N < (2 : UInt64))) then
 some (p0.S == ([] : List UInt8))
 else
 some false)
 fun y34 =>
 some y34
 else
 bif (p0.Kind == (4 : Int)) then
 Option.bind (α := Bool)
 (bif (p0.N == (0 : UInt64)) then
 some (decide ((p0.S.length : Int) ≤ (64 : Int)))
 else
 some false)
 fun y36 =>
 some y36
 else
 bif (p0.Kind == (5 : Int)) then
 Option.bind (α := Bool)
 (bif (p0.N == (0 : UInt64)) then
 bif (decide ((p0.S.length : Int) ≤ (64 : Int))) then
 Option.bind (ref06_utf8 p0.S) fun r43 =>
 some r43
 else
 some false
 else
 some false)
 fun y40 =>
 some y40
 else
 some false
theorem ref06_Valid_ok (p0 : ApiValue) (r : Bool) (h0 : ref06_Valid p0 = some r) : CallAt Tryz.prog 71 [.d (eApiValue p0)] [] (.d (eB r)) [] := by
 unfold ref06_Valid at h0
 refine fn0 [0] Tryz.func71 rfl rfl rfl rfl rfl ?_
 refine sr (s1 (bxo (k := 0) rfl rfl rfl) (sa rfl (sn (sq (sr (s1 (far (k := 0) rfl fo74_0 ts3 rfl) (s1 (lod rfl (ld_box ts3 ta3 rfl rfl)) (sn (SC.blk ?_)))))))))
 refine sr (s1 (bi rfl rfl q_i64_eql) (sa rfl (sn (cB h0 rfl (fun h0 => ?_) (fun h0 => ?_)))))
 ·refine SC.seqP h0 (fun y => ⟨mk 58 [(2, .d (eB y))], []⟩) ?_ ?_
  ·intro u1_31 h1
   refine SC.region (s1 (far (k := 1) rfl fo74_1 ts72 rfl) (s1 (lod rfl (ld_box ts72 ta72 rfl rfl)) (s1 (bi rfl rfl (q_u64_eql (b := (0 : UInt64)))) (sm rfl (sp h1 (fun h1 => ?_) (fun h1 => ?_))))))
   ·have q := si h1; subst q
    exact gw rfl (far (k := 2) rfl fo74_2 ts9 rfl) (gw rfl (lod rfl (ld_box ts9 ta9 rfl rfl)) (gw rfl (bi rfl rfl (q_str_eql (b := ([] : List UInt8)))) (s1 (pkt rfl rfl) (sa rfl (SO.nil ((wc [] [] (by kernel_rfl) rfl (by kernel_rfl))))))))
   ·have q := si h1; subst q
    exact kw rfl (kw rfl (kw rfl (s1 (pkf rfl rfl) (sa rfl (SO.nil ((wc [] [] (by kernel_rfl) rfl (by kernel_rfl))))))))
  ·rintro y30 h0
   have q := si h0; subst q
   exact SC.ret (finR (Wk.refl _) (lresT rfl lresN) rfl)
 ·refine SC.seqP h0 (fun y => ⟨mk 58 [(1, .ref 0 0 0), (4, .d (eI p0.Kind)), (15, .d (eB y))], [.box (.d (eApiValue p0))]⟩) ?_ ?_
  ·intro u1_33 h1
   refine sr (s1 (bi rfl rfl q_i64_eql) (sa rfl (sn (cB h1 rfl (fun h1 => ?_) (fun h1 => ?_)))))
   ·have q := si h1; subst q
    exact SC.skip ((wq rfl))
   ·have q := si h1; subst q
    exact SC.region (s1 (bi rfl rfl q_i64_eql) (sa rfl (SO.nil ((wq rfl)))))
  ·rintro y32 h0
   refine cB h0 rfl (fun h0 => ?_) (fun h0 => ?_)
   ·have q := si h0; subst q
    exact sr (s1 (far (k := 2) rfl fo74_2 ts9 rfl) (s1 (lod rfl (ld_box ts9 ta9 rfl rfl)) (s1 (bi rfl rfl (q_str_eql (b := ([] : List UInt8)))) (sa rfl (sn (SC.ret (finR (wc (e' := [(2, .d (eB (p0.S == ([] : List UInt8))))]) [] [] (by kernel_rfl) rfl (by kernel_rfl)) (lresT rfl lresN) rfl)))))))
   ·refine sr (s1 (bi rfl rfl q_i64_eql) (sa rfl (sn (cB h0 rfl (fun h0 => ?_) (fun h0 => ?_)))))
    ·refine SC.seqP h0 (fun y => ⟨mk 58 [(2, .d (eB y))], []⟩) ?_ ?_
     ·intro u1_35 h1
      refine SC.region (s1 (far (k := 1) rfl fo74_1 ts72 rfl) (s1 (lod rfl (ld_box ts72 ta72 rfl rfl)) (s1 (bi rfl rfl (q_u64_lss (b := (2 : UInt64)))) (sm rfl (sp h1 (fun h1 => ?_) (fun h1 => ?_))))))
      ·have q := si h1; subst q
       exact gw rfl (far (k := 2) rfl fo74_2 ts9 rfl) (gw rfl (lod rfl (ld_box ts9 ta9 rfl rfl)) (gw rfl (bi rfl rfl (q_str_eql (b := ([] : List UInt8)))) (s1 (pkt rfl rfl) (sa rfl (SO.nil ((wc [] [] (by kernel_rfl) rfl (by kernel_rfl))))))))
      ·have q := si h1; subst q
       exact kw rfl (kw rfl (kw rfl (s1 (pkf rfl rfl) (sa rfl (SO.nil ((wc [] [] (by kernel_rfl) rfl (by kernel_rfl))))))))
     ·rintro y34 h0
      have q := si h0; subst q
      exact SC.ret (finR (Wk.refl _) (lresT rfl lresN) rfl)
    ·refine sr (s1 (bi rfl rfl q_i64_eql) (sa rfl (sn (cB h0 rfl (fun h0 => ?_) (fun h0 => ?_)))))
     ·refine SC.seqP h0 (fun y => ⟨mk 58 [(2, .d (eB y))], []⟩) ?_ ?_
      ·intro u1_37 h1
       refine SC.region (s1 (far (k := 1) rfl fo74_1 ts72 rfl) (s1 (lod rfl (ld_box ts72 ta72 rfl rfl)) (s1 (bi rfl rfl (q_u64_eql (b := (0 : UInt64)))) (sm rfl (sp h1 (fun h1 => ?_) (fun h1 => ?_))))))
       ·have q := si h1; subst q
        exact gw rfl (far (k := 2) rfl fo74_2 ts9 rfl) (gw rfl (lod rfl (ld_box ts9 ta9 rfl rfl)) (gw rfl (len rfl rfl rfl (len_str un9)) (gw rfl (bi rfl rfl q_i64_leq) (s1 (pkt rfl rfl) (sa rfl (SO.nil ((wc [] [] (by kernel_rfl) rfl (by kernel_rfl)))))))))
       ·have q := si h1; subst q
        exact kw rfl (kw rfl (kw rfl (kw rfl (s1 (pkf rfl rfl) (sa rfl (SO.nil ((wc [] [] (by kernel_rfl) rfl (by kernel_rfl)))))))))
      ·rintro y36 h0
       have q := si h0; subst q
       exact SC.ret (finR (Wk.refl _) (lresT rfl lresN) rfl)
     ·refine sr (s1 (bi rfl rfl q_i64_eql) (sa rfl (sn (cB h0 rfl (fun h0 => ?_) (fun h0 => ?_)))))
      ·refine SC.seqP h0 (fun y => ⟨mk 58 [(2, .d (eB y))], []⟩) ?_ ?_
       ·intro u1_41 h1
        refine SC.region (s1 (far (k := 1) rfl fo74_1 ts72 rfl) (s1 (lod rfl (ld_box ts72 ta72 rfl rfl)) (s1 (bi rfl rfl (q_u64_eql (b := (0 : UInt64)))) (sm rfl (sp h1 (fun h1 => ?_) (fun h1 => ?_))))))
        ·refine gw rfl (far (k := 2) rfl fo74_2 ts9 rfl) (gw rfl (lod rfl (ld_box ts9 ta9 rfl rfl)) (gw rfl (len rfl rfl rfl (len_str un9)) (gw rfl (bi rfl rfl q_i64_leq) (s1 (pkt rfl rfl) (sm rfl (sp h1 (fun h1 => ?_) (fun h1 => ?_)))))))
         ·obtain ⟨r43, hq42, h1⟩ := ob h1; have q := si h1; subst q
          exact gw rfl (far (k := 2) rfl fo74_2 ts9 rfl) (gw rfl (lod rfl (ld_box ts9 ta9 rfl rfl)) (c0 (ref06_utf8_ok p0.S _ hq42) (ww rfl) rfl rfl rfl cb116 rfl (fun _ => rfl) (fun _ => rfl) (s1 (pkt rfl rfl) (sa rfl (SO.nil ((wc [] [] (by kernel_rfl) rfl (by kernel_rfl))))))))
         ·have q := si h1; subst q
          exact kw rfl (kw rfl (kw rfl (s1 (pkf rfl rfl) (sa rfl (SO.nil ((wc [] [] (by kernel_rfl) rfl (by kernel_rfl))))))))
        ·have q := si h1; subst q
         refine kw rfl (kw rfl (kw rfl (kw rfl (s1 (pkf rfl rfl) (sm rfl (kw rfl (kw rfl (kw rfl (s1 (pkf rfl rfl) ?_)))))))))
         exact sa rfl (SO.nil ((wc [] [] (by kernel_rfl) rfl (by kernel_rfl))))
       ·rintro y40 h0
        have q := si h0; subst q
        exact SC.ret (finR (Wk.refl _) (lresT rfl lresN) rfl)
      ·refine SC.skip ?_
       change SC _ _ _ _ _
       have q := si h0; subst q
       exact sr (sa rfl (sn (SC.ret (finR (wc (e' := [(2, .d (eB false))]) [] [] (by kernel_rfl) rfl (by kernel_rfl)) (lresT rfl lresN) rfl))))
noncomputable def ref06_Fits (p0 : ApiColumn) (p1 : ApiValue) : Option Int :=
 Option.bind (α := Bool)
 (Option.bind (ref06_Valid p1) fun r23 =>
 bif (!r23) then
 some true
 else
 bif (p1.Kind == (0 : Int)) then
 bif (!p0.Nulls) then
 some true
 else
 bif (p1.Kind != (0 : Int)) then
 some (p1.Kind != p0.Kind)
 else
 some false
 else
 bif (p1.Kind != (0 : Int)) then
 some (p1.Kind != p0.Kind)
 else
 some false)
 fun y20 =>
 bif y20 then
 some (8 : Int)
 else
 Option.bind (α := Bool)
 (bif (p1.Kind == (4 : Int)) then
 some (decide ((p1.S.length : Int) > p0.Max))
 else
 bif (p1.Kind == (5 : Int)) then
 some (decide ((p1.S.length : Int) > p0.Max))
 else
 some false)
 fun y24 =>
 bif y24 then
 some (7 : Int)
 else
 some (0 : Int)
theorem ref06_Fits_ok (p0 : ApiColumn) (p1 : ApiValue) (r : Int) (h0 : ref06_Fits p0 p1 = some r) : CallAt Tryz.prog 63 [.d (eApiColumn p0), .d (eApiValue p1)] [] (.d (eI r)) [] := by
 unfold ref06_Fits at h0
 refine fn0 [0, 1] Tryz.func63 rfl rfl rfl rfl rfl ?_
 refine sr (s1 (bxo (k := 0) rfl rfl rfl) (s1 (bxo (k := 1) rfl rfl rfl) (sa rfl (sn (sq (SC.seqP h0 (fun y => ⟨mk 46 [(2, .ref 0 0 0), (3, .ref 1 0 0), (29, .d (eB y))], [.box (.d (eApiColumn p0)), .box (.d (eApiValue p1))]⟩) ?_ ?_))))))
 ·intro u1_21 h1
  obtain ⟨r23, hq22, h1⟩ := ob h1
  refine SC.region (s1 (lod (v := .d (eApiValue p1)) rfl (ld_box ts74 ta74 rfl rfl)) (c0 (ref06_Valid_ok p1 _ hq22) wf rfl rfl rfl cb71 rfl (fun _ => rfl) (fun _ => rfl) (s1 (nt rfl) (sm rfl (sp h1 (fun h1 => ?_) (fun h1 => ?_))))))
  ·have q := si h1; subst q
   refine kw rfl (kw rfl (kw rfl (kw rfl (kw rfl (kw rfl (kw rfl (kw rfl (s1 (pkt rfl rfl) (sm rfl ?_)))))))))
   refine kw rfl (kw rfl (kw rfl (kw rfl (kw rfl (kw rfl (kw rfl (kw rfl (kw rfl (kw rfl ?_)))))))))
   exact s1 (pkt rfl rfl) (SO.nil ((wq rfl)))
  ·refine gw rfl (far (k := 0) rfl fo74_0 ts3 rfl) (gw rfl (lod rfl (ld_box ts3 ta3 rfl rfl)) (gw rfl (bi rfl rfl q_i64_eql) (gw rfl (mv rfl) (sp h1 (fun h1 => ?_) (fun h1 => ?_)))))
   ·refine gw rfl (far (k := 3) rfl fo76_3 ts4 rfl) (gw rfl (lod rfl (ld_box ts4 ta4 rfl rfl)) (gw rfl (nt rfl) (gw rfl (pkt rfl rfl) (s1 (pkf rfl rfl) (sm rfl (sp h1 (fun h1 => ?_) (fun h1 => ?_)))))))
    ·have q := si h1; subst q
     refine kw rfl (kw rfl (kw rfl (kw rfl (kw rfl (kw rfl (kw rfl (kw rfl (kw rfl (kw rfl ?_)))))))))
     exact s1 (pkt rfl rfl) (SO.nil ((wq rfl)))
    ·refine gw rfl (far (k := 0) rfl fo74_0 ts3 rfl) (gw rfl (lod rfl (ld_box ts3 ta3 rfl rfl)) (gw rfl (bi rfl rfl q_i64_neq) (gw rfl (mv rfl) (sp h1 (fun h1 => ?_) (fun h1 => ?_)))))
     ·have q := si h1; subst q
      exact gw rfl (far (k := 0) rfl fo74_0 ts3 rfl) (gw rfl (lod rfl (ld_box ts3 ta3 rfl rfl)) (gw rfl (far (k := 1) rfl fo76_1 ts3 rfl) (gw rfl (lod rfl (ld_box ts3 ta3 rfl rfl)) (gw rfl (bi rfl rfl q_i64_neq) (gw rfl (pkt rfl rfl) (s1 (pkf rfl rfl) (SO.nil ((wq rfl)))))))))
     ·have q := si h1; subst q
      exact kw rfl (kw rfl (kw rfl (kw rfl (kw rfl (gw rfl (pkf rfl rfl) (s1 (pkf rfl rfl) (SO.nil ((wq rfl)))))))))
   ·refine kw rfl (kw rfl (kw rfl (gw rfl (pkf rfl rfl) (s1 (pkf rfl rfl) (sm rfl (gw rfl (far (k := 0) rfl fo74_0 ts3 rfl) (gw rfl (lod rfl (ld_box ts3 ta3 rfl rfl)) (gw rfl (bi rfl rfl q_i64_neq) (gw rfl (mv rfl) ?_)))))))))
    refine sp h1 (fun h1 => ?_) (fun h1 => ?_)
    ·have q := si h1; subst q
     exact gw rfl (far (k := 0) rfl fo74_0 ts3 rfl) (gw rfl (lod rfl (ld_box ts3 ta3 rfl rfl)) (gw rfl (far (k := 1) rfl fo76_1 ts3 rfl) (gw rfl (lod rfl (ld_box ts3 ta3 rfl rfl)) (gw rfl (bi rfl rfl q_i64_neq) (gw rfl (pkt rfl rfl) (s1 (pkf rfl rfl) (SO.nil ((wq rfl)))))))))
    ·have q := si h1; subst q
     exact kw rfl (kw rfl (kw rfl (kw rfl (kw rfl (gw rfl (pkf rfl rfl) (s1 (pkf rfl rfl) (SO.nil ((wq rfl)))))))))
 ·rintro y20 h0
  refine cB h0 rfl (fun h0 => ?_) (fun h0 => ?_)
  ·have q := si h0; subst q
   exact sr (sa rfl (sn (SC.ret (finR (wc (e' := [(4, .d (eI (8 : Int)))]) [] [] (by kernel_rfl) rfl (by kernel_rfl)) (lresT rfl lresN) rfl))))
  ·refine sk (sq (SC.seqP h0 (fun y => ⟨mk 46 [(45, .d (eB y))], []⟩) ?_ ?_))
   ·intro u1_25 h1
    refine SC.region (s1 (far (k := 0) rfl fo74_0 ts3 rfl) (s1 (lod rfl (ld_box ts3 ta3 rfl rfl)) (s1 (bi rfl rfl q_i64_eql) (sm rfl (sp h1 (fun h1 => ?_) (fun h1 => ?_))))))
    ·have q := si h1; subst q
     refine kw rfl (kw rfl (kw rfl (s1 (pkt rfl rfl) (sm rfl (gw rfl (far (k := 2) rfl fo74_2 ts9 rfl) (gw rfl (lod rfl (ld_box ts9 ta9 rfl rfl)) (gw rfl (len rfl rfl rfl (len_str un9)) (gw rfl (far (k := 2) rfl fo76_2 ts3 rfl) (gw rfl (lod rfl (ld_box ts3 ta3 rfl rfl)) ?_)))))))))
     exact gw rfl (bi rfl rfl q_i64_gtr) (s1 (pkt rfl rfl) (SO.nil ((wc [] [] (by kernel_rfl) rfl (by kernel_rfl)))))
    ·refine gw rfl (far (k := 0) rfl fo74_0 ts3 rfl) (gw rfl (lod rfl (ld_box ts3 ta3 rfl rfl)) (gw rfl (bi rfl rfl q_i64_eql) (s1 (pkf rfl rfl) (sm rfl (sp h1 (fun h1 => ?_) (fun h1 => ?_))))))
     ·have q := si h1; subst q
      exact gw rfl (far (k := 2) rfl fo74_2 ts9 rfl) (gw rfl (lod rfl (ld_box ts9 ta9 rfl rfl)) (gw rfl (len rfl rfl rfl (len_str un9)) (gw rfl (far (k := 2) rfl fo76_2 ts3 rfl) (gw rfl (lod rfl (ld_box ts3 ta3 rfl rfl)) (gw rfl (bi rfl rfl q_i64_gtr) (s1 (pkt rfl rfl) (SO.nil ((wc [] [] (by kernel_rfl) rfl (by kernel_rfl))))))))))
     ·have q := si h1; subst q
      exact kw rfl (kw rfl (kw rfl (kw rfl (kw rfl (kw rfl (s1 (pkf rfl rfl) (SO.nil ((wc [] [] (by kernel_rfl) rfl (by kernel_rfl))))))))))
   ·rintro y24 h0
    refine cB h0 rfl (fun h0 => ?_) (fun h0 => ?_)
    ·have q := si h0; subst q
     exact sr (sa rfl (sn (SC.ret (finR (Wk.refl _) (lresT rfl lresN) rfl))))
    ·have q := si h0; subst q
     exact sk (sr (sa rfl (sn (SC.ret (finR (Wk.refl _) (lresT rfl lresN) rfl)))))
noncomputable def ref06_Column (p0 : ApiColumn) : Option Int :=
 Option.bind (ref06_Name p0.Name) fun r19 =>
 bif (!r19) then
 some (1 : Int)
 else
 Option.bind (α := Bool)
 (bif (decide (p0.Kind < (1 : Int))) then
 some true
 else
 some (decide (p0.Kind > (5 : Int))))
 fun y20 =>
 bif y20 then
 some (8 : Int)
 else
 Option.bind (α := Bool)
 (bif (decide (p0.Kind < (4 : Int))) then
 bif (p0.Max != (0 : Int)) then
 some true
 else
 bif (decide (p0.Kind > (3 : Int))) then
 bif (decide (p0.Max < (1 : Int))) then
 some true
 else
 some (decide (p0.Max > (64 : Int)))
 else
 some false
 else
 bif (decide (p0.Kind > (3 : Int))) then
 bif (decide (p0.Max < (1 : Int))) then
 some true
 else
 some (decide (p0.Max > (64 : Int)))
 else
 some false)
 fun y22 =>
 bif y22 then
 some (7 : Int)
 else
 Option.bind (ref06_Fits p0 p0.Default) fun r25 =>
 some r25
theorem ref06_Column_ok (p0 : ApiColumn) (r : Int) (h0 : ref06_Column p0 = some r) : CallAt Tryz.prog 27 [.d (eApiColumn p0)] [] (.d (eI r)) [] := by
 unfold ref06_Column at h0
 refine fn0 [0] Tryz.func27 rfl rfl rfl rfl rfl ?_
 obtain ⟨r19, hq18, h0⟩ := ob h0
 refine sr (s1 (bxo (k := 0) rfl rfl rfl) (sa rfl (sn (sq (sr (s1 (far (k := 0) rfl fo76_0 ts9 rfl) (s1 (lod rfl (ld_box ts9 ta9 rfl rfl)) (c0 (ref06_Name_ok p0.Name _ hq18) wf rfl rfl rfl cb26 rfl (fun _ => rfl) (fun _ => rfl) (s1 (nt rfl) ?_)))))))))
 refine sn (cB h0 rfl (fun h0 => ?_) (fun h0 => ?_))
 ·have q := si h0; subst q
  exact sr (sa rfl (sn (SC.ret (finR (wc (e' := [(2, .d (eI (1 : Int)))]) [] [] (by kernel_rfl) rfl (by kernel_rfl)) (lresT rfl lresN) rfl))))
 ·refine sk (sq (SC.seqP h0 (fun y => ⟨mk 42 [(1, .ref 0 0 0), (14, .d (eB y))], [.box (.d (eApiColumn p0))]⟩) ?_ ?_))
  ·intro u1_21 h1
   refine SC.region (s1 (far (k := 1) rfl fo76_1 ts3 rfl) (s1 (lod rfl (ld_box ts3 ta3 rfl rfl)) (s1 (bi rfl rfl q_i64_lss) (sm rfl (sp h1 (fun h1 => ?_) (fun h1 => ?_))))))
   ·have q := si h1; subst q
    exact kw rfl (kw rfl (kw rfl (s1 (pkt rfl rfl) (SO.nil ((wq rfl))))))
   ·have q := si h1; subst q
    exact gw rfl (far (k := 1) rfl fo76_1 ts3 rfl) (gw rfl (lod rfl (ld_box ts3 ta3 rfl rfl)) (gw rfl (bi rfl rfl q_i64_gtr) (s1 (pkf rfl rfl) (SO.nil ((wq rfl))))))
  ·rintro y20 h0
   refine cB h0 rfl (fun h0 => ?_) (fun h0 => ?_)
   ·have q := si h0; subst q
    exact sr (sa rfl (sn (SC.ret (finR (wc (e' := [(2, .d (eI (8 : Int)))]) [] [] (by kernel_rfl) rfl (by kernel_rfl)) (lresT rfl lresN) rfl))))
   ·refine sk (sq (SC.seqP h0 (fun y => ⟨mk 42 [(1, .ref 0 0 0), (37, .d (eB y))], [.box (.d (eApiColumn p0))]⟩) ?_ ?_))
    ·intro u1_23 h1
     refine SC.region (s1 (far (k := 1) rfl fo76_1 ts3 rfl) (s1 (lod rfl (ld_box ts3 ta3 rfl rfl)) (s1 (bi rfl rfl q_i64_lss) (sm rfl (sp h1 (fun h1 => ?_) (fun h1 => ?_))))))
     ·refine gw rfl (far (k := 2) rfl fo76_2 ts3 rfl) (gw rfl (lod rfl (ld_box ts3 ta3 rfl rfl)) (gw rfl (bi rfl rfl q_i64_neq) (s1 (pkt rfl rfl) (sm rfl (sp h1 (fun h1 => ?_) (fun h1 => ?_))))))
      ·have q := si h1; subst q
       refine kw rfl (kw rfl (kw rfl (kw rfl (kw rfl (kw rfl (kw rfl (kw rfl (kw rfl (kw rfl ?_)))))))))
       exact kw rfl (kw rfl (kw rfl (s1 (pkt rfl rfl) (SO.nil ((wq rfl))))))
      ·refine gw rfl (far (k := 1) rfl fo76_1 ts3 rfl) (gw rfl (lod rfl (ld_box ts3 ta3 rfl rfl)) (gw rfl (bi rfl rfl q_i64_gtr) (gw rfl (mv rfl) (sp h1 (fun h1 => ?_) (fun h1 => ?_)))))
       ·refine gw rfl (far (k := 2) rfl fo76_2 ts3 rfl) (gw rfl (lod rfl (ld_box ts3 ta3 rfl rfl)) (gw rfl (bi rfl rfl q_i64_lss) (gw rfl (mv rfl) (sp h1 (fun h1 => ?_) (fun h1 => ?_)))))
        ·have q := si h1; subst q
         exact kw rfl (kw rfl (kw rfl (gw rfl (pkt rfl rfl) (gw rfl (pkt rfl rfl) (s1 (pkf rfl rfl) (SO.nil ((wq rfl))))))))
        ·have q := si h1; subst q
         exact gw rfl (far (k := 2) rfl fo76_2 ts3 rfl) (gw rfl (lod rfl (ld_box ts3 ta3 rfl rfl)) (gw rfl (bi rfl rfl q_i64_gtr) (gw rfl (pkf rfl rfl) (gw rfl (pkt rfl rfl) (s1 (pkf rfl rfl) (SO.nil ((wq rfl))))))))
       ·have q := si h1; subst q
        refine kw rfl (kw rfl (kw rfl (kw rfl (kw rfl (kw rfl (kw rfl (kw rfl (gw rfl (pkf rfl rfl) (s1 (pkf rfl rfl) ?_)))))))))
        exact SO.nil ((wq rfl))
     ·refine kw rfl (kw rfl (kw rfl (s1 (pkf rfl rfl) (sm rfl (gw rfl (far (k := 1) rfl fo76_1 ts3 rfl) (gw rfl (lod rfl (ld_box ts3 ta3 rfl rfl)) (gw rfl (bi rfl rfl q_i64_gtr) (gw rfl (mv rfl) (sp h1 (fun h1 => ?_) (fun h1 => ?_))))))))))
      ·refine gw rfl (far (k := 2) rfl fo76_2 ts3 rfl) (gw rfl (lod rfl (ld_box ts3 ta3 rfl rfl)) (gw rfl (bi rfl rfl q_i64_lss) (gw rfl (mv rfl) (sp h1 (fun h1 => ?_) (fun h1 => ?_)))))
       ·have q := si h1; subst q
        exact kw rfl (kw rfl (kw rfl (gw rfl (pkt rfl rfl) (gw rfl (pkt rfl rfl) (s1 (pkf rfl rfl) (SO.nil ((wq rfl))))))))
       ·have q := si h1; subst q
        exact gw rfl (far (k := 2) rfl fo76_2 ts3 rfl) (gw rfl (lod rfl (ld_box ts3 ta3 rfl rfl)) (gw rfl (bi rfl rfl q_i64_gtr) (gw rfl (pkf rfl rfl) (gw rfl (pkt rfl rfl) (s1 (pkf rfl rfl) (SO.nil ((wq rfl))))))))
      ·have q := si h1; subst q
       refine kw rfl (kw rfl (kw rfl (kw rfl (kw rfl (kw rfl (kw rfl (kw rfl (gw rfl (pkf rfl rfl) (s1 (pkf rfl rfl) ?_)))))))))
       exact SO.nil ((wq rfl))
    ·rintro y22 h0
     refine cB h0 rfl (fun h0 => ?_) (fun h0 => ?_)
     ·have q := si h0; subst q
      exact sr (sa rfl (sn (SC.ret (finR (wc (e' := [(2, .d (eI (7 : Int)))]) [] [] (by kernel_rfl) rfl (by kernel_rfl)) (lresT rfl lresN) rfl))))
     ·obtain ⟨r25, hq24, h0⟩ := ob h0; have q := si h0; subst q
      exact sk (sr (s1 (lod (v := .d (eApiColumn p0)) rfl (ld_box ts76 ta76 rfl rfl)) (s1 (far (k := 4) rfl fo76_4 ts74 rfl) (s1 (lod (v := .d (eApiValue p0.Default)) rfl (ld_box ts74 ta74 rfl rfl)) (c0 (ref06_Fits_ok p0 p0.Default _ hq24) wf rfl rfl rfl cb63 rfl (fun _ => rfl) (fun _ => rfl) (sa rfl (sn (SC.ret (finR (wc (e' := [(2, .d (eI r25))]) [] [] (by kernel_rfl) rfl (by kernel_rfl)) (lresT rfl lresN) rfl)))))))))
noncomputable def ref17_Has (p0 : List Int) (p1 : Int) : Option Bool :=
 bindE (Y := Unit) (E := Bool)
 (Option.bind (α := Unit ⊕ Bool)
 (loop (Y := Int) (W := Unit ⊕ Bool) (fun y46 =>
 bif (decide (y46 < (p0.length : Int))) then
 Option.bind (getI p0 y46) fun v51 =>
 bif (v51 == p1) then
 some (Sum.inr (Sum.inr true))
 else
 some (Sum.inl (w64 (y46 + (1 : Int))))
 else
 some (Sum.inr (Sum.inl ()))) (0 : Int))
 (Sum.elim (fun e => some (Sum.inl e)) (fun e => some (Sum.inr e))))
 (fun _ =>
 some false)
 (fun e => some e)
theorem ref17_Has_ok (p0 : List Int) (p1 : Int) (r : Bool) (h0 : ref17_Has p0 p1 = some r) : CallAt Tryz.prog 40 [.d ((eL 1 eI) p0), .d (eI p1)] [] (.d (eB r)) [] := by
 unfold ref17_Has at h0
 refine fn0 [0, 1] Tryz.func40 rfl rfl rfl rfl rfl ?_
 refine sr (sa rfl (sn (SC.seqB h0 (fun y => ⟨mk 18 [], []⟩) ?_ ?_)))
 ·intro u1_44 h1 h0
  obtain ⟨u2_50, h2, h1⟩ := ob h1
  refine sr (sa rfl (sn (SC.blk (SC.loopB h2 (fun y => ⟨mk 18 [(0, .d ((eL 1 eI) p0)), (1, .d (eI p1)), (5, .d (eI y))], []⟩) (wq rfl) ?_))))
  intro n52
  rintro y46 w2_49 h3 hv3
  refine sq (sr (sm rfl (sm rfl (s1 (len rfl rfl rfl (len_lst un23)) (s1 (bi rfl rfl q_i64_lss) (sn (cB h3 rfl (fun h3 => ?_) (fun h3 => ?_))))))))
  ·obtain ⟨v51, hv51, h3⟩ := ob h3
   refine sk (sq (SC.blk (sr (sm rfl (sm rfl (s1 (ial rfl rfl un23 ts3 (getI_some hv51).1 (map_get (getI_some hv51).2) rfl) (s1 (lod rfl (ld_rop ts3 ta3 rfl)) (sm rfl (s1 (bi rfl rfl q_i64_eql) ?_)))))))))
   refine sn (cB h3 rfl (fun h3 => ?_) (fun h3 => ?_))
   ·have q := si h3; subst q; have q : _ = _ := hv3; subst q; have q := si h1; subst q; have q := si h0; subst q
    exact sr (sa rfl (sn (SC.ret (finR (Wk.refl _) (lresT rfl lresN) rfl))))
   ·refine SC.skip ?_
    change SC _ _ _ _ _
    have q := si h3; subst q
    exact SC.region (sm rfl (s1 (bi rfl rfl q_i64_add) (sa rfl (SO.nil (lf (wq rfl))))))
  ·have q := si h3; subst q; have q : _ = _ := hv3; subst q; have q := si h1; subst q
   exact SC.exit (lf (wq rfl))
 ·intro _ h0
  have q := si h0; subst q
  exact sr (sa rfl (sn (SC.ret (finR (Wk.refl _) (lresT rfl lresN) rfl))))
noncomputable def ref17_places (p0 : Int) (p1 : List Int) : Option Bool :=
 bindE (Y := Unit) (E := Bool)
 (Option.bind (α := Unit ⊕ Bool)
 (loop (Y := Int) (W := Unit ⊕ Bool) (fun y254 =>
 bif (decide (y254 < (p1.length : Int))) then
 Option.bind (α := Bool)
 (Option.bind (getI p1 y254) fun v280 =>
 bif (decide (v280 < (0 : Int))) then
 some true
 else
 Option.bind (getI p1 y254) fun v281 =>
 bif (decide (v281 ≥ p0)) then
 some true
 else
 bif decide (0 ≤ y254 ∧ y254 ≤ (p1.length : Int)) then
 Option.bind (getI p1 y254) fun v283 =>
 Option.bind (ref17_Has (List.take y254.toNat p1) v283) fun r285 =>
 some r285
 else none)
 fun y278 =>
 bif y278 then
 some (Sum.inr (Sum.inr false))
 else
 some (Sum.inl (w64 (y254 + (1 : Int))))
 else
 some (Sum.inr (Sum.inl ()))) (0 : Int))
 (Sum.elim (fun e => some (Sum.inl e)) (fun e => some (Sum.inr e))))
 (fun _ =>
 some true)
 (fun e => some e)
theorem ref17_places_ok (p0 : Int) (p1 : List Int) (r : Bool) (h0 : ref17_places p0 p1 = some r) : CallAt Tryz.prog 28 [.d (eI p0), .d ((eL 1 eI) p1)] [] (.d (eB r)) [] := by
 unfold ref17_places at h0
 refine fn0 [0, 1] Tryz.func28 rfl rfl rfl rfl rfl ?_
 refine sr (sa rfl (sn (SC.seqB h0 (fun y => ⟨mk 35 [], []⟩) ?_ ?_)))
 ·intro u1_239 h1 h0
  obtain ⟨u2_271, h2, h1⟩ := ob h1
  refine sr (sa rfl (sn (SC.blk (SC.loopB h2 (fun y => ⟨mk 35 [(0, .d (eI p0)), (1, .d ((eL 1 eI) p1)), (5, .d (eI y))], []⟩) (wq rfl) ?_))))
  intro n286
  rintro y254 w2_270 h3 hv3
  refine sq (sr (sm rfl (sm rfl (s1 (len rfl rfl rfl (len_lst un23)) (s1 (bi rfl rfl q_i64_lss) (sn (cB h3 rfl (fun h3 => ?_) (fun h3 => ?_))))))))
  ·refine sk (sq (SC.blk (SC.seqP h3 (fun y => ⟨mk 35 [(0, .d (eI p0)), (1, .d ((eL 1 eI) p1)), (5, .d (eI y254)), (34, .d (eB y))], []⟩) ?_ ?_)))
   ·intro u4_279 h4
    obtain ⟨v280, hv280, h4⟩ := ob h4
    refine SC.draws (by kernel_rfl) (t1 ([], false) (mv rfl) rfl (t1 ([], false) (mv rfl) rfl (t1 ([], false) (ial rfl rfl un23 ts3 (getI_some hv280).1 (map_get (getI_some hv280).2) rfl) rfl (t1 ([], false) (lod rfl (ld_rop ts3 ta3 rfl)) rfl (t1 ([], false) (bi rfl rfl q_i64_lss) rfl (t1 ([], false) (mv rfl) rfl (tp h4 (fun h4 => ?_) (fun h4 => ?_))))))))
    ·have q := si h4; subst q
     refine jw rfl (jw rfl (jw rfl (jw rfl (jw rfl (jw rfl (t1 ([], false) (pkt rfl rfl) rfl (t1 ([], false) (mv rfl) rfl (jw rfl (jw rfl ?_)))))))))
     refine jw rfl (jw rfl (jw rfl (jw rfl (jw rfl (jw rfl (t1 ([], false) (pkt rfl rfl) rfl (ST.nil (And.intro (by decide +kernel) ?_))))))))
     exact (wq rfl)
    ·obtain ⟨v281, hv281, h4⟩ := ob h4
     refine u1 ([], false) (ww rfl) (mv rfl) rfl (u1 ([], false) (ww rfl) (mv rfl) rfl (u1 ([], false) (ww rfl) (ial rfl rfl un23 ts3 (getI_some hv281).1 (map_get (getI_some hv281).2) rfl) rfl (u1 ([], false) (ww rfl) (lod rfl (ld_rop ts3 ta3 rfl)) rfl (u1 ([], false) (ww rfl) (mv rfl) rfl (u1 ([], false) (ww rfl) (bi rfl rfl q_i64_geq) rfl (t1 ([], false) (pkf rfl rfl) rfl (t1 ([], false) (mv rfl) rfl (tp h4 (fun h4 => ?_) (fun h4 => ?_)))))))))
     ·have q := si h4; subst q
      refine jw rfl (jw rfl (jw rfl (jw rfl (jw rfl (jw rfl (jw rfl (jw rfl (t1 ([], false) (pkt rfl rfl) rfl (ST.nil (And.intro (by decide +kernel) ?_))))))))))
      exact (wq rfl)
     ·obtain ⟨hg282, h4⟩ := gd h4; obtain ⟨v283, hv283, h4⟩ := ob h4; obtain ⟨r285, hq284, h4⟩ := ob h4; have q := si h4; subst q
      refine u1 ([], false) (ww rfl) (mv rfl) rfl (u1 ([], false) (ww rfl) (mv rfl) rfl (u1 ([], false) (ww rfl) (slo rfl rfl rfl rfl (sl_lst_hi un23 ts3 hg282)) rfl (u1 ([], false) (ww rfl) (mv rfl) rfl (u1 ([], false) (ww rfl) (mv rfl) rfl (u1 ([], false) (ww rfl) (ial rfl rfl un23 ts3 (getI_some hv283).1 (map_get (getI_some hv283).2) rfl) rfl (u1 ([], false) (ww rfl) (lod rfl (ld_rop ts3 ta3 rfl)) rfl (tc0 (ref17_Has_ok (List.take y254.toNat p1) v283 _ hq284) (ww rfl) rfl rfl rfl cb40 rfl (fun _ => rfl) (fun _ => rfl) (t1 ([], false) (pkf rfl rfl) rfl (ST.nil (And.intro (by decide +kernel) ?_))))))))))
      exact (wq rfl)
   ·rintro y278 h3
    refine cB h3 rfl (fun h3 => ?_) (fun h3 => ?_)
    ·have q := si h3; subst q; have q : _ = _ := hv3; subst q; have q := si h1; subst q; have q := si h0; subst q
     exact sr (sa rfl (sn (SC.ret (finR (Wk.refl _) (lresT rfl lresN) rfl))))
    ·refine SC.skip ?_
     change SC _ _ _ _ _
     have q := si h3; subst q
     exact SC.region (sm rfl (s1 (bi rfl rfl q_i64_add) (sa rfl (SO.nil (lf (wq rfl))))))
  ·have q := si h3; subst q; have q : _ = _ := hv3; subst q; have q := si h1; subst q
   exact SC.exit (lf (wq rfl))
 ·intro _ h0
  have q := si h0; subst q
  exact sr (sa rfl (sn (SC.ret (finR (Wk.refl _) (lresT rfl lresN) rfl))))
noncomputable def ref17_wide (p0 : ApiColumn) (p1 : Int) : Option Int :=
 Option.bind (α := Bool)
 (bif (p0.Kind == (1 : Int)) then
 some (p0.Kind == (1 : Int))
 else
 some (p0.Kind == (2 : Int)))
 fun y6 =>
 bif y6 then
 some (9 : Int)
 else
 bif (p0.Kind == (3 : Int)) then
 some (2 : Int)
 else
 some (w64 ((3 : Int) + (w64 (p1 * p0.Max))))
theorem ref17_wide_ok (p0 : ApiColumn) (p1 : Int) (r : Int) (h0 : ref17_wide p0 p1 = some r) : CallAt Tryz.prog 64 [.d (eApiColumn p0), .d (eI p1)] [] (.d (eI r)) [] := by
 unfold ref17_wide at h0
 refine fn0 [0, 1] Tryz.func64 rfl rfl rfl rfl rfl ?_
 refine sr (s1 (bxo (k := 0) rfl rfl rfl) (sa rfl (sn (sq (sr (s1 (far (k := 1) rfl fo76_1 ts3 rfl) (s1 (lod rfl (ld_box ts3 ta3 rfl rfl)) (sn (SC.blk ?_)))))))))
 refine SC.seqP h0 (fun y => ⟨mk 17 [(1, .d (eI p1)), (2, .ref 0 0 0), (6, .d (eI p0.Kind)), (7, .d (eB y))], [.box (.d (eApiColumn p0))]⟩) ?_ ?_
 ·intro u1_7 h1
  refine sr (s1 (bi rfl rfl q_i64_eql) (sa rfl (sn (cB h1 rfl (fun h1 => ?_) (fun h1 => ?_)))))
  ·have q := si h1; subst q
   exact SC.skip ((wq rfl))
  ·have q := si h1; subst q
   exact SC.region (s1 (bi rfl rfl q_i64_eql) (sa rfl (SO.nil ((wq rfl)))))
 ·rintro y6 h0
  refine cB h0 rfl (fun h0 => ?_) (fun h0 => ?_)
  ·have q := si h0; subst q
   exact sr (sa rfl (sn (SC.ret (finR (wc (e' := [(4, .d (eI (9 : Int)))]) [] [] (by kernel_rfl) rfl (by kernel_rfl)) (lresT rfl lresN) rfl))))
  ·refine sr (s1 (bi rfl rfl q_i64_eql) (sa rfl (sn (cB h0 rfl (fun h0 => ?_) (fun h0 => ?_)))))
   ·have q := si h0; subst q
    exact sr (sa rfl (sn (SC.ret (finR (wc (e' := [(4, .d (eI (2 : Int)))]) [] [] (by kernel_rfl) rfl (by kernel_rfl)) (lresT rfl lresN) rfl))))
   ·refine SC.skip ?_
    change SC _ _ _ _ _
    have q := si h0; subst q
    exact sr (sm rfl (s1 (far (k := 2) rfl fo76_2 ts3 rfl) (s1 (lod rfl (ld_box ts3 ta3 rfl rfl)) (s1 (bi rfl rfl q_i64_mul) (s1 (bi rfl rfl q_i64_add) (sa rfl (sn (SC.ret (finR (wc (e' := [(4, .d (eI (w64 ((3 : Int) + (w64 (p1 * p0.Max))))))]) [] [] (by kernel_rfl) rfl (by kernel_rfl)) (lresT rfl lresN) rfl)))))))))
noncomputable def ref17_RowMax (p0 : List ApiColumn) : Option Int :=
 Option.bind (α := Int)
 (Option.bind (α := Int)
 (loop (Y := Int × Int) (W := Int) (fun (y91, y92) =>
 bif (decide (y92 < (p0.length : Int))) then
 Option.bind (getI p0 y92) fun v100 =>
 Option.bind (ref17_wide v100 (1 : Int)) fun r102 =>
 some (Sum.inl ((w64 (y91 + r102)), (w64 (y92 + (1 : Int)))))
 else
 some (Sum.inr y91)) ((1 : Int), (0 : Int)))
 (fun e => some e))
 fun y86 =>
 some y86
theorem ref17_RowMax_ok (p0 : List ApiColumn) (r : Int) (h0 : ref17_RowMax p0 = some r) : CallAt Tryz.prog 29 [.d ((eL 7 eApiColumn) p0)] [] (.d (eI r)) [] := by
 unfold ref17_RowMax at h0
 refine fn0 [0] Tryz.func29 rfl rfl rfl rfl rfl ?_
 refine sr (sa rfl (sn (sr (sa rfl (sn (SC.seqP h0 (fun y => ⟨mk 19 [(3, .d (eI y))], []⟩) ?_ ?_))))))
 ·intro u1_87 h1
  obtain ⟨u2_99, h2, h1⟩ := ob h1
  refine sr (sa rfl (sn (SC.blk (SC.loopB h2 (fun y => ⟨mk 19 [(0, .d ((eL 7 eApiColumn) p0)), (3, .d (eI y.1)), (4, .d (eI y.2))], []⟩) (wq rfl) ?_))))
  intro n103
  rintro ⟨y91, y92⟩ w2_98 h3 hv3
  refine sq (sr (sm rfl (sm rfl (s1 (len rfl rfl rfl (len_lst un22)) (s1 (bi rfl rfl q_i64_lss) (sn (cB h3 rfl (fun h3 => ?_) (fun h3 => ?_))))))))
  ·obtain ⟨v100, hv100, h3⟩ := ob h3; obtain ⟨r102, hq101, h3⟩ := ob h3
   refine sk (sq (SC.blk (SC.region (sm rfl (sm rfl (sm rfl (s1 (ial rfl rfl un22 ts76 (getI_some hv100).1 (map_get (getI_some hv100).2) rfl) (s1 (lod (v := .d (eApiColumn v100)) rfl (ld_rop ts76 ta76 rfl)) (c0 (ref17_wide_ok v100 (1 : Int) _ hq101) wf rfl rfl rfl cb64 rfl (fun _ => rfl) (fun _ => rfl) ?_)))))))))
   refine s1 (bi rfl rfl q_i64_add) (sa rfl (SO.nil ?_))
   change SC _ _ _ _ _
   have q := si h3; subst q
   exact SC.region (sm rfl (s1 (bi rfl rfl q_i64_add) (sa rfl (SO.nil (lf (wq rfl))))))
  ·have q := si h3; subst q; have q : _ = _ := hv3; subst q; have q := si h1; subst q
   exact SC.exit ((wq rfl))
 ·rintro y86 h0
  have q := si h0; subst q
  exact sr (sm rfl (sa rfl (sn (SC.ret (finR (Wk.refl _) (lresT rfl lresN) rfl)))))
noncomputable def ref17_Up (p0 : List Int) : Option ((List ApiPart)) :=
 Option.bind (α := (List ApiPart))
 (Option.bind (α := (List ApiPart))
 (loop (Y := (List ApiPart) × Int) (W := (List ApiPart)) (fun (y75, y76) =>
 bif (decide (y76 < (p0.length : Int))) then
 Option.bind (getI p0 y76) fun v83 =>
 bif decide ((y75.length + [(ApiPart.mk v83 false)].length) * 16 ≤ room) then
 some (Sum.inl ((y75 ++ [(ApiPart.mk v83 false)]), (w64 (y76 + (1 : Int)))))
 else none
 else
 some (Sum.inr y75)) (([] : List ApiPart), (0 : Int)))
 (fun e => some e))
 fun y71 =>
 some y71
theorem ref17_Up_ok (p0 : List Int) (r : (List ApiPart)) (h0 : ref17_Up p0 = some r) : CallAt Tryz.prog 31 [.d ((eL 1 eI) p0)] [] (.d ((eL 2 eApiPart) r)) [] := by
 unfold ref17_Up at h0
 refine fn0 [0] Tryz.func31 rfl rfl rfl rfl rfl ?_
 refine sr (s1 (asg (v := .d .nils) rfl) (sn (sr (s1 (asg (v := .d .nils) rfl) (sn (SC.seqP h0 (fun y => ⟨mk 20 [(3, .slc 0 2 0 y.length none)], [.row 2 (List.map eApiPart y) true]⟩) ?_ ?_))))))
 ·intro u1_72 h1
  obtain ⟨u2_82, h2, h1⟩ := ob h1
  refine sr (sa rfl (sn (SC.blk (SC.loopB h2 (fun y => ⟨mk 20 [(0, .d ((eL 1 eI) p0)), (3, .slc 0 2 0 y.1.length none), (4, .d (eI y.2))], [.row 2 (List.map eApiPart y.1) true]⟩) (Wk.trans (Wk.pushE (σ' := [.row 2 (List.map eApiPart ([] : List ApiPart)) true]) (.row 2 [] true) (fun _ hh => by cases hh) rfl) (Wk.trans (Wk.env (e' := [(0, .d ((eL 1 eI) p0)), (3, .slc 0 2 0 (([] : List ApiPart).length) none), (4, .d (eI (0 : Int)))]) (EW.cons (AW.refl _) (EW.cons (AW.slcn _ _ _) (EW.cons (AW.refl _) EW.nil)))) (wq rfl))) ?_))))
  intro n85
  rintro ⟨y75, y76⟩ w2_81 h3 hv3
  refine sq (sr (sm rfl (sm rfl (s1 (len rfl rfl rfl (len_lst un23)) (s1 (bi rfl rfl q_i64_lss) (sn (cB h3 rfl (fun h3 => ?_) (fun h3 => ?_))))))))
  ·obtain ⟨v83, hv83, h3⟩ := ob h3; obtain ⟨hg84, h3⟩ := gd h3
   refine sk (sq (SC.blk (SC.region (sm rfl (sm rfl (sm rfl (s1 (ial rfl rfl un23 ts3 (getI_some hv83).1 (map_get (getI_some hv83).2) rfl) (s1 (lod rfl (ld_rop ts3 ta3 rfl)) (s1 (bld rfl (bd78_0 v83)) ?_)))))))))
   refine s1 (bsn (k := 1) (ds := List.map eApiPart [(ApiPart.mk v83 false)]) (off := 0) (l' := [(ApiPart.mk v83 false)].length) rfl un28 ei78 rfl rfl (by rfl) rfl rfl rfl) (s1 (app rfl rfl rfl rfl bc28 (aF (f := eApiPart) (xs := y75) (k := 2) rfl un28 ei78 rfl (el_full (xs := [(ApiPart.mk v83 false)]) rfl) hg84 rfl)) (sa rfl (SO.nil ?_)))
   change SC _ _ _ _ _
   have q := si h3; subst q
   exact SC.region (sm rfl (s1 (bi rfl rfl q_i64_add) (sa rfl (SO.nil (lf (wc [2] [2] (by kernel_rfl) rfl (by kernel_rfl)))))))
  ·have q := si h3; subst q; have q : _ = _ := hv3; subst q; have q := si h1; subst q
   exact SC.exit ((wq rfl))
 ·rintro y71 h0
  have q := si h0; subst q
  exact sr (sm rfl (sa rfl (sn (SC.ret (finR (Wk.trans (Wk.frz (i := 2) (x := .slc 0 2 0 y71.length none) rfl rfl (fF rfl rfl rfl)) (wc (e' := [(2, .d ((eL 2 eApiPart) y71))]) [] [] (by kernel_rfl) rfl (by kernel_rfl))) (lresT rfl lresN) rfl)))))
noncomputable def ref17_KeyMax (p0 : List ApiColumn) (p1 : List ApiPart) : Option Int :=
 Option.bind (α := Int)
 (Option.bind (α := Int)
 (loop (Y := Int × Int) (W := Int) (fun (y107, y108) =>
 bif (decide (y108 < (p1.length : Int))) then
 Option.bind (getI p1 y108) fun v117 =>
 Option.bind (getI p0 v117.Col) fun v118 =>
 Option.bind (ref17_wide v118 (2 : Int)) fun r120 =>
 some (Sum.inl ((w64 (y107 + r120)), (w64 (y108 + (1 : Int)))))
 else
 some (Sum.inr y107)) ((0 : Int), (0 : Int)))
 (fun e => some e))
 fun y101 =>
 some y101
theorem ref17_KeyMax_ok (p0 : List ApiColumn) (p1 : List ApiPart) (r : Int) (h0 : ref17_KeyMax p0 p1 = some r) : CallAt Tryz.prog 30 [.d ((eL 7 eApiColumn) p0), .d ((eL 2 eApiPart) p1)] [] (.d (eI r)) [] := by
 unfold ref17_KeyMax at h0
 refine fn0 [0, 1] Tryz.func30 rfl rfl rfl rfl rfl ?_
 refine sr (sa rfl (sn (sr (sa rfl (sn (SC.seqP h0 (fun y => ⟨mk 25 [(5, .d (eI y))], []⟩) ?_ ?_))))))
 ·intro u1_102 h1
  obtain ⟨u2_116, h2, h1⟩ := ob h1
  refine sr (sa rfl (sn (SC.blk (SC.loopB h2 (fun y => ⟨mk 25 [(0, .d ((eL 7 eApiColumn) p0)), (1, .d ((eL 2 eApiPart) p1)), (5, .d (eI y.1)), (6, .d (eI y.2))], []⟩) (wq rfl) ?_))))
  intro n121
  rintro ⟨y107, y108⟩ w2_115 h3 hv3
  refine sq (sr (sm rfl (sm rfl (s1 (len rfl rfl rfl (len_lst un28)) (s1 (bi rfl rfl q_i64_lss) (sn (cB h3 rfl (fun h3 => ?_) (fun h3 => ?_))))))))
  ·obtain ⟨v117, hv117, h3⟩ := ob h3; obtain ⟨v118, hv118, h3⟩ := ob h3; obtain ⟨r120, hq119, h3⟩ := ob h3
   refine sk (sq (SC.blk (SC.region (sm rfl (sm rfl (sm rfl (sm rfl (s1 (ial rfl rfl un28 ts78 (getI_some hv117).1 (map_get (getI_some hv117).2) rfl) (s1 (fap rfl fo78_0 ts3 rfl) ?_)))))))))
   refine s1 (lod rfl (ld_rop ts3 ta3 rfl)) (s1 (ial rfl rfl un22 ts76 (getI_some hv118).1 (map_get (getI_some hv118).2) rfl) (s1 (lod (v := .d (eApiColumn v118)) rfl (ld_rop ts76 ta76 rfl)) (c0 (ref17_wide_ok v118 (2 : Int) _ hq119) wf rfl rfl rfl cb64 rfl (fun _ => rfl) (fun _ => rfl) (s1 (bi rfl rfl q_i64_add) (sa rfl (SO.nil ?_))))))
   change SC _ _ _ _ _
   have q := si h3; subst q
   exact SC.region (sm rfl (s1 (bi rfl rfl q_i64_add) (sa rfl (SO.nil (lf (wq rfl))))))
  ·have q := si h3; subst q; have q : _ = _ := hv3; subst q; have q := si h1; subst q
   exact SC.exit ((wq rfl))
 ·rintro y101 h0
  have q := si h0; subst q
  exact sr (sm rfl (sa rfl (sn (SC.ret (finR (Wk.refl _) (lresT rfl lresN) rfl)))))
noncomputable def ref17_Cols (p0 : List ApiPart) : Option ((List Int)) :=
 Option.bind (α := (List Int))
 (Option.bind (α := (List Int))
 (loop (Y := (List Int) × Int) (W := (List Int)) (fun (y75, y76) =>
 bif (decide (y76 < (p0.length : Int))) then
 Option.bind (getI p0 y76) fun v83 =>
 bif decide ((y75.length + [v83.Col].length) * 8 ≤ room) then
 some (Sum.inl ((y75 ++ [v83.Col]), (w64 (y76 + (1 : Int)))))
 else none
 else
 some (Sum.inr y75)) (([] : List Int), (0 : Int)))
 (fun e => some e))
 fun y71 =>
 some y71
theorem ref17_Cols_ok (p0 : List ApiPart) (r : (List Int)) (h0 : ref17_Cols p0 = some r) : CallAt Tryz.prog 41 [.d ((eL 2 eApiPart) p0)] [] (.d ((eL 1 eI) r)) [] := by
 unfold ref17_Cols at h0
 refine fn0 [0] Tryz.func41 rfl rfl rfl rfl rfl ?_
 refine sr (s1 (asg (v := .d .nils) rfl) (sn (sr (s1 (asg (v := .d .nils) rfl) (sn (SC.seqP h0 (fun y => ⟨mk 20 [(3, .slc 0 1 0 y.length none)], [.row 1 (List.map eI y) true]⟩) ?_ ?_))))))
 ·intro u1_72 h1
  obtain ⟨u2_82, h2, h1⟩ := ob h1
  refine sr (sa rfl (sn (SC.blk (SC.loopB h2 (fun y => ⟨mk 20 [(0, .d ((eL 2 eApiPart) p0)), (3, .slc 0 1 0 y.1.length none), (4, .d (eI y.2))], [.row 1 (List.map eI y.1) true]⟩) (Wk.trans (Wk.pushE (σ' := [.row 1 (List.map eI ([] : List Int)) true]) (.row 1 [] true) (fun _ hh => by cases hh) rfl) (Wk.trans (Wk.env (e' := [(0, .d ((eL 2 eApiPart) p0)), (3, .slc 0 1 0 (([] : List Int).length) none), (4, .d (eI (0 : Int)))]) (EW.cons (AW.refl _) (EW.cons (AW.slcn _ _ _) (EW.cons (AW.refl _) EW.nil)))) (wq rfl))) ?_))))
  intro n85
  rintro ⟨y75, y76⟩ w2_81 h3 hv3
  refine sq (sr (sm rfl (sm rfl (s1 (len rfl rfl rfl (len_lst un28)) (s1 (bi rfl rfl q_i64_lss) (sn (cB h3 rfl (fun h3 => ?_) (fun h3 => ?_))))))))
  ·obtain ⟨v83, hv83, h3⟩ := ob h3; obtain ⟨hg84, h3⟩ := gd h3
   refine sk (sq (SC.blk (SC.region (sm rfl (sm rfl (sm rfl (s1 (ial rfl rfl un28 ts78 (getI_some hv83).1 (map_get (getI_some hv83).2) rfl) (s1 (fap rfl fo78_0 ts3 rfl) (s1 (lod rfl (ld_rop ts3 ta3 rfl)) ?_)))))))))
   refine s1 (bsn (k := 1) (ds := List.map eI [v83.Col]) (off := 0) (l' := [v83.Col].length) rfl un23 ei3 rfl rfl (by rfl) rfl rfl rfl) (s1 (app rfl rfl rfl rfl bc23 (aF (f := eI) (xs := y75) (k := 2) rfl un23 ei3 rfl (el_full (xs := [v83.Col]) rfl) hg84 rfl)) (sa rfl (SO.nil ?_)))
   change SC _ _ _ _ _
   have q := si h3; subst q
   exact SC.region (sm rfl (s1 (bi rfl rfl q_i64_add) (sa rfl (SO.nil (lf (wc [2] [2] (by kernel_rfl) rfl (by kernel_rfl)))))))
  ·have q := si h3; subst q; have q : _ = _ := hv3; subst q; have q := si h1; subst q
   exact SC.exit ((wq rfl))
 ·rintro y71 h0
  have q := si h0; subst q
  exact sr (sm rfl (sa rfl (sn (SC.ret (finR (Wk.trans (Wk.frz (i := 2) (x := .slc 0 1 0 y71.length none) rfl rfl (fF rfl rfl rfl)) (wc (e' := [(2, .d ((eL 1 eI) y71))]) [] [] (by kernel_rfl) rfl (by kernel_rfl))) (lresT rfl lresN) rfl)))))
noncomputable def ref17_index (p0 : ApiTable) (p1 : ApiIndex) : Option Int :=
 Option.bind (α := Bool)
 (bif (decide ((p1.Parts.length : Int) < (1 : Int))) then
 some true
 else
 bif (decide ((p1.Parts.length : Int) > (4 : Int))) then
 some true
 else
 Option.bind (ref17_Cols p1.Parts) fun r281 =>
 Option.bind (ref17_places (p0.Cols.length : Int) r281) fun r283 =>
 bif (!r283) then
 some true
 else
 Option.bind (ref17_places (p0.Cols.length : Int) p1.Extra) fun r285 =>
 some (!r285))
 fun y278 =>
 bif y278 then
 some (1 : Int)
 else
 bindE (Y := Unit) (E := Int)
 (Option.bind (α := Unit ⊕ Int)
 (loop (Y := Int) (W := Unit ⊕ Int) (fun y364 =>
 bif (decide (y364 < (p1.Extra.length : Int))) then
 Option.bind (α := Bool)
 (Option.bind (ref17_Cols p1.Parts) fun r397 =>
 Option.bind (getI p1.Extra y364) fun v398 =>
 Option.bind (ref17_Has r397 v398) fun r400 =>
 bif r400 then
 some true
 else
 Option.bind (getI p1.Extra y364) fun v401 =>
 Option.bind (ref17_Has p0.Primary v401) fun r403 =>
 some r403)
 fun y394 =>
 bif y394 then
 some (Sum.inr (Sum.inr (1 : Int)))
 else
 some (Sum.inl (w64 (y364 + (1 : Int))))
 else
 some (Sum.inr (Sum.inl ()))) (0 : Int))
 (Sum.elim (fun e => some (Sum.inl e)) (fun e => some (Sum.inr e))))
 (fun _ =>
 Option.bind (ref17_KeyMax p0.Cols p1.Parts) fun r406 =>
 bif (decide (r406 > (128 : Int))) then
 some (7 : Int)
 else
 some (0 : Int))
 (fun e => some e)
theorem ref17_index_ok (p0 : ApiTable) (p1 : ApiIndex) (r : Int) (h0 : ref17_index p0 p1 = some r) : CallAt Tryz.prog 32 [.d (eApiTable p0), .d (eApiIndex p1)] [] (.d (eI r)) [] := by
 unfold ref17_index at h0
 refine fn0 [0, 1] Tryz.func32 rfl rfl rfl rfl rfl ?_
 refine sr (s1 (bxo (k := 0) rfl rfl rfl) (s1 (bxo (k := 1) rfl rfl rfl) (sa rfl (sn (sr (s1 (far (k := 1) rfl fo26_1 ts22 rfl) (s1 (lod rfl (ld_box ts22 ta22 rfl rfl)) (s1 (len rfl rfl rfl (len_lst un22)) (sa rfl ?_)))))))))
 refine sn (sq (SC.seqP h0 (fun y => ⟨mk 67 [(2, .ref 0 0 0), (3, .ref 1 0 0), (34, .d (eB y))], [.box (.d (eApiTable p0)), .box (.d (eApiIndex p1))]⟩) ?_ ?_))
 ·intro u1_279 h1
  refine SC.region (s1 (far (k := 1) rfl fo60_1 ts28 rfl) (s1 (lod rfl (ld_box ts28 ta28 rfl rfl)) (s1 (len rfl rfl rfl (len_lst un28)) (s1 (bi rfl rfl q_i64_lss) (sm rfl (sp h1 (fun h1 => ?_) (fun h1 => ?_)))))))
  ·have q := si h1; subst q
   refine kw rfl (kw rfl (kw rfl (kw rfl (s1 (pkt rfl rfl) (sm rfl (kw rfl (kw rfl (kw rfl (kw rfl ?_)))))))))
   refine kw rfl (kw rfl (s1 (pkt rfl rfl) (sm rfl (kw rfl (kw rfl (kw rfl (kw rfl (kw rfl (s1 (pkt rfl rfl) ?_)))))))))
   exact SO.nil ((wq rfl))
  ·refine gw rfl (far (k := 1) rfl fo60_1 ts28 rfl) (gw rfl (lod rfl (ld_box ts28 ta28 rfl rfl)) (gw rfl (len rfl rfl rfl (len_lst un28)) (gw rfl (bi rfl rfl q_i64_gtr) (s1 (pkf rfl rfl) (sm rfl (sp h1 (fun h1 => ?_) (fun h1 => ?_)))))))
   ·have q := si h1; subst q
    refine kw rfl (kw rfl (kw rfl (kw rfl (kw rfl (kw rfl (s1 (pkt rfl rfl) (sm rfl (kw rfl (kw rfl ?_)))))))))
    exact kw rfl (kw rfl (kw rfl (s1 (pkt rfl rfl) (SO.nil ((wq rfl))))))
   ·obtain ⟨r281, hq280, h1⟩ := ob h1; obtain ⟨r283, hq282, h1⟩ := ob h1
    refine gw rfl (mv rfl) (gw rfl (far (k := 1) rfl fo60_1 ts28 rfl) (gw rfl (lod rfl (ld_box ts28 ta28 rfl rfl)) (c0 (ref17_Cols_ok p1.Parts _ hq280) (ww rfl) rfl rfl rfl cb41 rfl (fun _ => rfl) (fun _ => rfl) (c0 (ref17_places_ok (p0.Cols.length : Int) r281 _ hq282) (ww rfl) rfl rfl rfl cb28 rfl (fun _ => rfl) (fun _ => rfl) (gw rfl (nt rfl) (s1 (pkf rfl rfl) (sm rfl (sp h1 (fun h1 => ?_) (fun h1 => ?_)))))))))
    ·have q := si h1; subst q
     exact kw rfl (kw rfl (kw rfl (kw rfl (kw rfl (s1 (pkt rfl rfl) (SO.nil ((wq rfl))))))))
    ·obtain ⟨r285, hq284, h1⟩ := ob h1; have q := si h1; subst q
     exact gw rfl (mv rfl) (gw rfl (far (k := 2) rfl fo60_2 ts23 rfl) (gw rfl (lod rfl (ld_box ts23 ta23 rfl rfl)) (c0 (ref17_places_ok (p0.Cols.length : Int) p1.Extra _ hq284) (ww rfl) rfl rfl rfl cb28 rfl (fun _ => rfl) (fun _ => rfl) (gw rfl (nt rfl) (s1 (pkf rfl rfl) (SO.nil ((wq rfl))))))))
 ·rintro y278 h0
  refine cB h0 rfl (fun h0 => ?_) (fun h0 => ?_)
  ·have q := si h0; subst q
   exact sr (sa rfl (sn (SC.ret (finR (wc (e' := [(4, .d (eI (1 : Int)))]) [] [] (by kernel_rfl) rfl (by kernel_rfl)) (lresT rfl lresN) rfl))))
  ·refine sk (SC.seqB h0 (fun y => ⟨mk 67 [(2, .ref 0 0 0), (3, .ref 1 0 0)], [.box (.d (eApiTable p0)), .box (.d (eApiIndex p1))]⟩) ?_ ?_)
   ·intro u1_345 h1 h0
    obtain ⟨u2_385, h2, h1⟩ := ob h1
    refine sr (sa rfl (sn (SC.blk (SC.loopB h2 (fun y => ⟨mk 67 [(2, .ref 0 0 0), (3, .ref 1 0 0), (6, .d (eI y))], [.box (.d (eApiTable p0)), .box (.d (eApiIndex p1))]⟩) (wq rfl) ?_))))
    intro n404
    rintro y364 w2_384 h3 hv3
    refine sq (sr (sm rfl (s1 (far (k := 2) rfl fo60_2 ts23 rfl) (s1 (lod rfl (ld_box ts23 ta23 rfl rfl)) (s1 (len rfl rfl rfl (len_lst un23)) (s1 (bi rfl rfl q_i64_lss) (sn (cB h3 rfl (fun h3 => ?_) (fun h3 => ?_)))))))))
    ·refine sk (sq (SC.blk (SC.seqP h3 (fun y => ⟨mk 67 [(2, .ref 0 0 0), (3, .ref 1 0 0), (6, .d (eI y364)), (60, .d (eB y))], [.box (.d (eApiTable p0)), .box (.d (eApiIndex p1))]⟩) ?_ ?_)))
     ·intro u4_395 h4
      obtain ⟨r397, hq396, h4⟩ := ob h4; obtain ⟨v398, hv398, h4⟩ := ob h4; obtain ⟨r400, hq399, h4⟩ := ob h4
      refine SC.draws (by kernel_rfl) (t1 ([], false) (far (k := 1) rfl fo60_1 ts28 rfl) rfl (t1 ([1], false) (lod rfl (ld_box ts28 ta28 rfl rfl)) rfl (tc0 (ref17_Cols_ok p1.Parts _ hq396) wf rfl rfl rfl cb41 rfl (fun _ => rfl) (fun _ => rfl) (t1 ([], false) (far (k := 2) rfl fo60_2 ts23 rfl) rfl (t1 ([1], false) (lod rfl (ld_box ts23 ta23 rfl rfl)) rfl (t1 ([], false) (mv rfl) rfl (t1 ([], false) (ial rfl rfl un23 ts3 (getI_some hv398).1 (map_get (getI_some hv398).2) rfl) rfl (t1 ([], false) (lod rfl (ld_rop ts3 ta3 rfl)) rfl (tc0 (ref17_Has_ok r397 v398 _ hq399) wf rfl rfl rfl cb40 rfl (fun _ => rfl) (fun _ => rfl) ?_)))))))))
      refine t1 ([], false) (mv rfl) rfl (tp h4 (fun h4 => ?_) (fun h4 => ?_))
      ·have q := si h4; subst q
       refine jw rfl (jw rfl (jw rfl (jw rfl (jw rfl (jw rfl (jw rfl (jw rfl (t1 ([], false) (pkt rfl rfl) rfl (ST.nil (And.intro (by decide +kernel) ?_))))))))))
       exact (wq rfl)
      ·obtain ⟨v401, hv401, h4⟩ := ob h4; obtain ⟨r403, hq402, h4⟩ := ob h4; have q := si h4; subst q
       refine u1 ([], false) (ww rfl) (far (k := 2) rfl fo26_2 ts23 rfl) rfl (u1 ([0], false) (ww rfl) (lod rfl (ld_box ts23 ta23 rfl rfl)) rfl (u1 ([], false) (ww rfl) (far (k := 2) rfl fo60_2 ts23 rfl) rfl (u1 ([1], false) (ww rfl) (lod rfl (ld_box ts23 ta23 rfl rfl)) rfl (u1 ([], false) (ww rfl) (mv rfl) rfl (u1 ([], false) (ww rfl) (ial rfl rfl un23 ts3 (getI_some hv401).1 (map_get (getI_some hv401).2) rfl) rfl (u1 ([], false) (ww rfl) (lod rfl (ld_rop ts3 ta3 rfl)) rfl (tc0 (ref17_Has_ok p0.Primary v401 _ hq402) (ww rfl) rfl rfl rfl cb40 rfl (fun _ => rfl) (fun _ => rfl) (t1 ([], false) (pkf rfl rfl) rfl (ST.nil (And.intro (by decide +kernel) ?_))))))))))
       exact (wq rfl)
     ·rintro y394 h3
      refine cB h3 rfl (fun h3 => ?_) (fun h3 => ?_)
      ·have q := si h3; subst q; have q : _ = _ := hv3; subst q; have q := si h1; subst q; have q := si h0; subst q
       exact sr (sa rfl (sn (SC.ret (finR (wc (e' := [(4, .d (eI (1 : Int)))]) [] [] (by kernel_rfl) rfl (by kernel_rfl)) (lresT rfl lresN) rfl))))
      ·refine SC.skip ?_
       change SC _ _ _ _ _
       have q := si h3; subst q
       exact SC.region (sm rfl (s1 (bi rfl rfl q_i64_add) (sa rfl (SO.nil (lf (wq rfl))))))
    ·have q := si h3; subst q; have q : _ = _ := hv3; subst q; have q := si h1; subst q
     exact SC.exit (lf (wq rfl))
   ·intro _ h0
    obtain ⟨r406, hq405, h0⟩ := ob h0
    refine sq (sr (s1 (far (k := 1) rfl fo26_1 ts22 rfl) (s1 (lod rfl (ld_box ts22 ta22 rfl rfl)) (s1 (far (k := 1) rfl fo60_1 ts28 rfl) (s1 (lod rfl (ld_box ts28 ta28 rfl rfl)) (c0 (ref17_KeyMax_ok p0.Cols p1.Parts _ hq405) wf rfl rfl rfl cb30 rfl (fun _ => rfl) (fun _ => rfl) (s1 (bi rfl rfl q_i64_gtr) (sn (cB h0 rfl (fun h0 => ?_) (fun h0 => ?_))))))))))
    ·have q := si h0; subst q
     exact sr (sa rfl (sn (SC.ret (finR (wc (e' := [(4, .d (eI (7 : Int)))]) [] [] (by kernel_rfl) rfl (by kernel_rfl)) (lresT rfl lresN) rfl))))
    ·have q := si h0; subst q
     exact sk (sr (sa rfl (sn (SC.ret (finR (wc (e' := [(4, .d (eI (0 : Int)))]) [] [] (by kernel_rfl) rfl (by kernel_rfl)) (lresT rfl lresN) rfl)))))
noncomputable def ref17_Check (p0 : ApiTable) : Option Int :=
 Option.bind (ref06_Name p0.Name) fun r885 =>
 bif (!r885) then
 some (1 : Int)
 else
 Option.bind (α := Bool)
 (bif (decide ((p0.Cols.length : Int) < (1 : Int))) then
 some true
 else
 some (decide ((p0.Cols.length : Int) > (24 : Int))))
 fun y886 =>
 bif y886 then
 some (7 : Int)
 else
 bindE (Y := Unit) (E := Int)
 (Option.bind (α := Unit ⊕ Int)
 (loop (Y := Int) (W := Unit ⊕ Int) (fun y978 =>
 bif (decide (y978 < (p0.Cols.length : Int))) then
 bindE (Y := Unit) (E := Int)
 (Option.bind (getI p0.Cols y978) fun v1026 =>
 Option.bind (ref06_Column v1026) fun r1028 =>
 bif (r1028 != (0 : Int)) then
 some (Sum.inr r1028)
 else
 Option.bind (α := Unit ⊕ Int)
 (loop (Y := Int) (W := Unit ⊕ Int) (fun y1031 =>
 bif (decide (y1031 < y978)) then
 Option.bind (getI p0.Cols y1031) fun v1037 =>
 Option.bind (getI p0.Cols y978) fun v1038 =>
 bif (v1037.Name == v1038.Name) then
 some (Sum.inr (Sum.inr (6 : Int)))
 else
 some (Sum.inl (w64 (y1031 + (1 : Int))))
 else
 some (Sum.inr (Sum.inl ()))) (0 : Int))
 (Sum.elim (fun e => some (Sum.inl e)) (fun e => some (Sum.inr e))))
 (fun _ =>
 some (Sum.inl (w64 (y978 + (1 : Int)))))
 (fun e => some (Sum.inr (Sum.inr e)))
 else
 some (Sum.inr (Sum.inl ()))) (0 : Int))
 (Sum.elim (fun e => some (Sum.inl e)) (fun e => some (Sum.inr e))))
 (fun _ =>
 Option.bind (α := Bool)
 (bif (decide ((p0.Primary.length : Int) < (1 : Int))) then
 some true
 else
 bif (decide ((p0.Primary.length : Int) > (4 : Int))) then
 some true
 else
 Option.bind (ref17_places (p0.Cols.length : Int) p0.Primary) fun r1046 =>
 some (!r1046))
 fun y1043 =>
 bif y1043 then
 some (1 : Int)
 else
 bindE (Y := Unit) (E := Int)
 (Option.bind (α := Unit ⊕ Int)
 (loop (Y := Int) (W := Unit ⊕ Int) (fun y1061 =>
 bif (decide (y1061 < (p0.Primary.length : Int))) then
 Option.bind (getI p0.Primary y1061) fun v1067 =>
 Option.bind (getI p0.Cols v1067) fun v1068 =>
 bif v1068.Nulls then
 some (Sum.inr (Sum.inr (1 : Int)))
 else
 some (Sum.inl (w64 (y1061 + (1 : Int))))
 else
 some (Sum.inr (Sum.inl ()))) (0 : Int))
 (Sum.elim (fun e => some (Sum.inl e)) (fun e => some (Sum.inr e))))
 (fun _ =>
 Option.bind (α := Bool)
 (Option.bind (ref17_RowMax p0.Cols) fun r1079 =>
 bif (decide (r1079 > (512 : Int))) then
 some true
 else
 Option.bind (ref17_Up p0.Primary) fun r1081 =>
 Option.bind (ref17_KeyMax p0.Cols r1081) fun r1083 =>
 bif (decide (r1083 > (128 : Int))) then
 some true
 else
 some (decide ((p0.Indexes.length : Int) > (6 : Int))))
 fun y1076 =>
 bif y1076 then
 some (7 : Int)
 else
 bindE (Y := Unit) (E := Int)
 (Option.bind (α := Unit ⊕ Int)
 (loop (Y := Int) (W := Unit ⊕ Int) (fun y1230 =>
 bif (decide (y1230 < (p0.Indexes.length : Int))) then
 bindE (Y := Unit) (E := Int)
 (Option.bind (getI p0.Indexes y1230) fun v1302 =>
 Option.bind (ref06_Name v1302.Name) fun r1304 =>
 bif (!r1304) then
 some (Sum.inr (1 : Int))
 else
 bindE (Y := Unit) (E := Int)
 (Option.bind (α := Unit ⊕ Int)
 (loop (Y := Int) (W := Unit ⊕ Int) (fun y1315 =>
 bif (decide (y1315 < y1230)) then
 Option.bind (getI p0.Indexes y1315) fun v1320 =>
 bif (v1320.Name == v1302.Name) then
 some (Sum.inr (Sum.inr (6 : Int)))
 else
 some (Sum.inl (w64 (y1315 + (1 : Int))))
 else
 some (Sum.inr (Sum.inl ()))) (0 : Int))
 (Sum.elim (fun e => some (Sum.inl e)) (fun e => some (Sum.inr e))))
 (fun _ =>
 Option.bind (ref17_index p0 v1302) fun r1323 =>
 bif (r1323 != (0 : Int)) then
 some (Sum.inr r1323)
 else
 some (Sum.inl ()))
 (fun e => some (Sum.inr e)))
 (fun _ =>
 some (Sum.inl (w64 (y1230 + (1 : Int)))))
 (fun e => some (Sum.inr (Sum.inr e)))
 else
 some (Sum.inr (Sum.inl ()))) (0 : Int))
 (Sum.elim (fun e => some (Sum.inl e)) (fun e => some (Sum.inr e))))
 (fun _ =>
 some (0 : Int))
 (fun e => some e))
 (fun e => some e))
 (fun e => some e)
theorem ref17_Check_ok (p0 : ApiTable) (r : Int) (h0 : ref17_Check p0 = some r) : CallAt Tryz.prog 8 [.d (eApiTable p0)] [] (.d (eI r)) [] := by
 unfold ref17_Check at h0
 refine fn0 [0] Tryz.func8 rfl rfl rfl rfl rfl ?_
 obtain ⟨r885, hq884, h0⟩ := ob h0
 refine sr (s1 (bxo (k := 0) rfl rfl rfl) (sa rfl (sn (sq (sr (s1 (far (k := 0) rfl fo26_0 ts9 rfl) (s1 (lod rfl (ld_box ts9 ta9 rfl rfl)) (c0 (ref06_Name_ok p0.Name _ hq884) wf rfl rfl rfl cb26 rfl (fun _ => rfl) (fun _ => rfl) (s1 (nt rfl) ?_)))))))))
 refine sn (cB h0 rfl (fun h0 => ?_) (fun h0 => ?_))
 ·have q := si h0; subst q
  exact sr (sa rfl (sn (SC.ret (finR (wc (e' := [(2, .d (eI (1 : Int)))]) [] [] (by kernel_rfl) rfl (by kernel_rfl)) (lresT rfl lresN) rfl))))
 ·refine sk (sq (SC.seqP h0 (fun y => ⟨mk 150 [(1, .ref 0 0 0), (24, .d (eB y))], [.box (.d (eApiTable p0))]⟩) ?_ ?_))
  ·intro u1_887 h1
   refine SC.region (s1 (far (k := 1) rfl fo26_1 ts22 rfl) (s1 (lod rfl (ld_box ts22 ta22 rfl rfl)) (s1 (len rfl rfl rfl (len_lst un22)) (s1 (bi rfl rfl q_i64_lss) (sm rfl (sp h1 (fun h1 => ?_) (fun h1 => ?_)))))))
   ·have q := si h1; subst q
    exact kw rfl (kw rfl (kw rfl (kw rfl (s1 (pkt rfl rfl) (SO.nil ((wq rfl)))))))
   ·have q := si h1; subst q
    exact gw rfl (far (k := 1) rfl fo26_1 ts22 rfl) (gw rfl (lod rfl (ld_box ts22 ta22 rfl rfl)) (gw rfl (len rfl rfl rfl (len_lst un22)) (gw rfl (bi rfl rfl q_i64_gtr) (s1 (pkf rfl rfl) (SO.nil ((wq rfl)))))))
  ·rintro y886 h0
   refine cB h0 rfl (fun h0 => ?_) (fun h0 => ?_)
   ·have q := si h0; subst q
    exact sr (sa rfl (sn (SC.ret (finR (wc (e' := [(2, .d (eI (7 : Int)))]) [] [] (by kernel_rfl) rfl (by kernel_rfl)) (lresT rfl lresN) rfl))))
   ·refine sk (SC.seqB h0 (fun y => ⟨mk 150 [(1, .ref 0 0 0)], [.box (.d (eApiTable p0))]⟩) ?_ ?_)
    ·intro u1_964 h1 h0
     obtain ⟨u2_1010, h2, h1⟩ := ob h1
     refine sr (sa rfl (sn (SC.blk (SC.loopB h2 (fun y => ⟨mk 150 [(1, .ref 0 0 0), (3, .d (eI y))], [.box (.d (eApiTable p0))]⟩) (wq rfl) ?_))))
     intro n1040
     rintro y978 w2_1009 h3 hv3
     refine sq (sr (sm rfl (s1 (far (k := 1) rfl fo26_1 ts22 rfl) (s1 (lod rfl (ld_box ts22 ta22 rfl rfl)) (s1 (len rfl rfl rfl (len_lst un22)) (s1 (bi rfl rfl q_i64_lss) (sn (cB h3 rfl (fun h3 => ?_) (fun h3 => ?_)))))))))
     ·refine sk (SC.seqB h3 (fun y => ⟨mk 150 [(1, .ref 0 0 0), (3, .d (eI y978))], [.box (.d (eApiTable p0))]⟩) ?_ ?_)
      ·intro u4_1025 h4 h3
       obtain ⟨v1026, hv1026, h4⟩ := ob h4; obtain ⟨r1028, hq1027, h4⟩ := ob h4
       refine SC.blk (sr (s1 (far (k := 1) rfl fo26_1 ts22 rfl) (s1 (lod rfl (ld_box ts22 ta22 rfl rfl)) (sm rfl (s1 (ial rfl rfl un22 ts76 (getI_some hv1026).1 (map_get (getI_some hv1026).2) rfl) (s1 (lod (v := .d (eApiColumn v1026)) rfl (ld_rop ts76 ta76 rfl)) (c0 (ref06_Column_ok v1026 _ hq1027) wf rfl rfl rfl cb27 rfl (fun _ => rfl) (fun _ => rfl) (sa rfl (sn ?_)))))))))
       refine sq (sr (sm rfl (s1 (bi rfl rfl q_i64_neq) (sn (cB h4 rfl (fun h4 => ?_) (fun h4 => ?_))))))
       ·have q := si h4; subst q; have q := si h3; subst q; have q : _ = _ := hv3; subst q; have q := si h1; subst q; have q := si h0; subst q
        exact sr (sm rfl (sa rfl (sn (SC.ret (finR (wc (e' := [(2, .d (eI r1028))]) [] [] (by kernel_rfl) rfl (by kernel_rfl)) (lresT rfl lresN) rfl)))))
       ·obtain ⟨u5_1036, h5, h4⟩ := ob h4
        refine sk (sr (sa rfl (sn (SC.blk (SC.loopB h5 (fun y => ⟨mk 150 [(1, .ref 0 0 0), (3, .d (eI y978)), (5, .d (eI y))], [.box (.d (eApiTable p0))]⟩) (wq rfl) ?_)))))
        intro n1039
        rintro y1031 w5_1035 h6 hv6
        refine sq (sr (sm rfl (sm rfl (s1 (bi rfl rfl q_i64_lss) (sn (cB h6 rfl (fun h6 => ?_) (fun h6 => ?_)))))))
        ·obtain ⟨v1037, hv1037, h6⟩ := ob h6; obtain ⟨v1038, hv1038, h6⟩ := ob h6
         refine sk (sq (SC.blk (sd (by kernel_rfl) (t1 ([], false) (far (k := 1) rfl fo26_1 ts22 rfl) rfl (t1 ([0], false) (lod rfl (ld_box ts22 ta22 rfl rfl)) rfl (t1 ([], false) (mv rfl) rfl (t1 ([], false) (ial rfl rfl un22 ts76 (getI_some hv1037).1 (map_get (getI_some hv1037).2) rfl) rfl (t1 ([], false) (fap rfl fo76_0 ts9 rfl) rfl (t1 ([], false) (lod rfl (ld_rop ts9 ta9 rfl)) rfl ?_)))))))))
         refine t1 ([], false) (far (k := 1) rfl fo26_1 ts22 rfl) rfl (t1 ([0], false) (lod rfl (ld_box ts22 ta22 rfl rfl)) rfl (t1 ([], false) (mv rfl) rfl (t1 ([], false) (ial rfl rfl un22 ts76 (getI_some hv1038).1 (map_get (getI_some hv1038).2) rfl) rfl (t1 ([], false) (fap rfl fo76_0 ts9 rfl) rfl (t1 ([], false) (lod rfl (ld_rop ts9 ta9 rfl)) rfl (t1 ([], false) (bi rfl rfl q_str_eql) rfl (tn (by decide +kernel) (cB h6 rfl (fun h6 => ?_) (fun h6 => ?_)))))))))
         ·have q := si h6; subst q; have q : _ = _ := hv6; subst q; have q := si h4; subst q; have q := si h3; subst q; have q : _ = _ := hv3; subst q; have q := si h1; subst q; have q := si h0; subst q
          exact sr (sa rfl (sn (SC.ret (finR (wc (e' := [(2, .d (eI (6 : Int)))]) [] [] (by kernel_rfl) rfl (by kernel_rfl)) (lresT rfl lresN) rfl))))
         ·refine SC.skip ?_
          change SC _ _ _ _ _
          have q := si h6; subst q
          exact SC.region (sm rfl (s1 (bi rfl rfl q_i64_add) (sa rfl (SO.nil (lf (wq rfl))))))
        ·have q := si h6; subst q; have q : _ = _ := hv6; subst q; have q := si h4; subst q
         exact SC.exit (lf (wq rfl))
      ·intro _ h3
       have q := si h3; subst q
       exact SC.region (sm rfl (s1 (bi rfl rfl q_i64_add) (sa rfl (SO.nil (lf (wq rfl))))))
     ·have q := si h3; subst q; have q : _ = _ := hv3; subst q; have q := si h1; subst q
      exact SC.exit (lf (wq rfl))
    ·intro _ h0
     refine sq (SC.seqP h0 (fun y => ⟨mk 150 [(1, .ref 0 0 0), (77, .d (eB y))], [.box (.d (eApiTable p0))]⟩) ?_ ?_)
     ·intro u1_1044 h1
      refine SC.region (s1 (far (k := 2) rfl fo26_2 ts23 rfl) (s1 (lod rfl (ld_box ts23 ta23 rfl rfl)) (s1 (len rfl rfl rfl (len_lst un23)) (s1 (bi rfl rfl q_i64_lss) (sm rfl (sp h1 (fun h1 => ?_) (fun h1 => ?_)))))))
      ·have q := si h1; subst q
       refine kw rfl (kw rfl (kw rfl (kw rfl (s1 (pkt rfl rfl) (sm rfl (kw rfl (kw rfl (kw rfl (kw rfl ?_)))))))))
       exact kw rfl (kw rfl (kw rfl (s1 (pkt rfl rfl) (SO.nil ((wq rfl))))))
      ·refine gw rfl (far (k := 2) rfl fo26_2 ts23 rfl) (gw rfl (lod rfl (ld_box ts23 ta23 rfl rfl)) (gw rfl (len rfl rfl rfl (len_lst un23)) (gw rfl (bi rfl rfl q_i64_gtr) (s1 (pkf rfl rfl) (sm rfl (sp h1 (fun h1 => ?_) (fun h1 => ?_)))))))
       ·have q := si h1; subst q
        exact kw rfl (kw rfl (kw rfl (kw rfl (kw rfl (kw rfl (kw rfl (s1 (pkt rfl rfl) (SO.nil ((wq rfl))))))))))
       ·obtain ⟨r1046, hq1045, h1⟩ := ob h1; have q := si h1; subst q
        exact gw rfl (far (k := 1) rfl fo26_1 ts22 rfl) (gw rfl (lod rfl (ld_box ts22 ta22 rfl rfl)) (gw rfl (len rfl rfl rfl (len_lst un22)) (gw rfl (far (k := 2) rfl fo26_2 ts23 rfl) (gw rfl (lod rfl (ld_box ts23 ta23 rfl rfl)) (c0 (ref17_places_ok (p0.Cols.length : Int) p0.Primary _ hq1045) (ww rfl) rfl rfl rfl cb28 rfl (fun _ => rfl) (fun _ => rfl) (gw rfl (nt rfl) (s1 (pkf rfl rfl) (SO.nil ((wq rfl))))))))))
     ·rintro y1043 h0
      refine cB h0 rfl (fun h0 => ?_) (fun h0 => ?_)
      ·have q := si h0; subst q
       exact sr (sa rfl (sn (SC.ret (finR (wc (e' := [(2, .d (eI (1 : Int)))]) [] [] (by kernel_rfl) rfl (by kernel_rfl)) (lresT rfl lresN) rfl))))
      ·refine sk (SC.seqB h0 (fun y => ⟨mk 150 [(1, .ref 0 0 0)], [.box (.d (eApiTable p0))]⟩) ?_ ?_)
       ·intro u1_1058 h1 h0
        obtain ⟨u2_1066, h2, h1⟩ := ob h1
        refine sr (sa rfl (sn (SC.blk (SC.loopB h2 (fun y => ⟨mk 150 [(1, .ref 0 0 0), (6, .d (eI y))], [.box (.d (eApiTable p0))]⟩) (wq rfl) ?_))))
        intro n1069
        rintro y1061 w2_1065 h3 hv3
        refine sq (sr (sm rfl (s1 (far (k := 2) rfl fo26_2 ts23 rfl) (s1 (lod rfl (ld_box ts23 ta23 rfl rfl)) (s1 (len rfl rfl rfl (len_lst un23)) (s1 (bi rfl rfl q_i64_lss) (sn (cB h3 rfl (fun h3 => ?_) (fun h3 => ?_)))))))))
        ·obtain ⟨v1067, hv1067, h3⟩ := ob h3; obtain ⟨v1068, hv1068, h3⟩ := ob h3
         refine sk (sq (SC.blk (sd (by kernel_rfl) (t1 ([], false) (far (k := 1) rfl fo26_1 ts22 rfl) rfl (t1 ([0], false) (lod rfl (ld_box ts22 ta22 rfl rfl)) rfl (t1 ([], false) (far (k := 2) rfl fo26_2 ts23 rfl) rfl (t1 ([0], false) (lod rfl (ld_box ts23 ta23 rfl rfl)) rfl (t1 ([], false) (mv rfl) rfl (t1 ([], false) (ial rfl rfl un23 ts3 (getI_some hv1067).1 (map_get (getI_some hv1067).2) rfl) rfl ?_)))))))))
         refine t1 ([], false) (lod rfl (ld_rop ts3 ta3 rfl)) rfl (t1 ([], false) (ial rfl rfl un22 ts76 (getI_some hv1068).1 (map_get (getI_some hv1068).2) rfl) rfl (t1 ([], false) (fap rfl fo76_3 ts4 rfl) rfl (t1 ([], false) (lod rfl (ld_rop ts4 ta4 rfl)) rfl (tn (by decide +kernel) (cB h3 rfl (fun h3 => ?_) (fun h3 => ?_))))))
         ·have q := si h3; subst q; have q : _ = _ := hv3; subst q; have q := si h1; subst q; have q := si h0; subst q
          exact sr (sa rfl (sn (SC.ret (finR (wc (e' := [(2, .d (eI (1 : Int)))]) [] [] (by kernel_rfl) rfl (by kernel_rfl)) (lresT rfl lresN) rfl))))
         ·refine SC.skip ?_
          change SC _ _ _ _ _
          have q := si h3; subst q
          exact SC.region (sm rfl (s1 (bi rfl rfl q_i64_add) (sa rfl (SO.nil (lf (wq rfl))))))
        ·have q := si h3; subst q; have q : _ = _ := hv3; subst q; have q := si h1; subst q
         exact SC.exit (lf (wq rfl))
       ·intro _ h0
        refine sq (SC.seqP h0 (fun y => ⟨mk 150 [(1, .ref 0 0 0), (113, .d (eB y))], [.box (.d (eApiTable p0))]⟩) ?_ ?_)
        ·intro u1_1077 h1
         obtain ⟨r1079, hq1078, h1⟩ := ob h1
         refine SC.draws (by kernel_rfl) (t1 ([], false) (far (k := 1) rfl fo26_1 ts22 rfl) rfl (t1 ([0], false) (lod rfl (ld_box ts22 ta22 rfl rfl)) rfl (tc0 (ref17_RowMax_ok p0.Cols _ hq1078) wf rfl rfl rfl cb29 rfl (fun _ => rfl) (fun _ => rfl) (t1 ([], false) (bi rfl rfl q_i64_gtr) rfl (t1 ([], false) (mv rfl) rfl (tp h1 (fun h1 => ?_) (fun h1 => ?_)))))))
         ·have q := si h1; subst q
          refine jw rfl (jw rfl (jw rfl (jw rfl (jw rfl (jw rfl (jw rfl (t1 ([], false) (pkt rfl rfl) rfl (t1 ([], false) (mv rfl) rfl (jw rfl ?_)))))))))
          refine jw rfl (jw rfl (jw rfl (t1 ([], false) (pkt rfl rfl) rfl (ST.nil (And.intro (by decide +kernel) ?_)))))
          exact (wq rfl)
         ·obtain ⟨r1081, hq1080, h1⟩ := ob h1; obtain ⟨r1083, hq1082, h1⟩ := ob h1
          refine u1 ([], false) (ww rfl) (far (k := 1) rfl fo26_1 ts22 rfl) rfl (u1 ([0], false) (ww rfl) (lod rfl (ld_box ts22 ta22 rfl rfl)) rfl (u1 ([], false) (ww rfl) (far (k := 2) rfl fo26_2 ts23 rfl) rfl (u1 ([0], false) (ww rfl) (lod rfl (ld_box ts23 ta23 rfl rfl)) rfl (tc0 (ref17_Up_ok p0.Primary _ hq1080) (ww rfl) rfl rfl rfl cb31 rfl (fun _ => rfl) (fun _ => rfl) (tc0 (ref17_KeyMax_ok p0.Cols r1081 _ hq1082) (ww rfl) rfl rfl rfl cb30 rfl (fun _ => rfl) (fun _ => rfl) (u1 ([], false) (ww rfl) (bi rfl rfl q_i64_gtr) rfl (t1 ([], false) (pkf rfl rfl) rfl (t1 ([], false) (mv rfl) rfl (tp h1 (fun h1 => ?_) (fun h1 => ?_))))))))))
          ·have q := si h1; subst q
           refine jw rfl (jw rfl (jw rfl (jw rfl (t1 ([], false) (pkt rfl rfl) rfl (ST.nil (And.intro (by decide +kernel) ?_))))))
           exact (wq rfl)
          ·have q := si h1; subst q
           refine u1 ([], false) (ww rfl) (far (k := 3) rfl fo26_3 ts24 rfl) rfl (u1 ([0], false) (ww rfl) (lod rfl (ld_box ts24 ta24 rfl rfl)) rfl (u1 ([], false) (ww rfl) (len rfl rfl rfl (len_lst un24)) rfl (u1 ([], false) (ww rfl) (bi rfl rfl q_i64_gtr) rfl (t1 ([], false) (pkf rfl rfl) rfl (ST.nil (And.intro (by decide +kernel) ?_))))))
           exact (wq rfl)
        ·rintro y1076 h0
         refine cB h0 rfl (fun h0 => ?_) (fun h0 => ?_)
         ·have q := si h0; subst q
          exact sr (sa rfl (sn (SC.ret (finR (wc (e' := [(2, .d (eI (7 : Int)))]) [] [] (by kernel_rfl) rfl (by kernel_rfl)) (lresT rfl lresN) rfl))))
         ·refine sk (SC.seqB h0 (fun y => ⟨mk 150 [], []⟩) ?_ ?_)
          ·intro u1_1204 h1 h0
           obtain ⟨u2_1278, h2, h1⟩ := ob h1
           refine sr (sa rfl (sn (SC.blk (SC.loopB h2 (fun y => ⟨mk 150 [(1, .ref 0 0 0), (7, .d (eI y))], [.box (.d (eApiTable p0))]⟩) (wq rfl) ?_))))
           intro n1324
           rintro y1230 w2_1277 h3 hv3
           refine sq (sr (sm rfl (s1 (far (k := 3) rfl fo26_3 ts24 rfl) (s1 (lod rfl (ld_box ts24 ta24 rfl rfl)) (s1 (len rfl rfl rfl (len_lst un24)) (s1 (bi rfl rfl q_i64_lss) (sn (cB h3 rfl (fun h3 => ?_) (fun h3 => ?_)))))))))
           ·refine sk (SC.seqB h3 (fun y => ⟨mk 150 [(1, .ref 0 0 0), (7, .d (eI y1230))], [.box (.d (eApiTable p0))]⟩) ?_ ?_)
            ·intro u4_1301 h4 h3
             obtain ⟨v1302, hv1302, h4⟩ := ob h4; obtain ⟨r1304, hq1303, h4⟩ := ob h4
             refine SC.blk (sr (s1 (far (k := 3) rfl fo26_3 ts24 rfl) (s1 (lod rfl (ld_box ts24 ta24 rfl rfl)) (sm rfl (s1 (ial rfl rfl un24 ts60 (getI_some hv1302).1 (map_get (getI_some hv1302).2) rfl) (s1 (lod (v := .d (eApiIndex v1302)) rfl (ld_rop ts60 ta60 rfl)) (s1 (alo (k := 1) zo60 rfl) (s0 (sto rfl rfl (sB (d' := .d (eApiIndex v1302)) ts60 rfl rfl rfl rfl rfl rfl rfl)) (sn ?_)))))))))
             refine sq (sr (s1 (far (k := 0) rfl fo60_0 ts9 rfl) (s1 (lod rfl (ld_box ts9 ta9 rfl rfl)) (c0 (ref06_Name_ok v1302.Name _ hq1303) wf rfl rfl rfl cb26 rfl (fun _ => rfl) (fun _ => rfl) (s1 (nt rfl) (sn (cB h4 rfl (fun h4 => ?_) (fun h4 => ?_))))))))
             ·have q := si h4; subst q; have q := si h3; subst q; have q : _ = _ := hv3; subst q; have q := si h1; subst q; have q := si h0; subst q
              exact sr (sa rfl (sn (SC.ret (finR (wc (e' := [(2, .d (eI (1 : Int)))]) [] [] (by kernel_rfl) rfl (by kernel_rfl)) (lresT rfl lresN) rfl))))
             ·refine sk (SC.seqB h4 (fun y => ⟨mk 150 [(1, .ref 0 0 0), (7, .d (eI y1230)), (8, .ref 1 0 0)], [.box (.d (eApiTable p0)), .box (.d (eApiIndex v1302))]⟩) ?_ ?_)
              ·intro u5_1313 h5 h4
               obtain ⟨u6_1319, h6, h5⟩ := ob h5
               refine sr (sa rfl (sn (SC.blk (SC.loopB h6 (fun y => ⟨mk 150 [(1, .ref 0 0 0), (7, .d (eI y1230)), (8, .ref 1 0 0), (9, .d (eI y))], [.box (.d (eApiTable p0)), .box (.d (eApiIndex v1302))]⟩) (wq rfl) ?_))))
               intro n1321
               rintro y1315 w6_1318 h7 hv7
               refine sq (sr (sm rfl (sm rfl (s1 (bi rfl rfl q_i64_lss) (sn (cB h7 rfl (fun h7 => ?_) (fun h7 => ?_)))))))
               ·obtain ⟨v1320, hv1320, h7⟩ := ob h7
                refine sk (sq (SC.blk (sd (by kernel_rfl) (t1 ([], false) (far (k := 3) rfl fo26_3 ts24 rfl) rfl (t1 ([0], false) (lod rfl (ld_box ts24 ta24 rfl rfl)) rfl (t1 ([], false) (mv rfl) rfl (t1 ([], false) (ial rfl rfl un24 ts60 (getI_some hv1320).1 (map_get (getI_some hv1320).2) rfl) rfl (t1 ([], false) (fap rfl fo60_0 ts9 rfl) rfl (t1 ([], false) (lod rfl (ld_rop ts9 ta9 rfl)) rfl ?_)))))))))
                refine t1 ([], false) (far (k := 0) rfl fo60_0 ts9 rfl) rfl (t1 ([1], false) (lod rfl (ld_box ts9 ta9 rfl rfl)) rfl (t1 ([], false) (bi rfl rfl q_str_eql) rfl (tn (by decide +kernel) (cB h7 rfl (fun h7 => ?_) (fun h7 => ?_)))))
                ·have q := si h7; subst q; have q : _ = _ := hv7; subst q; have q := si h5; subst q; have q := si h4; subst q; have q := si h3; subst q; have q : _ = _ := hv3; subst q; have q := si h1; subst q; have q := si h0; subst q
                 exact sr (sa rfl (sn (SC.ret (finR (wc (e' := [(2, .d (eI (6 : Int)))]) [] [] (by kernel_rfl) rfl (by kernel_rfl)) (lresT rfl lresN) rfl))))
                ·refine SC.skip ?_
                 change SC _ _ _ _ _
                 have q := si h7; subst q
                 exact SC.region (sm rfl (s1 (bi rfl rfl q_i64_add) (sa rfl (SO.nil (lf (wq rfl))))))
               ·have q := si h7; subst q; have q : _ = _ := hv7; subst q; have q := si h5; subst q
                exact SC.exit (lf (wq rfl))
              ·intro _ h4
               obtain ⟨r1323, hq1322, h4⟩ := ob h4
               refine sr (s1 (lod (v := .d (eApiTable p0)) rfl (ld_box ts26 ta26 rfl rfl)) (s1 (lod (v := .d (eApiIndex v1302)) rfl (ld_box ts60 ta60 rfl rfl)) (c0 (ref17_index_ok p0 v1302 _ hq1322) wf rfl rfl rfl cb32 rfl (fun _ => rfl) (fun _ => rfl) (sa rfl (sn (sr (sm rfl (s1 (bi rfl rfl q_i64_neq) (sn ?_)))))))))
               refine cB h4 rfl (fun h4 => ?_) (fun h4 => ?_)
               ·have q := si h4; subst q; have q := si h3; subst q; have q : _ = _ := hv3; subst q; have q := si h1; subst q; have q := si h0; subst q
                exact sr (sm rfl (sa rfl (sn (SC.ret (finR (wc (e' := [(2, .d (eI r1323))]) [] [] (by kernel_rfl) rfl (by kernel_rfl)) (lresT rfl lresN) rfl)))))
               ·have q := si h4; subst q
                exact SC.skip (lf (wc [0] [0] (by kernel_rfl) rfl (by kernel_rfl)))
            ·intro _ h3
             have q := si h3; subst q
             exact SC.region (sm rfl (s1 (bi rfl rfl q_i64_add) (sa rfl (SO.nil (lf (wq rfl))))))
           ·have q := si h3; subst q; have q : _ = _ := hv3; subst q; have q := si h1; subst q
            exact SC.exit (lf (wc [] [] (by kernel_rfl) rfl (by kernel_rfl)))
          ·intro _ h0
           have q := si h0; subst q
           exact sr (sa rfl (sn (SC.ret (finR (Wk.refl _) (lresT rfl lresN) rfl))))
noncomputable def value_Name (p0 : List UInt8) : Option Bool :=
 Option.bind (α := Bool)
 (bif (p0 == ([] : List UInt8)) then
 some true
 else
 some (decide ((p0.length : Int) > (16 : Int))))
 fun y88 =>
 bif y88 then
 some false
 else
 bindE (Y := Unit) (E := Bool)
 (Option.bind (α := Unit ⊕ Bool)
 (loop (Y := Int) (W := Unit ⊕ Bool) (fun y116 =>
 bif (decide (y116 < (p0.length : Int))) then
 Option.bind (getI p0 y116) fun v125 =>
 Option.bind (α := Bool)
 (bif (decide ((97 : UInt8) ≤ v125)) then
 some (decide (v125 ≤ (122 : UInt8)))
 else
 some false)
 fun y126 =>
 Option.bind (α := Bool)
 (bif (!y126) then
 bif (y116 == (0 : Int)) then
 some true
 else
 bif (v125 != (95 : UInt8)) then
 bif (decide (v125 < (48 : UInt8))) then
 some true
 else
 some (decide ((57 : UInt8) < v125))
 else
 some false
 else
 some false)
 fun y128 =>
 bif y128 then
 some (Sum.inr (Sum.inr false))
 else
 some (Sum.inl (w64 (y116 + (1 : Int))))
 else
 some (Sum.inr (Sum.inl ()))) (0 : Int))
 (Sum.elim (fun e => some (Sum.inl e)) (fun e => some (Sum.inr e))))
 (fun _ =>
 some true)
 (fun e => some e)
theorem value_Name_ok (p0 : List UInt8) (r : Bool) (h0 : value_Name p0 = some r) : CallAt Tryz.prog 123 [.d (eS p0)] [] (.d (eB r)) [] := by
 unfold value_Name at h0
 refine fn0 [0] Tryz.func123 rfl rfl rfl rfl rfl ?_
 refine sr (sa rfl (sn (sq (SC.seqP h0 (fun y => ⟨mk 46 [(0, .d (eS p0)), (12, .d (eB y))], []⟩) ?_ ?_))))
 ·intro u1_89 h1
  refine SC.region (sm rfl (s1 (bi rfl rfl (q_str_eql (b := ([] : List UInt8)))) (sm rfl (sp h1 (fun h1 => ?_) (fun h1 => ?_)))))
  ·have q := si h1; subst q
   exact kw rfl (kw rfl (kw rfl (s1 (pkt rfl rfl) (SO.nil ((wq rfl))))))
  ·have q := si h1; subst q
   exact gw rfl (mv rfl) (gw rfl (len rfl rfl rfl (len_str un9)) (gw rfl (bi rfl rfl q_i64_gtr) (s1 (pkf rfl rfl) (SO.nil ((wq rfl))))))
 ·rintro y88 h0
  refine cB h0 rfl (fun h0 => ?_) (fun h0 => ?_)
  ·have q := si h0; subst q
   exact sr (sa rfl (sn (SC.ret (finR (Wk.refl _) (lresT rfl lresN) rfl))))
  ·refine sk (SC.seqB h0 (fun y => ⟨mk 46 [], []⟩) ?_ ?_)
   ·intro u1_110 h1 h0
    obtain ⟨u2_124, h2, h1⟩ := ob h1
    refine sr (sm rfl (s1 (len rfl rfl rfl (len_str un9)) (sm rfl (sn (SC.blk (SC.loopB h2 (fun y => ⟨mk 46 [(0, .d (eS p0)), (14, .d (eI (p0.length : Int))), (15, .d (eI y))], []⟩) (wq rfl) ?_))))))
    intro n130
    rintro y116 w2_123 h3 hv3
    refine sr (s1 (bi rfl rfl q_i64_lss) (sn (sq (cB h3 rfl (fun h3 => ?_) (fun h3 => ?_)))))
    ·obtain ⟨v125, hv125, h3⟩ := ob h3
     refine sk (sq (SC.blk (sr (sm rfl (sa rfl (sn (sr (sm rfl (sm rfl ?_)))))))))
     refine s1 (ixs rfl rfl rfl rfl (ix_str un9 (getI_some hv125).1 (getI_some hv125).2)) (sa rfl (sn (SC.seqP h3 (fun y => ⟨mk 46 [(0, .d (eS p0)), (3, .d (eI y116)), (4, .d (eU8 v125)), (5, .d (eB y)), (14, .d (eI (p0.length : Int))), (15, .d (eI y116))], []⟩) ?_ ?_)))
     ·intro u4_127 h4
      refine SC.region (sm rfl (s1 (bi rfl rfl (q_u8_geq (b := (97 : UInt8)))) (sm rfl (sp h4 (fun h4 => ?_) (fun h4 => ?_)))))
      ·have q := si h4; subst q
       exact gw rfl (mv rfl) (gw rfl (bi rfl rfl (q_u8_leq (b := (122 : UInt8)))) (s1 (pkt rfl rfl) (sa rfl (SO.nil ((wq rfl))))))
      ·have q := si h4; subst q
       exact kw rfl (kw rfl (s1 (pkf rfl rfl) (sa rfl (SO.nil ((wq rfl))))))
     ·rintro y126 h3
      refine SC.seqP h3 (fun y => ⟨mk 46 [(0, .d (eS p0)), (14, .d (eI (p0.length : Int))), (15, .d (eI y116)), (44, .d (eB y))], []⟩) ?_ ?_
      ·intro u4_129 h4
       refine SC.region (sm rfl (s1 (nt rfl) (sm rfl (sp h4 (fun h4 => ?_) (fun h4 => ?_)))))
       ·refine gw rfl (mv rfl) (gw rfl (bi rfl rfl q_i64_eql) (gw rfl (mv rfl) (sp h4 (fun h4 => ?_) (fun h4 => ?_))))
        ·have q := si h4; subst q
         refine kw rfl (kw rfl (kw rfl (kw rfl (kw rfl (kw rfl (kw rfl (kw rfl (kw rfl (kw rfl ?_)))))))))
         exact gw rfl (pkt rfl rfl) (s1 (pkt rfl rfl) (SO.nil ((wq rfl))))
        ·refine gw rfl (mv rfl) (gw rfl (bi rfl rfl (q_u8_neq (b := (95 : UInt8)))) (gw rfl (mv rfl) (sp h4 (fun h4 => ?_) (fun h4 => ?_))))
         ·refine gw rfl (mv rfl) (gw rfl (bi rfl rfl (q_u8_lss (b := (48 : UInt8)))) (gw rfl (mv rfl) (sp h4 (fun h4 => ?_) (fun h4 => ?_))))
          ·have q := si h4; subst q
           exact kw rfl (kw rfl (gw rfl (pkt rfl rfl) (gw rfl (pkt rfl rfl) (gw rfl (pkf rfl rfl) (s1 (pkt rfl rfl) (SO.nil ((wq rfl))))))))
          ·have q := si h4; subst q
           exact gw rfl (mv rfl) (gw rfl (bi rfl rfl (q_u8_gtr (b := (57 : UInt8)))) (gw rfl (pkf rfl rfl) (gw rfl (pkt rfl rfl) (gw rfl (pkf rfl rfl) (s1 (pkt rfl rfl) (SO.nil ((wq rfl))))))))
         ·have q := si h4; subst q
          refine kw rfl (kw rfl (kw rfl (kw rfl (kw rfl (kw rfl (gw rfl (pkf rfl rfl) (gw rfl (pkf rfl rfl) (s1 (pkt rfl rfl) (SO.nil ?_)))))))))
          exact (wq rfl)
       ·have q := si h4; subst q
        refine kw rfl (kw rfl (kw rfl (kw rfl (kw rfl (kw rfl (kw rfl (kw rfl (kw rfl (kw rfl ?_)))))))))
        exact kw rfl (kw rfl (kw rfl (kw rfl (s1 (pkf rfl rfl) (SO.nil ((wq rfl)))))))
      ·rintro y128 h3
       refine cB h3 rfl (fun h3 => ?_) (fun h3 => ?_)
       ·have q := si h3; subst q; have q : _ = _ := hv3; subst q; have q := si h1; subst q; have q := si h0; subst q
        exact sr (sa rfl (sn (SC.ret (finR (Wk.refl _) (lresT rfl lresN) rfl))))
       ·refine SC.skip ?_
        change SC _ _ _ _ _
        have q := si h3; subst q
        exact SC.region (s1 (bi rfl rfl q_i64_add) (sm rfl (SO.nil (lf (wq rfl)))))
    ·have q := si h3; subst q; have q : _ = _ := hv3; subst q; have q := si h1; subst q
     exact SC.exit (lf (wq rfl))
   ·intro _ h0
    have q := si h0; subst q
    exact sr (sa rfl (sn (SC.ret (finR (Wk.refl _) (lresT rfl lresN) rfl))))
noncomputable def value_long (p0 : Int) : Option Bool :=
 Option.bind (α := Bool)
 (bif (p0 == (4 : Int)) then
 some true
 else
 some (p0 == (5 : Int)))
 fun y6 =>
 some y6
theorem value_long_ok (p0 : Int) (r : Bool) (h0 : value_long p0 = some r) : CallAt Tryz.prog 93 [.d (eI p0)] [] (.d (eB r)) [] := by
 unfold value_long at h0
 refine fn0 [0] Tryz.func93 rfl rfl rfl rfl rfl ?_
 refine sr (sa rfl (sn (SC.seqP h0 (fun y => ⟨mk 9 [(2, .d (eB y))], []⟩) ?_ ?_)))
 ·intro u1_7 h1
  refine SC.region (sm rfl (s1 (bi rfl rfl q_i64_eql) (sm rfl (sp h1 (fun h1 => ?_) (fun h1 => ?_)))))
  ·have q := si h1; subst q
   exact kw rfl (kw rfl (s1 (pkt rfl rfl) (sa rfl (SO.nil ((wq rfl))))))
  ·have q := si h1; subst q
   exact gw rfl (mv rfl) (gw rfl (bi rfl rfl q_i64_eql) (s1 (pkf rfl rfl) (sa rfl (SO.nil ((wq rfl))))))
 ·rintro y6 h0
  have q := si h0; subst q
  exact SC.ret (finR (Wk.refl _) (lresT rfl lresN) rfl)
noncomputable def value_Fits (p0 : ApiColumn) (p1 : ApiValue) : Option Int :=
 Option.bind (value_Valid p1) fun r19 =>
 bif (!r19) then
 some (8 : Int)
 else
 bif (p1.Kind == (0 : Int)) then
 bif p0.Nulls then
 some (0 : Int)
 else
 some (8 : Int)
 else
 bif (p1.Kind != p0.Kind) then
 some (8 : Int)
 else
 Option.bind (α := Bool)
 (Option.bind (value_long p1.Kind) fun r25 =>
 bif r25 then
 some (decide ((p1.S.length : Int) > p0.Max))
 else
 some false)
 fun y22 =>
 bif y22 then
 some (7 : Int)
 else
 some (0 : Int)
theorem value_Fits_ok (p0 : ApiColumn) (p1 : ApiValue) (r : Int) (h0 : value_Fits p0 p1 = some r) : CallAt Tryz.prog 55 [.d (eApiColumn p0), .d (eApiValue p1)] [] (.d (eI r)) [] := by
 unfold value_Fits at h0
 refine fn0 [0, 1] Tryz.func55 rfl rfl rfl rfl rfl ?_
 obtain ⟨r19, hq18, h0⟩ := ob h0
 refine sr (s1 (bxo (k := 0) rfl rfl rfl) (s1 (bxo (k := 1) rfl rfl rfl) (sa rfl (sn (sq (SC.blk (sr (s1 (lod (v := .d (eApiValue p1)) rfl (ld_box ts74 ta74 rfl rfl)) (c0 (value_Valid_ok p1 _ hq18) wf rfl rfl rfl cb66 rfl (fun _ => rfl) (fun _ => rfl) ?_)))))))))
 refine s1 (nt rfl) (sa rfl (sn (cB h0 rfl (fun h0 => ?_) (fun h0 => ?_))))
 ·have q := si h0; subst q
  exact sr (sa rfl (sn (SC.ret (finR (wc (e' := [(4, .d (eI (8 : Int)))]) [] [] (by kernel_rfl) rfl (by kernel_rfl)) (lresT rfl lresN) rfl))))
 ·refine sr (s1 (far (k := 0) rfl fo74_0 ts3 rfl) (s1 (lod rfl (ld_box ts3 ta3 rfl rfl)) (s1 (bi rfl rfl q_i64_eql) (sa rfl (sn (cB h0 rfl (fun h0 => ?_) (fun h0 => ?_)))))))
  ·refine sq (sr (s1 (far (k := 3) rfl fo76_3 ts4 rfl) (s1 (lod rfl (ld_box ts4 ta4 rfl rfl)) (sn (cB h0 rfl (fun h0 => ?_) (fun h0 => ?_))))))
   ·have q := si h0; subst q
    exact sr (sa rfl (sn (SC.ret (finR (wc (e' := [(4, .d (eI (0 : Int)))]) [] [] (by kernel_rfl) rfl (by kernel_rfl)) (lresT rfl lresN) rfl))))
   ·have q := si h0; subst q
    exact sk (sr (sa rfl (sn (SC.ret (finR (wc (e' := [(4, .d (eI (8 : Int)))]) [] [] (by kernel_rfl) rfl (by kernel_rfl)) (lresT rfl lresN) rfl)))))
  ·refine sr (s1 (far (k := 0) rfl fo74_0 ts3 rfl) (s1 (lod rfl (ld_box ts3 ta3 rfl rfl)) (s1 (far (k := 1) rfl fo76_1 ts3 rfl) (s1 (lod rfl (ld_box ts3 ta3 rfl rfl)) (s1 (bi rfl rfl q_i64_neq) (sa rfl (sn (cB h0 rfl (fun h0 => ?_) (fun h0 => ?_)))))))))
   ·have q := si h0; subst q
    exact sr (sa rfl (sn (SC.ret (finR (wc (e' := [(4, .d (eI (8 : Int)))]) [] [] (by kernel_rfl) rfl (by kernel_rfl)) (lresT rfl lresN) rfl))))
   ·refine SC.seqP h0 (fun y => ⟨mk 33 [(21, .d (eB y))], []⟩) ?_ ?_
    ·intro u1_23 h1
     obtain ⟨r25, hq24, h1⟩ := ob h1
     refine SC.region (s1 (far (k := 0) rfl fo74_0 ts3 rfl) (s1 (lod rfl (ld_box ts3 ta3 rfl rfl)) (c0 (value_long_ok p1.Kind _ hq24) wf rfl rfl rfl cb93 rfl (fun _ => rfl) (fun _ => rfl) (sm rfl (sp h1 (fun h1 => ?_) (fun h1 => ?_))))))
     ·have q := si h1; subst q
      exact gw rfl (far (k := 2) rfl fo74_2 ts9 rfl) (gw rfl (lod rfl (ld_box ts9 ta9 rfl rfl)) (gw rfl (len rfl rfl rfl (len_str un9)) (gw rfl (far (k := 2) rfl fo76_2 ts3 rfl) (gw rfl (lod rfl (ld_box ts3 ta3 rfl rfl)) (gw rfl (bi rfl rfl q_i64_gtr) (s1 (pkt rfl rfl) (sa rfl (SO.nil ((wc [] [] (by kernel_rfl) rfl (by kernel_rfl)))))))))))
     ·have q := si h1; subst q
      exact kw rfl (kw rfl (kw rfl (kw rfl (kw rfl (kw rfl (s1 (pkf rfl rfl) (sa rfl (SO.nil ((wc [] [] (by kernel_rfl) rfl (by kernel_rfl)))))))))))
    ·rintro y22 h0
     refine cB h0 rfl (fun h0 => ?_) (fun h0 => ?_)
     ·have q := si h0; subst q
      exact sr (sa rfl (sn (SC.ret (finR (Wk.refl _) (lresT rfl lresN) rfl))))
     ·refine SC.skip ?_
      change SC _ _ _ _ _
      have q := si h0; subst q
      exact sr (sa rfl (sn (SC.ret (finR (Wk.refl _) (lresT rfl lresN) rfl))))
noncomputable def value_Column (p0 : ApiColumn) : Option Int :=
 Option.bind (value_Name p0.Name) fun r43 =>
 bif (!r43) then
 some (1 : Int)
 else
 Option.bind (α := Bool)
 (bif (decide (p0.Kind < (1 : Int))) then
 some true
 else
 some (decide (p0.Kind > (5 : Int))))
 fun y44 =>
 bif y44 then
 some (8 : Int)
 else
 Option.bind (α := Bool)
 (Option.bind (value_long p0.Kind) fun r55 =>
 bif r55 then
 bif (decide (p0.Max < (1 : Int))) then
 some true
 else
 bif (decide (p0.Max > (64 : Int))) then
 some true
 else
 Option.bind (value_long p0.Kind) fun r57 =>
 bif (!r57) then
 some (p0.Max != (0 : Int))
 else
 some false
 else
 Option.bind (value_long p0.Kind) fun r59 =>
 bif (!r59) then
 some (p0.Max != (0 : Int))
 else
 some false)
 fun y52 =>
 bif y52 then
 some (7 : Int)
 else
 Option.bind (value_Fits p0 p0.Default) fun r61 =>
 some r61
theorem value_Column_ok (p0 : ApiColumn) (r : Int) (h0 : value_Column p0 = some r) : CallAt Tryz.prog 92 [.d (eApiColumn p0)] [] (.d (eI r)) [] := by
 unfold value_Column at h0
 refine fn0 [0] Tryz.func92 rfl rfl rfl rfl rfl ?_
 obtain ⟨r43, hq42, h0⟩ := ob h0
 refine sr (s1 (bxo (k := 0) rfl rfl rfl) (sa rfl (sn (sq (SC.blk (sr (s1 (far (k := 0) rfl fo76_0 ts9 rfl) (s1 (lod rfl (ld_box ts9 ta9 rfl rfl)) (c0 (value_Name_ok p0.Name _ hq42) wf rfl rfl rfl cb123 rfl (fun _ => rfl) (fun _ => rfl) ?_)))))))))
 refine s1 (nt rfl) (sa rfl (sn (cB h0 rfl (fun h0 => ?_) (fun h0 => ?_))))
 ·have q := si h0; subst q
  exact sr (sa rfl (sn (SC.ret (finR (wc (e' := [(2, .d (eI (1 : Int)))]) [] [] (by kernel_rfl) rfl (by kernel_rfl)) (lresT rfl lresN) rfl))))
 ·refine SC.seqP h0 (fun y => ⟨mk 46 [(1, .ref 0 0 0), (8, .d (eB y))], [.box (.d (eApiColumn p0))]⟩) ?_ ?_
  ·intro u1_45 h1
   refine SC.region (s1 (far (k := 1) rfl fo76_1 ts3 rfl) (s1 (lod rfl (ld_box ts3 ta3 rfl rfl)) (s1 (bi rfl rfl q_i64_lss) (sm rfl (sp h1 (fun h1 => ?_) (fun h1 => ?_))))))
   ·have q := si h1; subst q
    exact kw rfl (kw rfl (kw rfl (s1 (pkt rfl rfl) (sa rfl (SO.nil ((wq rfl)))))))
   ·have q := si h1; subst q
    exact gw rfl (far (k := 1) rfl fo76_1 ts3 rfl) (gw rfl (lod rfl (ld_box ts3 ta3 rfl rfl)) (gw rfl (bi rfl rfl q_i64_gtr) (s1 (pkf rfl rfl) (sa rfl (SO.nil ((wq rfl)))))))
  ·rintro y44 h0
   refine cB h0 rfl (fun h0 => ?_) (fun h0 => ?_)
   ·have q := si h0; subst q
    exact sr (sa rfl (sn (SC.ret (finR (wc (e' := [(2, .d (eI (8 : Int)))]) [] [] (by kernel_rfl) rfl (by kernel_rfl)) (lresT rfl lresN) rfl))))
   ·refine SC.seqP h0 (fun y => ⟨mk 46 [(1, .ref 0 0 0), (17, .d (eB y))], [.box (.d (eApiColumn p0))]⟩) ?_ ?_
    ·intro u1_53 h1
     obtain ⟨r55, hq54, h1⟩ := ob h1
     refine SC.region (s1 (far (k := 1) rfl fo76_1 ts3 rfl) (s1 (lod rfl (ld_box ts3 ta3 rfl rfl)) (c0 (value_long_ok p0.Kind _ hq54) wf rfl rfl rfl cb93 rfl (fun _ => rfl) (fun _ => rfl) (sm rfl (sp h1 (fun h1 => ?_) (fun h1 => ?_))))))
     ·refine gw rfl (far (k := 2) rfl fo76_2 ts3 rfl) (gw rfl (lod rfl (ld_box ts3 ta3 rfl rfl)) (gw rfl (bi rfl rfl q_i64_lss) (gw rfl (mv rfl) (sp h1 (fun h1 => ?_) (fun h1 => ?_)))))
      ·have q := si h1; subst q
       refine kw rfl (kw rfl (kw rfl (gw rfl (pkt rfl rfl) (s1 (pkt rfl rfl) (sm rfl (kw rfl (kw rfl (kw rfl (kw rfl ?_)))))))))
       exact kw rfl (kw rfl (kw rfl (kw rfl (kw rfl (s1 (pkt rfl rfl) (sa rfl (SO.nil ((wq rfl)))))))))
      ·refine gw rfl (far (k := 2) rfl fo76_2 ts3 rfl) (gw rfl (lod rfl (ld_box ts3 ta3 rfl rfl)) (gw rfl (bi rfl rfl q_i64_gtr) (gw rfl (pkf rfl rfl) (s1 (pkt rfl rfl) (sm rfl (sp h1 (fun h1 => ?_) (fun h1 => ?_)))))))
       ·have q := si h1; subst q
        refine kw rfl (kw rfl (kw rfl (kw rfl (kw rfl (kw rfl (kw rfl (kw rfl (kw rfl (s1 (pkt rfl rfl) ?_)))))))))
        exact sa rfl (SO.nil ((wq rfl)))
       ·obtain ⟨r57, hq56, h1⟩ := ob h1
        refine gw rfl (far (k := 1) rfl fo76_1 ts3 rfl) (gw rfl (lod rfl (ld_box ts3 ta3 rfl rfl)) (c0 (value_long_ok p0.Kind _ hq56) (ww rfl) rfl rfl rfl cb93 rfl (fun _ => rfl) (fun _ => rfl) (gw rfl (nt rfl) (gw rfl (mv rfl) (sp h1 (fun h1 => ?_) (fun h1 => ?_))))))
        ·have q := si h1; subst q
         exact gw rfl (far (k := 2) rfl fo76_2 ts3 rfl) (gw rfl (lod rfl (ld_box ts3 ta3 rfl rfl)) (gw rfl (bi rfl rfl q_i64_neq) (gw rfl (pkt rfl rfl) (s1 (pkf rfl rfl) (sa rfl (SO.nil ((wq rfl))))))))
        ·have q := si h1; subst q
         exact kw rfl (kw rfl (kw rfl (gw rfl (pkf rfl rfl) (s1 (pkf rfl rfl) (sa rfl (SO.nil ((wq rfl))))))))
     ·obtain ⟨r59, hq58, h1⟩ := ob h1
      refine kw rfl (kw rfl (kw rfl (kw rfl (kw rfl (kw rfl (kw rfl (kw rfl (s1 (pkf rfl rfl) (sm rfl ?_)))))))))
      refine gw rfl (far (k := 1) rfl fo76_1 ts3 rfl) (gw rfl (lod rfl (ld_box ts3 ta3 rfl rfl)) (c0 (value_long_ok p0.Kind _ hq58) (ww rfl) rfl rfl rfl cb93 rfl (fun _ => rfl) (fun _ => rfl) (gw rfl (nt rfl) (gw rfl (mv rfl) (sp h1 (fun h1 => ?_) (fun h1 => ?_))))))
      ·have q := si h1; subst q
       exact gw rfl (far (k := 2) rfl fo76_2 ts3 rfl) (gw rfl (lod rfl (ld_box ts3 ta3 rfl rfl)) (gw rfl (bi rfl rfl q_i64_neq) (gw rfl (pkt rfl rfl) (s1 (pkf rfl rfl) (sa rfl (SO.nil ((wq rfl))))))))
      ·have q := si h1; subst q
       exact kw rfl (kw rfl (kw rfl (gw rfl (pkf rfl rfl) (s1 (pkf rfl rfl) (sa rfl (SO.nil ((wq rfl))))))))
    ·rintro y52 h0
     refine cB h0 rfl (fun h0 => ?_) (fun h0 => ?_)
     ·have q := si h0; subst q
      exact sr (sa rfl (sn (SC.ret (finR (wc (e' := [(2, .d (eI (7 : Int)))]) [] [] (by kernel_rfl) rfl (by kernel_rfl)) (lresT rfl lresN) rfl))))
     ·refine SC.skip ?_
      change SC _ _ _ _ _
      obtain ⟨r61, hq60, h0⟩ := ob h0; have q := si h0; subst q
      exact sr (s1 (lod (v := .d (eApiColumn p0)) rfl (ld_box ts76 ta76 rfl rfl)) (s1 (far (k := 4) rfl fo76_4 ts74 rfl) (s1 (lod (v := .d (eApiValue p0.Default)) rfl (ld_box ts74 ta74 rfl rfl)) (c0 (value_Fits_ok p0 p0.Default _ hq60) wf rfl rfl rfl cb55 rfl (fun _ => rfl) (fun _ => rfl) (sa rfl (sn (SC.ret (finR (wc (e' := [(2, .d (eI r61))]) [] [] (by kernel_rfl) rfl (by kernel_rfl)) (lresT rfl lresN) rfl))))))))
noncomputable def row_columns_1 (p0 : ApiColumn) : Option Bool :=
 Option.bind (value_Column p0) fun r7 =>
 some (r7 != (0 : Int))
theorem row_columns_1_ok (p0 : ApiColumn) (r : Bool) (h0 : row_columns_1 p0 = some r) : CallAt Tryz.prog 91 [.d (eApiColumn p0)] [] (.d (eB r)) [] := by
 unfold row_columns_1 at h0
 refine fn0 [0] Tryz.func91 rfl rfl rfl rfl rfl ?_
 obtain ⟨r7, hq6, h0⟩ := ob h0; have q := si h0; subst q
 refine sr (s1 (bxo (k := 0) rfl rfl rfl) (sa rfl (sn (sr (s1 (lod (v := .d (eApiColumn p0)) rfl (ld_box ts76 ta76 rfl rfl)) (c0 (value_Column_ok p0 _ hq6) wf rfl rfl rfl cb92 rfl (fun _ => rfl) (fun _ => rfl) (s1 (bi rfl rfl q_i64_neq) (sa rfl (sn ?_)))))))))
 exact SC.ret (finR (wc (e' := [(2, .d (eB (r7 != (0 : Int))))]) [] [] (by kernel_rfl) rfl (by kernel_rfl)) (lresT rfl lresN) rfl)
noncomputable def slices_IndexFunc_api_Column_api_Column (p0 : List ApiColumn) : Option Int :=
 bindE (Y := Unit) (E := Int)
 (Option.bind (α := Unit ⊕ Int)
 (loop (Y := Int) (W := Unit ⊕ Int) (fun y78 =>
 bif (decide (y78 < (p0.length : Int))) then
 Option.bind (getI p0 y78) fun v85 =>
 Option.bind (row_columns_1 v85) fun r87 =>
 bif r87 then
 some (Sum.inr (Sum.inr y78))
 else
 some (Sum.inl (w64 (y78 + (1 : Int))))
 else
 some (Sum.inr (Sum.inl ()))) (0 : Int))
 (Sum.elim (fun e => some (Sum.inl e)) (fun e => some (Sum.inr e))))
 (fun _ =>
 some (-1 : Int))
 (fun e => some e)
theorem slices_IndexFunc_api_Column_api_Column_ok (p0 : List ApiColumn) (r : Int) (h0 : slices_IndexFunc_api_Column_api_Column p0 = some r) : CallAt Tryz.prog 122 [.d ((eL 7 eApiColumn) p0), .fn (.func 91) [] []] [] (.d (eI r)) [] := by
 unfold slices_IndexFunc_api_Column_api_Column at h0
 refine fn0 [0, 1] Tryz.func122 rfl rfl rfl rfl rfl ?_
 refine sr (sa rfl (sn (SC.seqB h0 (fun y => ⟨mk 19 [], []⟩) ?_ ?_)))
 ·intro u1_74 h1 h0
  obtain ⟨u2_84, h2, h1⟩ := ob h1
  refine sr (sm rfl (s1 (len rfl rfl rfl (len_lst un22)) (sm rfl (sn (SC.blk (SC.loopB h2 (fun y => ⟨mk 19 [(0, .d ((eL 7 eApiColumn) p0)), (1, .fn (.func 91) [] []), (7, .d (eI (p0.length : Int))), (8, .d (eI y))], []⟩) (wq rfl) ?_))))))
  intro n88
  rintro y78 w2_83 h3 hv3
  refine sr (s1 (bi rfl rfl q_i64_lss) (sn (sq (cB h3 rfl (fun h3 => ?_) (fun h3 => ?_)))))
  ·obtain ⟨v85, hv85, h3⟩ := ob h3; obtain ⟨r87, hq86, h3⟩ := ob h3
   refine sk (sq (SC.blk (sr (sm rfl (sa rfl (sn (sr (sm rfl (sm rfl ?_)))))))))
   refine sm rfl (s1 (ial rfl rfl un22 ts76 (getI_some hv85).1 (map_get (getI_some hv85).2) rfl) (s1 (lod (v := .d (eApiColumn v85)) rfl (ld_rop ts76 ta76 rfl)) (c0 (row_columns_1_ok v85 _ hq86) wf rfl rfl rfl cb91 rfl (fun _ => rfl) (fun _ => rfl) (sn (cB h3 rfl (fun h3 => ?_) (fun h3 => ?_))))))
   ·have q := si h3; subst q; have q : _ = _ := hv3; subst q; have q := si h1; subst q; have q := si h0; subst q
    exact sr (sm rfl (sa rfl (sn (SC.ret (finR (Wk.refl _) (lresT rfl lresN) rfl)))))
   ·refine SC.skip ?_
    change SC _ _ _ _ _
    have q := si h3; subst q
    exact SC.region (s1 (bi rfl rfl q_i64_add) (sm rfl (SO.nil (lf (wq rfl)))))
  ·have q := si h3; subst q; have q : _ = _ := hv3; subst q; have q := si h1; subst q
   exact SC.exit (lf (wq rfl))
 ·intro _ h0
  have q := si h0; subst q
  exact sr (sa rfl (sn (SC.ret (finR (Wk.refl _) (lresT rfl lresN) rfl))))
noncomputable def slices_ContainsFunc_api_Column_api_Column (p0 : List ApiColumn) : Option Bool :=
 Option.bind (slices_IndexFunc_api_Column_api_Column p0) fun r7 =>
 some (decide (r7 ≥ (0 : Int)))
theorem slices_ContainsFunc_api_Column_api_Column_ok (p0 : List ApiColumn) (r : Bool) (h0 : slices_ContainsFunc_api_Column_api_Column p0 = some r) : CallAt Tryz.prog 90 [.d ((eL 7 eApiColumn) p0), .fn (.func 91) [] []] [] (.d (eB r)) [] := by
 unfold slices_ContainsFunc_api_Column_api_Column at h0
 refine fn0 [0, 1] Tryz.func90 rfl rfl rfl rfl rfl ?_
 obtain ⟨r7, hq6, h0⟩ := ob h0; have q := si h0; subst q
 refine sr (sa rfl (sn (sr (sm rfl (sm rfl (c0 (slices_IndexFunc_api_Column_api_Column_ok p0 _ hq6) wf rfl rfl rfl cb122 rfl (fun _ => rfl) (fun _ => rfl) (s1 (bi rfl rfl q_i64_geq) (sa rfl (sn ?_)))))))))
 exact SC.ret (finR (Wk.refl _) (lresT rfl lresN) rfl)
noncomputable def row_columns (p0 : List ApiColumn) : Option Bool :=
 Option.bind (α := Bool)
 (bif (decide ((p0.length : Int) ≥ (1 : Int))) then
 bif (decide ((p0.length : Int) ≤ (24 : Int))) then
 Option.bind (slices_ContainsFunc_api_Column_api_Column p0) fun r19 =>
 some (!r19)
 else
 some false
 else
 some false)
 fun y16 =>
 some y16
theorem row_columns_ok (p0 : List ApiColumn) (r : Bool) (h0 : row_columns p0 = some r) : CallAt Tryz.prog 54 [.d ((eL 7 eApiColumn) p0)] [] (.d (eB r)) [] := by
 unfold row_columns at h0
 refine fn0 [0] Tryz.func54 rfl rfl rfl rfl rfl ?_
 refine sr (sa rfl (sn (SC.seqP h0 (fun y => ⟨mk 16 [(2, .d (eB y))], []⟩) ?_ ?_)))
 ·intro u1_17 h1
  refine SC.region (sm rfl (s1 (len rfl rfl rfl (len_lst un22)) (s1 (bi rfl rfl q_i64_geq) (sm rfl (sp h1 (fun h1 => ?_) (fun h1 => ?_))))))
  ·refine gw rfl (mv rfl) (gw rfl (len rfl rfl rfl (len_lst un22)) (gw rfl (bi rfl rfl q_i64_leq) (s1 (pkt rfl rfl) (sm rfl (sp h1 (fun h1 => ?_) (fun h1 => ?_))))))
   ·obtain ⟨r19, hq18, h1⟩ := ob h1; have q := si h1; subst q
    exact gw rfl (mv rfl) (c0 (slices_ContainsFunc_api_Column_api_Column_ok p0 _ hq18) (ww rfl) rfl rfl rfl cb90 rfl (fun _ => rfl) (fun _ => rfl) (gw rfl (nt rfl) (s1 (pkt rfl rfl) (sa rfl (SO.nil ((wq rfl)))))))
   ·have q := si h1; subst q
    exact kw rfl (kw rfl (kw rfl (s1 (pkf rfl rfl) (sa rfl (SO.nil ((wq rfl)))))))
  ·have q := si h1; subst q
   refine kw rfl (kw rfl (kw rfl (s1 (pkf rfl rfl) (sm rfl (kw rfl (kw rfl (kw rfl (s1 (pkf rfl rfl) (sa rfl ?_)))))))))
   exact SO.nil ((wq rfl))
 ·rintro y16 h0
  have q := si h0; subst q
  exact SC.ret (finR (Wk.refl _) (lresT rfl lresN) rfl)
noncomputable def row_Fits (p0 : List ApiColumn) (p1 : List ApiValue) : Option Int :=
 Option.bind (α := Bool)
 (Option.bind (row_columns p0) fun r89 =>
 bif (!r89) then
 some true
 else
 some ((p1.length : Int) != (p0.length : Int)))
 fun y86 =>
 bif y86 then
 some (1 : Int)
 else
 bindE (Y := Unit) (E := Int)
 (Option.bind (α := Unit ⊕ Int)
 (loop (Y := Int) (W := Unit ⊕ Int) (fun y112 =>
 bif (decide (y112 < (p1.length : Int))) then
 Option.bind (getI p1 y112) fun v120 =>
 Option.bind (getI p0 y112) fun v121 =>
 Option.bind (value_Fits v121 v120) fun r123 =>
 bif (r123 != (0 : Int)) then
 some (Sum.inr (Sum.inr r123))
 else
 some (Sum.inl (w64 (y112 + (1 : Int))))
 else
 some (Sum.inr (Sum.inl ()))) (0 : Int))
 (Sum.elim (fun e => some (Sum.inl e)) (fun e => some (Sum.inr e))))
 (fun _ =>
 some (0 : Int))
 (fun e => some e)
theorem row_Fits_ok (p0 : List ApiColumn) (p1 : List ApiValue) (r : Int) (h0 : row_Fits p0 p1 = some r) : CallAt Tryz.prog 21 [.d ((eL 7 eApiColumn) p0), .d ((eL 3 eApiValue) p1)] [] (.d (eI r)) [] := by
 unfold row_Fits at h0
 refine fn0 [0, 1] Tryz.func21 rfl rfl rfl rfl rfl ?_
 refine sr (sa rfl (sn (sq (SC.seqP h0 (fun y => ⟨mk 35 [(0, .d ((eL 7 eApiColumn) p0)), (1, .d ((eL 3 eApiValue) p1)), (17, .d (eB y))], []⟩) ?_ ?_))))
 ·intro u1_87 h1
  obtain ⟨r89, hq88, h1⟩ := ob h1
  refine SC.region (sm rfl (c0 (row_columns_ok p0 _ hq88) wf rfl rfl rfl cb54 rfl (fun _ => rfl) (fun _ => rfl) (s1 (nt rfl) (sm rfl (sp h1 (fun h1 => ?_) (fun h1 => ?_))))))
  ·have q := si h1; subst q
   exact kw rfl (kw rfl (kw rfl (kw rfl (kw rfl (s1 (pkt rfl rfl) (SO.nil ((wq rfl))))))))
  ·have q := si h1; subst q
   exact gw rfl (mv rfl) (gw rfl (len rfl rfl rfl (len_lst un61)) (gw rfl (mv rfl) (gw rfl (len rfl rfl rfl (len_lst un22)) (gw rfl (bi rfl rfl q_i64_neq) (s1 (pkf rfl rfl) (SO.nil ((wq rfl))))))))
 ·rintro y86 h0
  refine cB h0 rfl (fun h0 => ?_) (fun h0 => ?_)
  ·have q := si h0; subst q
   exact sr (sa rfl (sn (SC.ret (finR (Wk.refl _) (lresT rfl lresN) rfl))))
  ·refine sk (SC.seqB h0 (fun y => ⟨mk 35 [], []⟩) ?_ ?_)
   ·intro u1_107 h1 h0
    obtain ⟨u2_119, h2, h1⟩ := ob h1
    refine sr (sm rfl (s1 (len rfl rfl rfl (len_lst un61)) (sm rfl (sn (SC.blk (SC.loopB h2 (fun y => ⟨mk 35 [(0, .d ((eL 7 eApiColumn) p0)), (18, .d ((eL 3 eApiValue) p1)), (19, .d (eI (p1.length : Int))), (20, .d (eI y))], []⟩) (wq rfl) ?_))))))
    intro n124
    rintro y112 w2_118 h3 hv3
    refine sr (s1 (bi rfl rfl q_i64_lss) (sn (sq (cB h3 rfl (fun h3 => ?_) (fun h3 => ?_)))))
    ·obtain ⟨v120, hv120, h3⟩ := ob h3; obtain ⟨v121, hv121, h3⟩ := ob h3; obtain ⟨r123, hq122, h3⟩ := ob h3
     refine sk (sq (SC.blk (sr (sm rfl (s1 (ial rfl rfl un61 ts74 (getI_some hv120).1 (map_get (getI_some hv120).2) rfl) (s1 (lod (v := .d (eApiValue v120)) rfl (ld_rop ts74 ta74 rfl)) (s1 (alo (k := 0) zo74 rfl) (sa rfl (s0 (sto rfl rfl (sB (d' := .d (eApiValue v120)) ts74 rfl rfl rfl rfl rfl rfl rfl)) ?_)))))))))
     refine sn (sd (by kernel_rfl) (t1 ([], false) (mv rfl) rfl (t1 ([], false) (mv rfl) rfl (t1 ([], false) (ial rfl rfl un22 ts76 (getI_some hv121).1 (map_get (getI_some hv121).2) rfl) rfl (t1 ([], false) (lod (v := .d (eApiColumn v121)) rfl (ld_rop ts76 ta76 rfl)) rfl (t1 ([0], false) (lod (v := .d (eApiValue v120)) rfl (ld_box ts74 ta74 rfl rfl)) rfl (tc0 (value_Fits_ok v121 v120 _ hq122) wf rfl rfl rfl cb55 rfl (fun _ => rfl) (fun _ => rfl) (t1 ([], false) (asg rfl) rfl (tn (by decide +kernel) ?_)))))))))
     refine sr (sm rfl (s1 (bi rfl rfl q_i64_neq) (sn (cB h3 rfl (fun h3 => ?_) (fun h3 => ?_)))))
     ·have q := si h3; subst q; have q : _ = _ := hv3; subst q; have q := si h1; subst q; have q := si h0; subst q
      exact sr (sm rfl (sa rfl (sn (SC.ret (finR (wc (e' := [(4, .d (eI r123))]) [] [] (by kernel_rfl) rfl (by kernel_rfl)) (lresT rfl lresN) rfl)))))
     ·refine SC.skip ?_
      change SC _ _ _ _ _
      have q := si h3; subst q
      exact SC.region (s1 (bi rfl rfl q_i64_add) (sm rfl (SO.nil (lf (wc [] [] (by kernel_rfl) rfl (by kernel_rfl))))))
    ·have q := si h3; subst q; have q : _ = _ := hv3; subst q; have q := si h1; subst q
     exact SC.exit (lf (wq rfl))
   ·intro _ h0
    have q := si h0; subst q
    exact sr (sa rfl (sn (SC.ret (finR (Wk.refl _) (lresT rfl lresN) rfl))))
noncomputable def pred_workers : Option Unit :=
 some ()
theorem pred_workers_ok (r : Unit) (h0 : pred_workers = some r) : CallAt Tryz.prog 56 [] [] (.agg [.d .nilf, .fn (.func 94) [] [], .fn (.func 95) [] [], .fn (.func 96) [] [], .fn (.func 97) [] [], .fn (.func 98) [] [], .fn (.func 99) [] []]) [.box (.agg [.d .nilf, .fn (.func 94) [] [], .fn (.func 95) [] [], .fn (.func 96) [] [], .fn (.func 97) [] [], .fn (.func 98) [] [], .fn (.func 99) [] []])] := by
 unfold pred_workers at h0
 refine fn0 [] Tryz.func56 rfl rfl rfl rfl rfl ?_
 have q := si h0; subst q
 exact sr (s1 (alo (k := 0) zo117 rfl) (sn (sr (s1 (bld rfl (bd117_1_2_3_4_5_6 )) (s0 (sto rfl rfl (sB (d' := .agg [.d .nilf, .fn (.func 94) [] [], .fn (.func 95) [] [], .fn (.func 96) [] [], .fn (.func 97) [] [], .fn (.func 98) [] [], .fn (.func 99) [] []]) ts117 rfl rfl rfl rfl rfl rfl rfl)) (sn (SC.ret (finR (Wk.refl _) (lresC rfl (ld_box ts117 ta117 rfl rfl) lresN) rfl))))))))
noncomputable def cmp_isNaN_int (p0 : Int) : Option Unit :=
 some ()
theorem cmp_isNaN_int_ok (p0 : Int) (r : Unit) (h0 : cmp_isNaN_int p0 = some r) : CallAt Tryz.prog 138 [.d (eI p0)] [] (.d (eB (p0 != p0))) [] := by
 unfold cmp_isNaN_int at h0
 refine fn0 [0] Tryz.func138 rfl rfl rfl rfl rfl ?_
 have q := si h0; subst q
 refine sr (sa rfl (sn (sr (sm rfl (sm rfl (s1 (bi rfl rfl q_i64_neq) (sa rfl (sn (SC.ret ?_)))))))))
 exact finR (Wk.refl _) (lresT rfl lresN) rfl
noncomputable def cmp_Compare_int (p0 : Int) (p1 : Int) : Option Int :=
 Option.bind (cmp_isNaN_int p0) fun _ =>
 Option.bind (cmp_isNaN_int p1) fun _ =>
 bif (p0 != p0) then
 bif (p1 != p1) then
 some (0 : Int)
 else
 some (-1 : Int)
 else
 bif (p1 != p1) then
 some (1 : Int)
 else
 bif (decide (p0 < p1)) then
 some (-1 : Int)
 else
 bif (decide (p0 > p1)) then
 some (1 : Int)
 else
 some (0 : Int)
theorem cmp_Compare_int_ok (p0 : Int) (p1 : Int) (r : Int) (h0 : cmp_Compare_int p0 p1 = some r) : CallAt Tryz.prog 148 [.d (eI p0), .d (eI p1)] [] (.d (eI r)) [] := by
 unfold cmp_Compare_int at h0
 refine fn0 [0, 1] Tryz.func148 rfl rfl rfl rfl rfl ?_
 obtain ⟨_, hq6, h0⟩ := ob h0; obtain ⟨_, hq7, h0⟩ := ob h0
 refine sr (sa rfl (sn (sr (sm rfl (c0 (cmp_isNaN_int_ok p0 _ hq6) wf rfl rfl rfl cb138 rfl (fun _ => rfl) (fun _ => rfl) (sa rfl (sn (sr (sm rfl ?_)))))))))
 refine c0 (cmp_isNaN_int_ok p1 _ hq7) wf rfl rfl rfl cb138 rfl (fun _ => rfl) (fun _ => rfl) (sa rfl (sn (sq (sr (sm rfl (sn (cB h0 rfl (fun h0 => ?_) (fun h0 => ?_))))))))
 ·refine sq (sr (sm rfl (sn (cB h0 rfl (fun h0 => ?_) (fun h0 => ?_)))))
  ·have q := si h0; subst q
   exact sr (sa rfl (sn (SC.ret (finR (Wk.refl _) (lresT rfl lresN) rfl))))
  ·have q := si h0; subst q
   exact sk (sr (sa rfl (sn (SC.ret (finR (Wk.refl _) (lresT rfl lresN) rfl)))))
 ·refine sk (sq (sr (sm rfl (sn (cB h0 rfl (fun h0 => ?_) (fun h0 => ?_))))))
  ·have q := si h0; subst q
   exact sr (sa rfl (sn (SC.ret (finR (Wk.refl _) (lresT rfl lresN) rfl))))
  ·refine sk (sq (sr (sm rfl (sm rfl (s1 (bi rfl rfl q_i64_lss) (sn (cB h0 rfl (fun h0 => ?_) (fun h0 => ?_))))))))
   ·have q := si h0; subst q
    exact sr (sa rfl (sn (SC.ret (finR (Wk.refl _) (lresT rfl lresN) rfl))))
   ·refine sk (sq (sr (sm rfl (sm rfl (s1 (bi rfl rfl q_i64_gtr) (sn (cB h0 rfl (fun h0 => ?_) (fun h0 => ?_))))))))
    ·have q := si h0; subst q
     exact sr (sa rfl (sn (SC.ret (finR (Wk.refl _) (lresT rfl lresN) rfl))))
    ·have q := si h0; subst q
     exact sk (sr (sa rfl (sn (SC.ret (finR (Wk.refl _) (lresT rfl lresN) rfl)))))
noncomputable def cmp_isNaN_int64 (p0 : Int) : Option Unit :=
 some ()
theorem cmp_isNaN_int64_ok (p0 : Int) (r : Unit) (h0 : cmp_isNaN_int64 p0 = some r) : CallAt Tryz.prog 154 [.d (eI p0)] [] (.d (eB (p0 != p0))) [] := by
 unfold cmp_isNaN_int64 at h0
 refine fn0 [0] Tryz.func154 rfl rfl rfl rfl rfl ?_
 have q := si h0; subst q
 refine sr (sa rfl (sn (sr (sm rfl (sm rfl (s1 (bi rfl rfl q_i64_neq) (sa rfl (sn (SC.ret ?_)))))))))
 exact finR (Wk.refl _) (lresT rfl lresN) rfl
noncomputable def cmp_Compare_int64 (p0 : Int) (p1 : Int) : Option Int :=
 Option.bind (cmp_isNaN_int64 p0) fun _ =>
 Option.bind (cmp_isNaN_int64 p1) fun _ =>
 bif (p0 != p0) then
 bif (p1 != p1) then
 some (0 : Int)
 else
 some (-1 : Int)
 else
 bif (p1 != p1) then
 some (1 : Int)
 else
 bif (decide (p0 < p1)) then
 some (-1 : Int)
 else
 bif (decide (p0 > p1)) then
 some (1 : Int)
 else
 some (0 : Int)
theorem cmp_Compare_int64_ok (p0 : Int) (p1 : Int) (r : Int) (h0 : cmp_Compare_int64 p0 p1 = some r) : CallAt Tryz.prog 149 [.d (eI p0), .d (eI p1)] [] (.d (eI r)) [] := by
 unfold cmp_Compare_int64 at h0
 refine fn0 [0, 1] Tryz.func149 rfl rfl rfl rfl rfl ?_
 obtain ⟨_, hq6, h0⟩ := ob h0; obtain ⟨_, hq7, h0⟩ := ob h0
 refine sr (sa rfl (sn (sr (sm rfl (c0 (cmp_isNaN_int64_ok p0 _ hq6) wf rfl rfl rfl cb154 rfl (fun _ => rfl) (fun _ => rfl) (sa rfl (sn (sr (sm rfl ?_)))))))))
 refine c0 (cmp_isNaN_int64_ok p1 _ hq7) wf rfl rfl rfl cb154 rfl (fun _ => rfl) (fun _ => rfl) (sa rfl (sn (sq (sr (sm rfl (sn (cB h0 rfl (fun h0 => ?_) (fun h0 => ?_))))))))
 ·refine sq (sr (sm rfl (sn (cB h0 rfl (fun h0 => ?_) (fun h0 => ?_)))))
  ·have q := si h0; subst q
   exact sr (sa rfl (sn (SC.ret (finR (Wk.refl _) (lresT rfl lresN) rfl))))
  ·have q := si h0; subst q
   exact sk (sr (sa rfl (sn (SC.ret (finR (Wk.refl _) (lresT rfl lresN) rfl)))))
 ·refine sk (sq (sr (sm rfl (sn (cB h0 rfl (fun h0 => ?_) (fun h0 => ?_))))))
  ·have q := si h0; subst q
   exact sr (sa rfl (sn (SC.ret (finR (Wk.refl _) (lresT rfl lresN) rfl))))
  ·refine sk (sq (sr (sm rfl (sm rfl (s1 (bi rfl rfl q_i64_lss) (sn (cB h0 rfl (fun h0 => ?_) (fun h0 => ?_))))))))
   ·have q := si h0; subst q
    exact sr (sa rfl (sn (SC.ret (finR (Wk.refl _) (lresT rfl lresN) rfl))))
   ·refine sk (sq (sr (sm rfl (sm rfl (s1 (bi rfl rfl q_i64_gtr) (sn (cB h0 rfl (fun h0 => ?_) (fun h0 => ?_))))))))
    ·have q := si h0; subst q
     exact sr (sa rfl (sn (SC.ret (finR (Wk.refl _) (lresT rfl lresN) rfl))))
    ·have q := si h0; subst q
     exact sk (sr (sa rfl (sn (SC.ret (finR (Wk.refl _) (lresT rfl lresN) rfl)))))
noncomputable def cmp_isNaN_uint64 (p0 : UInt64) : Option Unit :=
 some ()
theorem cmp_isNaN_uint64_ok (p0 : UInt64) (r : Unit) (h0 : cmp_isNaN_uint64 p0 = some r) : CallAt Tryz.prog 155 [.d (eU64 p0)] [] (.d (eB (p0 != p0))) [] := by
 unfold cmp_isNaN_uint64 at h0
 refine fn0 [0] Tryz.func155 rfl rfl rfl rfl rfl ?_
 have q := si h0; subst q
 refine sr (sa rfl (sn (sr (sm rfl (sm rfl (s1 (bi rfl rfl q_u64_neq) (sa rfl (sn (SC.ret ?_)))))))))
 exact finR (Wk.refl _) (lresT rfl lresN) rfl
noncomputable def cmp_Compare_uint64 (p0 : UInt64) (p1 : UInt64) : Option Int :=
 Option.bind (cmp_isNaN_uint64 p0) fun _ =>
 Option.bind (cmp_isNaN_uint64 p1) fun _ =>
 bif (p0 != p0) then
 bif (p1 != p1) then
 some (0 : Int)
 else
 some (-1 : Int)
 else
 bif (p1 != p1) then
 some (1 : Int)
 else
 bif (decide (p0 < p1)) then
 some (-1 : Int)
 else
 bif (decide (p1 < p0)) then
 some (1 : Int)
 else
 some (0 : Int)
theorem cmp_Compare_uint64_ok (p0 : UInt64) (p1 : UInt64) (r : Int) (h0 : cmp_Compare_uint64 p0 p1 = some r) : CallAt Tryz.prog 151 [.d (eU64 p0), .d (eU64 p1)] [] (.d (eI r)) [] := by
 unfold cmp_Compare_uint64 at h0
 refine fn0 [0, 1] Tryz.func151 rfl rfl rfl rfl rfl ?_
 obtain ⟨_, hq6, h0⟩ := ob h0; obtain ⟨_, hq7, h0⟩ := ob h0
 refine sr (sa rfl (sn (sr (sm rfl (c0 (cmp_isNaN_uint64_ok p0 _ hq6) wf rfl rfl rfl cb155 rfl (fun _ => rfl) (fun _ => rfl) (sa rfl (sn (sr (sm rfl ?_)))))))))
 refine c0 (cmp_isNaN_uint64_ok p1 _ hq7) wf rfl rfl rfl cb155 rfl (fun _ => rfl) (fun _ => rfl) (sa rfl (sn (sq (sr (sm rfl (sn (cB h0 rfl (fun h0 => ?_) (fun h0 => ?_))))))))
 ·refine sq (sr (sm rfl (sn (cB h0 rfl (fun h0 => ?_) (fun h0 => ?_)))))
  ·have q := si h0; subst q
   exact sr (sa rfl (sn (SC.ret (finR (Wk.refl _) (lresT rfl lresN) rfl))))
  ·have q := si h0; subst q
   exact sk (sr (sa rfl (sn (SC.ret (finR (Wk.refl _) (lresT rfl lresN) rfl)))))
 ·refine sk (sq (sr (sm rfl (sn (cB h0 rfl (fun h0 => ?_) (fun h0 => ?_))))))
  ·have q := si h0; subst q
   exact sr (sa rfl (sn (SC.ret (finR (Wk.refl _) (lresT rfl lresN) rfl))))
  ·refine sk (sq (sr (sm rfl (sm rfl (s1 (bi rfl rfl q_u64_lss) (sn (cB h0 rfl (fun h0 => ?_) (fun h0 => ?_))))))))
   ·have q := si h0; subst q
    exact sr (sa rfl (sn (SC.ret (finR (Wk.refl _) (lresT rfl lresN) rfl))))
   ·refine sk (sq (sr (sm rfl (sm rfl (s1 (bi rfl rfl q_u64_gtr) (sn (cB h0 rfl (fun h0 => ?_) (fun h0 => ?_))))))))
    ·have q := si h0; subst q
     exact sr (sa rfl (sn (SC.ret (finR (Wk.refl _) (lresT rfl lresN) rfl))))
    ·have q := si h0; subst q
     exact sk (sr (sa rfl (sn (SC.ret (finR (Wk.refl _) (lresT rfl lresN) rfl)))))
noncomputable def cmp_Or_int (p0 : List Int) : Option Int :=
 bindE (Y := Unit) (E := Int)
 (Option.bind (α := Unit ⊕ Int)
 (loop (Y := Int) (W := Unit ⊕ Int) (fun y46 =>
 bif (decide (y46 < (p0.length : Int))) then
 Option.bind (getI p0 y46) fun v51 =>
 bif (v51 != (0 : Int)) then
 some (Sum.inr (Sum.inr v51))
 else
 some (Sum.inl (w64 (y46 + (1 : Int))))
 else
 some (Sum.inr (Sum.inl ()))) (0 : Int))
 (Sum.elim (fun e => some (Sum.inl e)) (fun e => some (Sum.inr e))))
 (fun _ =>
 some (0 : Int))
 (fun e => some e)
theorem cmp_Or_int_ok (p0 : List Int) (r : Int) (h0 : cmp_Or_int p0 = some r) : CallAt Tryz.prog 150 [.d ((eL 1 eI) p0)] [] (.d (eI r)) [] := by
 unfold cmp_Or_int at h0
 refine fn0 [0] Tryz.func150 rfl rfl rfl rfl rfl ?_
 refine sr (sa rfl (sn (sr (sa rfl (sn (SC.seqB h0 (fun y => ⟨mk 18 [(3, .d (eI (0 : Int)))], []⟩) ?_ ?_))))))
 ·intro u1_44 h1 h0
  obtain ⟨u2_50, h2, h1⟩ := ob h1
  refine sr (sm rfl (s1 (len rfl rfl rfl (len_lst un23)) (sm rfl (sn (SC.blk (SC.loopB h2 (fun y => ⟨mk 18 [(3, .d (eI (0 : Int))), (6, .d ((eL 1 eI) p0)), (7, .d (eI (p0.length : Int))), (8, .d (eI y))], []⟩) (wq rfl) ?_))))))
  intro n52
  rintro y46 w2_49 h3 hv3
  refine sr (s1 (bi rfl rfl q_i64_lss) (sn (sq (cB h3 rfl (fun h3 => ?_) (fun h3 => ?_)))))
  ·obtain ⟨v51, hv51, h3⟩ := ob h3
   refine sk (sq (SC.blk (sr (s1 (ial rfl rfl un23 ts3 (getI_some hv51).1 (map_get (getI_some hv51).2) rfl) (s1 (lod rfl (ld_rop ts3 ta3 rfl)) (sa rfl (sn (sr (sm rfl ?_)))))))))
   refine sm rfl (s1 (bi rfl rfl q_i64_neq) (sn (cB h3 rfl (fun h3 => ?_) (fun h3 => ?_))))
   ·have q := si h3; subst q; have q : _ = _ := hv3; subst q; have q := si h1; subst q; have q := si h0; subst q
    exact sr (sm rfl (sa rfl (sn (SC.ret (finR (Wk.refl _) (lresT rfl lresN) rfl)))))
   ·refine SC.skip ?_
    change SC _ _ _ _ _
    have q := si h3; subst q
    exact SC.region (s1 (bi rfl rfl q_i64_add) (sm rfl (SO.nil (lf (wq rfl)))))
  ·have q := si h3; subst q; have q : _ = _ := hv3; subst q; have q := si h1; subst q
   exact SC.exit (lf (wq rfl))
 ·intro _ h0
  have q := si h0; subst q
  exact sr (sm rfl (sa rfl (sn (SC.ret (finR (Wk.refl _) (lresT rfl lresN) rfl)))))
noncomputable def value_Cmp_1 (p0 : ApiValue) (p1 : ApiValue) : Option Int :=
 Option.bind (cmp_Compare_int p0.Kind p1.Kind) fun r39 =>
 Option.bind (α := Int)
 (Option.bind (α := Bool)
 (bif (r39 == (0 : Int)) then
 some (p0.Kind == (1 : Int))
 else
 some false)
 fun y46 =>
 bif y46 then
 Option.bind (cmp_Compare_int64 (i64u p0.N) (i64u p1.N)) fun r49 =>
 some r49
 else
 some r39)
 fun y44 =>
 Option.bind (cmp_Compare_uint64 p0.N p1.N) fun r51 =>
 Option.bind (cmpF p0.S p1.S) fun r53 =>
 Option.bind (cmp_Or_int [y44, r51, r53]) fun r55 =>
 some r55
theorem value_Cmp_1_ok (p0 : ApiValue) (p1 : ApiValue) (r : Int) (h0 : value_Cmp_1 p0 p1 = some r) : CallAt Tryz.prog 140 [.d (eApiValue p0), .d (eApiValue p1)] [] (.d (eI r)) [] := by
 unfold value_Cmp_1 at h0
 refine fn0 [0, 1] Tryz.func140 rfl rfl rfl rfl rfl ?_
 obtain ⟨r39, hq38, h0⟩ := ob h0
 refine sr (s1 (bxo (k := 0) rfl rfl rfl) (s1 (bxo (k := 1) rfl rfl rfl) (sa rfl (sn (sr (s1 (far (k := 0) rfl fo74_0 ts3 rfl) (s1 (lod rfl (ld_box ts3 ta3 rfl rfl)) (s1 (far (k := 0) rfl fo74_0 ts3 rfl) (s1 (lod rfl (ld_box ts3 ta3 rfl rfl)) ?_)))))))))
 refine c0 (cmp_Compare_int_ok p0.Kind p1.Kind _ hq38) wf rfl rfl rfl cb148 rfl (fun _ => rfl) (fun _ => rfl) (sa rfl (sn (SC.seqP h0 (fun y => ⟨mk 38 [(2, .ref 0 0 0), (3, .ref 1 0 0), (5, .d (eI y))], [.box (.d (eApiValue p0)), .box (.d (eApiValue p1))]⟩) ?_ ?_)))
 ·intro u1_45 h1
  refine SC.seqP h1 (fun y => ⟨mk 38 [(2, .ref 0 0 0), (3, .ref 1 0 0), (5, .d (eI r39)), (17, .d (eB y))], [.box (.d (eApiValue p0)), .box (.d (eApiValue p1))]⟩) ?_ ?_
  ·intro u2_47 h2
   refine SC.region (sm rfl (s1 (bi rfl rfl q_i64_eql) (sm rfl (sp h2 (fun h2 => ?_) (fun h2 => ?_)))))
   ·have q := si h2; subst q
    exact gw rfl (far (k := 0) rfl fo74_0 ts3 rfl) (gw rfl (lod rfl (ld_box ts3 ta3 rfl rfl)) (gw rfl (bi rfl rfl q_i64_eql) (s1 (pkt rfl rfl) (SO.nil ((wq rfl))))))
   ·have q := si h2; subst q
    exact kw rfl (kw rfl (kw rfl (s1 (pkf rfl rfl) (SO.nil ((wq rfl))))))
  ·rintro y46 h1
   refine cB h1 rfl (fun h1 => ?_) (fun h1 => ?_)
   ·obtain ⟨r49, hq48, h1⟩ := ob h1; have q := si h1; subst q
    refine SC.region (s1 (far (k := 1) rfl fo74_1 ts72 rfl) (s1 (lod rfl (ld_box ts72 ta72 rfl rfl)) (s1 (cvo rfl (cv_u64_i64 un72 un2 p0.N)) (s1 (far (k := 1) rfl fo74_1 ts72 rfl) (s1 (lod rfl (ld_box ts72 ta72 rfl rfl)) (s1 (cvo rfl (cv_u64_i64 un72 un2 p1.N)) (c0 (cmp_Compare_int64_ok (i64u p0.N) (i64u p1.N) _ hq48) wf rfl rfl rfl cb149 rfl (fun _ => rfl) (fun _ => rfl) (sa rfl (SO.nil ?_)))))))))
    exact (wq rfl)
   ·have q := si h1; subst q
    exact SC.skip ((wq rfl))
 ·rintro y44 h0
  obtain ⟨r51, hq50, h0⟩ := ob h0; obtain ⟨r53, hq52, h0⟩ := ob h0; obtain ⟨r55, hq54, h0⟩ := ob h0; have q := si h0; subst q
  refine sd (by kernel_rfl) (t1 ([], false) (mv rfl) rfl (t1 ([], false) (far (k := 1) rfl fo74_1 ts72 rfl) rfl (t1 ([0], false) (lod rfl (ld_box ts72 ta72 rfl rfl)) rfl (t1 ([], false) (far (k := 1) rfl fo74_1 ts72 rfl) rfl (t1 ([1], false) (lod rfl (ld_box ts72 ta72 rfl rfl)) rfl (tc0 (cmp_Compare_uint64_ok p0.N p1.N _ hq50) wf rfl rfl rfl cb151 rfl (fun _ => rfl) (fun _ => rfl) (t1 ([], false) (far (k := 2) rfl fo74_2 ts9 rfl) rfl (t1 ([0], false) (lod rfl (ld_box ts9 ta9 rfl rfl)) rfl (t1 ([], false) (far (k := 2) rfl fo74_2 ts9 rfl) rfl ?_)))))))))
  exact t1 ([1], false) (lod rfl (ld_box ts9 ta9 rfl rfl)) rfl (tc0 (cmp_ok p0.S p1.S _ hq52) wf rfl rfl rfl cb152 rfl (fun _ => rfl) (fun _ => rfl) (t1 ([2], true) (bsn (k := 2) (ds := List.map eI [y44, r51, r53]) (off := 0) (l' := [y44, r51, r53].length) rfl un23 ei3 rfl rfl (by rfl) rfl rfl rfl) rfl (tq (args' := [.slc 0 1 0 ([y44, r51, r53].length) none]) (σc := [.row 1 (List.map eI [y44, r51, r53]) true]) [2] [] ([2], true) (CallAt.frz (ArgF.frz (fF rfl rfl rfl) (ArgF.nil _)) (fq [] [] (cmp_Or_int_ok [y44, r51, r53] _ hq54) rfl rfl rfl rfl rfl rfl rfl rfl)) wf rfl rfl rfl cb150 rfl rfl rfl rfl rfl rfl rfl rfl rfl (t1 ([], false) (asg rfl) rfl (tn (by decide +kernel) (SC.ret (finR (wc (e' := [(4, .d (eI r55))]) [] [] (by kernel_rfl) rfl (by kernel_rfl)) (lresT rfl lresN) rfl)))))))
noncomputable def pred_Node_compares (p0 : PredNode) (p1 : ApiValue) : Option Bool :=
 bif (p1.Kind == (0 : Int)) then
 some false
 else
 Option.bind (value_Cmp_1 p1 p0.Val) fun r7 =>
 bif (p0.Op == (1 : Int)) then
 some (decide (r7 < (0 : Int)))
 else
 bif (p0.Op == (2 : Int)) then
 some (decide (r7 ≤ (0 : Int)))
 else
 bif (p0.Op == (3 : Int)) then
 some (r7 == (0 : Int))
 else
 bif (p0.Op == (4 : Int)) then
 some (decide (r7 ≥ (0 : Int)))
 else
 bif (p0.Op == (5 : Int)) then
 some (decide (r7 > (0 : Int)))
 else
 some (r7 != (0 : Int))
theorem pred_Node_compares_ok (p0 : PredNode) (p1 : ApiValue) (r : Bool) (h0 : pred_Node_compares p0 p1 = some r) : CallAt Tryz.prog 124 [.d (ePredNode p0), .d (eApiValue p1)] [] (.d (eB r)) [] := by
 unfold pred_Node_compares at h0
 refine fn0 [0, 1] Tryz.func124 rfl rfl rfl rfl rfl ?_
 refine sr (s1 (bxo (k := 0) rfl rfl rfl) (s1 (bxo (k := 1) rfl rfl rfl) (sa rfl (sn (sq (sr (s1 (far (k := 0) rfl fo74_0 ts3 rfl) (s1 (lod rfl (ld_box ts3 ta3 rfl rfl)) (s1 (bi rfl rfl q_i64_eql) ?_)))))))))
 refine sn (cB h0 rfl (fun h0 => ?_) (fun h0 => ?_))
 ·have q := si h0; subst q
  exact sr (sa rfl (sn (SC.ret (finR (wc (e' := [(4, .d (eB false))]) [] [] (by kernel_rfl) rfl (by kernel_rfl)) (lresT rfl lresN) rfl))))
 ·obtain ⟨r7, hq6, h0⟩ := ob h0
  refine sk (sr (s1 (lod (v := .d (eApiValue p1)) rfl (ld_box ts74 ta74 rfl rfl)) (s1 (far (k := 3) rfl fo80_3 ts74 rfl) (s1 (lod (v := .d (eApiValue p0.Val)) rfl (ld_box ts74 ta74 rfl rfl)) (c0 (value_Cmp_1_ok p1 p0.Val _ hq6) wf rfl rfl rfl cb140 rfl (fun _ => rfl) (fun _ => rfl) (sa rfl (sn (sq (sr ?_)))))))))
  refine s1 (far (k := 2) rfl fo80_2 ts3 rfl) (s1 (lod rfl (ld_box ts3 ta3 rfl rfl)) (sn (SC.blk (sr (s1 (bi rfl rfl q_i64_eql) (sa rfl (sn (cB h0 rfl (fun h0 => ?_) (fun h0 => ?_)))))))))
  ·have q := si h0; subst q
   exact sr (sm rfl (s1 (bi rfl rfl q_i64_lss) (sa rfl (sn (SC.ret (finR (wc (e' := [(4, .d (eB (decide (r7 < (0 : Int)))))]) [] [] (by kernel_rfl) rfl (by kernel_rfl)) (lresT rfl lresN) rfl))))))
  ·refine sr (s1 (bi rfl rfl q_i64_eql) (sa rfl (sn (cB h0 rfl (fun h0 => ?_) (fun h0 => ?_)))))
   ·have q := si h0; subst q
    exact sr (sm rfl (s1 (bi rfl rfl q_i64_leq) (sa rfl (sn (SC.ret (finR (wc (e' := [(4, .d (eB (decide (r7 ≤ (0 : Int)))))]) [] [] (by kernel_rfl) rfl (by kernel_rfl)) (lresT rfl lresN) rfl))))))
   ·refine sr (s1 (bi rfl rfl q_i64_eql) (sa rfl (sn (cB h0 rfl (fun h0 => ?_) (fun h0 => ?_)))))
    ·have q := si h0; subst q
     exact sr (sm rfl (s1 (bi rfl rfl q_i64_eql) (sa rfl (sn (SC.ret (finR (wc (e' := [(4, .d (eB (r7 == (0 : Int))))]) [] [] (by kernel_rfl) rfl (by kernel_rfl)) (lresT rfl lresN) rfl))))))
    ·refine sr (s1 (bi rfl rfl q_i64_eql) (sa rfl (sn (cB h0 rfl (fun h0 => ?_) (fun h0 => ?_)))))
     ·have q := si h0; subst q
      exact sr (sm rfl (s1 (bi rfl rfl q_i64_geq) (sa rfl (sn (SC.ret (finR (wc (e' := [(4, .d (eB (decide (r7 ≥ (0 : Int)))))]) [] [] (by kernel_rfl) rfl (by kernel_rfl)) (lresT rfl lresN) rfl))))))
     ·refine sr (s1 (bi rfl rfl q_i64_eql) (sa rfl (sn (cB h0 rfl (fun h0 => ?_) (fun h0 => ?_)))))
      ·have q := si h0; subst q
       exact sr (sm rfl (s1 (bi rfl rfl q_i64_gtr) (sa rfl (sn (SC.ret (finR (wc (e' := [(4, .d (eB (decide (r7 > (0 : Int)))))]) [] [] (by kernel_rfl) rfl (by kernel_rfl)) (lresT rfl lresN) rfl))))))
      ·refine SC.skip ?_
       change SC _ _ _ _ _
       have q := si h0; subst q
       exact sr (sm rfl (s1 (bi rfl rfl q_i64_neq) (sa rfl (sn (SC.ret (finR (wc (e' := [(4, .d (eB (r7 != (0 : Int))))]) [] [] (by kernel_rfl) rfl (by kernel_rfl)) (lresT rfl lresN) rfl))))))
noncomputable def pred_Node_turn (p0 : PredNode) (p1 : List Bool) (p2 : Nat) (p3 : Nat) (p4 : List ApiValue) : Option Bool :=
 Option.bind (getS p1 p2 p3 (0 : Int)) fun v4 =>
 some (!v4)
theorem pred_Node_turn_ok (p0 : PredNode) (p1 : List Bool) (p2 : Nat) (p3 : Nat) (p4 : List ApiValue) (r : Bool) (h0 : pred_Node_turn p0 p1 p2 p3 p4 = some r) : CallAt Tryz.prog 99 [.d (ePredNode p0), .slc 0 1 p2 p3 none, .d ((eL 3 eApiValue) p4)] [.row 1 (List.map eB p1) true] (.d (eB r)) [.row 1 (List.map eB p1) true] := by
 unfold pred_Node_turn at h0
 refine fn0 [0, 1, 2] Tryz.func99 rfl rfl rfl rfl rfl ?_
 obtain ⟨v4, hv4, h0⟩ := ob h0; have q := si h0; subst q
 refine sr (s1 (bxo (k := 1) rfl rfl rfl) (sa rfl (sn (sr (sm rfl (s1 (ias rfl rfl un57 ts4 (getS_some hv4).1) (s1 (lod rfl (ld_row ts4 ta4 rfl (map_get (getS_some hv4).2) rfl)) (s1 (nt rfl) (sa rfl ?_)))))))))
 exact sn (SC.ret (finR (wc (e' := [(6, .d (eB (!v4)))]) [0] [0] (by kernel_rfl) rfl (by kernel_rfl)) (lresT rfl lresN) rfl))
end Lv
