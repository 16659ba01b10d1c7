/- Part of the proof of a law: functions and their walks. -/
import Derived.Test.YtddopjhkmkoicaaGreatDoorXFn1
namespace Lv
open Go Go.Proofs
set_option linter.unusedVariables false
set_option linter.unusedSimpArgs false
set_option linter.unusedSectionVars false
set_option maxRecDepth 100000
variable [BaseTab] [TabOk]
/-- granary/granaryref06.Valid -/
noncomputable def ref06_Valid (p0 : ApiValue) : Option Bool :=
  bif (p0.Kind == (0 : Int)) then
    Option.bind (α := Bool)
      (bif (p0.N == (0 : UInt64)) then
        some (p0.S == ([] : List UInt8))
      else
        some false)
      fun y16 =>
    some y16
  else
    Option.bind (α := Bool)
      (bif (p0.Kind == (1 : Int)) then
        some (p0.Kind == (1 : Int))
      else
        some (p0.Kind == (2 : Int)))
      fun y18 =>
    bif y18 then
      some (p0.S == ([] : List UInt8))
    else
      bif (p0.Kind == (3 : Int)) then
        Option.bind (α := Bool)
          (bif (decide (p0.N < (2 : UInt64))) then
            some (p0.S == ([] : List UInt8))
          else
            some false)
          fun y20 =>
        some y20
      else
        bif (p0.Kind == (4 : Int)) then
          Option.bind (α := Bool)
            (bif (p0.N == (0 : UInt64)) then
              some (decide ((p0.S.length : Int) ≤ (64 : Int)))
            else
              some false)
            fun y22 =>
          some y22
        else
          bif (p0.Kind == (5 : Int)) then
            Option.bind (α := Bool)
              (bif (p0.N == (0 : UInt64)) then
                bif (decide ((p0.S.length : Int) ≤ (64 : Int))) then
                  Option.bind (ref06_utf8 p0.S) fun r28 =>
                  some r28
                else
                  some false
              else
                some false)
              fun y26 =>
            some y26
          else
            some false
theorem ref06_Valid_ok (p0 : ApiValue) (r : Bool) (h0 : ref06_Valid p0 = some r) : CallAt Tryz.prog 98 [.d (eApiValue p0)] [] (.d (eB r)) [] := by
  unfold ref06_Valid at h0
  refine fn0 [0] Tryz.func98 rfl rfl rfl rfl rfl ?_
  refine sr (s1 (bxo (k := 0) rfl rfl rfl) (s1 (asg rfl) (sn (sq (sr (s1 (far (k := 0) rfl fo68_0 ts3 rfl) (s1 (lod rfl (ld_box ts3 ta3 rfl rfl)) (sn (SC.blk ?_)))))))))
  refine sr (s1 (bi rfl rfl q_i64_eql) (s1 (asg rfl) (sn (cB h0 rfl (fun h0 => ?_) (fun h0 => ?_)))))
  · refine SC.seqP h0 (fun y => ⟨mk 58 [(2, .d (eB y))], []⟩) ?_ ?_
    · intro u1_17 h1
      refine SC.region (s1 (far (k := 1) rfl fo68_1 ts54 rfl) (s1 (lod rfl (ld_box ts54 ta54 rfl rfl)) (s1 (bi rfl rfl (q_u64_eql (b := (0 : UInt64)))) (s1 (mv rfl) (sp h1 (fun h1 => ?_) (fun h1 => ?_))))))
      · have q := si h1; subst q
        exact g1 (wb rfl rfl rfl) (far (k := 2) rfl fo68_2 ts9 rfl) (g1 (wb rfl rfl rfl) (lod rfl (ld_box ts9 ta9 rfl rfl)) (g1 (wb rfl rfl rfl) (bi rfl rfl (q_str_eql (b := ([] : List UInt8)))) (s1 (pkt rfl rfl) (s1 (asg rfl) (SO.nil ((wc [] [] (by kernel_rfl) rfl (by kernel_rfl))))))))
      · have q := si h1; subst q
        exact k1 (wb rfl rfl rfl) (k1 (wb rfl rfl rfl) (k1 (wb rfl rfl rfl) (s1 (pkf rfl rfl) (s1 (asg rfl) (SO.nil ((wc [] [] (by kernel_rfl) rfl (by kernel_rfl))))))))
    · rintro y16 h0
      have q := si h0; subst q
      exact SC.ret (finR (Wk.refl _) (lresT rfl lresN) rfl)
  · refine SC.seqP h0 (fun y => ⟨mk 58 [(1, .ref 0 0 0), (4, .d (eI p0.Kind)), (15, .d (eB y))], [.box (.d (eApiValue p0))]⟩) ?_ ?_
    · intro u1_19 h1
      refine sr (s1 (bi rfl rfl q_i64_eql) (s1 (asg rfl) (sn (cB h1 rfl (fun h1 => ?_) (fun h1 => ?_)))))
      · have q := si h1; subst q
        exact SC.skip ((wq rfl))
      · have q := si h1; subst q
        exact SC.region (s1 (bi rfl rfl q_i64_eql) (s1 (asg rfl) (SO.nil ((wq rfl)))))
    · rintro y18 h0
      refine cB h0 rfl (fun h0 => ?_) (fun h0 => ?_)
      · have q := si h0; subst q
        exact sr (s1 (far (k := 2) rfl fo68_2 ts9 rfl) (s1 (lod rfl (ld_box ts9 ta9 rfl rfl)) (s1 (bi rfl rfl (q_str_eql (b := ([] : List UInt8)))) (s1 (asg rfl) (sn (SC.ret (finR (wc (e' := [(2, .d (eB (p0.S == ([] : List UInt8))))]) [] [] (by kernel_rfl) rfl (by kernel_rfl)) (lresT rfl lresN) rfl)))))))
      · refine sr (s1 (bi rfl rfl q_i64_eql) (s1 (asg rfl) (sn (cB h0 rfl (fun h0 => ?_) (fun h0 => ?_)))))
        · refine SC.seqP h0 (fun y => ⟨mk 58 [(2, .d (eB y))], []⟩) ?_ ?_
          · intro u1_21 h1
            refine SC.region (s1 (far (k := 1) rfl fo68_1 ts54 rfl) (s1 (lod rfl (ld_box ts54 ta54 rfl rfl)) (s1 (bi rfl rfl (q_u64_lss (b := (2 : UInt64)))) (s1 (mv rfl) (sp h1 (fun h1 => ?_) (fun h1 => ?_))))))
            · have q := si h1; subst q
              exact g1 (wb rfl rfl rfl) (far (k := 2) rfl fo68_2 ts9 rfl) (g1 (wb rfl rfl rfl) (lod rfl (ld_box ts9 ta9 rfl rfl)) (g1 (wb rfl rfl rfl) (bi rfl rfl (q_str_eql (b := ([] : List UInt8)))) (s1 (pkt rfl rfl) (s1 (asg rfl) (SO.nil ((wc [] [] (by kernel_rfl) rfl (by kernel_rfl))))))))
            · have q := si h1; subst q
              exact k1 (wb rfl rfl rfl) (k1 (wb rfl rfl rfl) (k1 (wb rfl rfl rfl) (s1 (pkf rfl rfl) (s1 (asg rfl) (SO.nil ((wc [] [] (by kernel_rfl) rfl (by kernel_rfl))))))))
          · rintro y20 h0
            have q := si h0; subst q
            exact SC.ret (finR (Wk.refl _) (lresT rfl lresN) rfl)
        · refine sr (s1 (bi rfl rfl q_i64_eql) (s1 (asg rfl) (sn (cB h0 rfl (fun h0 => ?_) (fun h0 => ?_)))))
          · refine SC.seqP h0 (fun y => ⟨mk 58 [(2, .d (eB y))], []⟩) ?_ ?_
            · intro u1_23 h1
              refine SC.region (s1 (far (k := 1) rfl fo68_1 ts54 rfl) (s1 (lod rfl (ld_box ts54 ta54 rfl rfl)) (s1 (bi rfl rfl (q_u64_eql (b := (0 : UInt64)))) (s1 (mv rfl) (sp h1 (fun h1 => ?_) (fun h1 => ?_))))))
              · have q := si h1; subst q
                exact g1 (wb rfl rfl rfl) (far (k := 2) rfl fo68_2 ts9 rfl) (g1 (wb rfl rfl rfl) (lod rfl (ld_box ts9 ta9 rfl rfl)) (g1 (wb rfl rfl rfl) (len rfl rfl rfl (len_str un9)) (g1 (wb rfl rfl rfl) (bi rfl rfl q_i64_leq) (s1 (pkt rfl rfl) (s1 (asg rfl) (SO.nil ((wc [] [] (by kernel_rfl) rfl (by kernel_rfl)))))))))
              · have q := si h1; subst q
                exact k1 (wb rfl rfl rfl) (k1 (wb rfl rfl rfl) (k1 (wb rfl rfl rfl) (k1 (wb rfl rfl rfl) (s1 (pkf rfl rfl) (s1 (asg rfl) (SO.nil ((wc [] [] (by kernel_rfl) rfl (by kernel_rfl)))))))))
            · rintro y22 h0
              have q := si h0; subst q
              exact SC.ret (finR (Wk.refl _) (lresT rfl lresN) rfl)
          · refine sr (s1 (bi rfl rfl q_i64_eql) (s1 (asg rfl) (sn (cB h0 rfl (fun h0 => ?_) (fun h0 => ?_)))))
            · refine SC.seqP h0 (fun y => ⟨mk 58 [(2, .d (eB y))], []⟩) ?_ ?_
              · intro u1_27 h1
                refine SC.region (s1 (far (k := 1) rfl fo68_1 ts54 rfl) (s1 (lod rfl (ld_box ts54 ta54 rfl rfl)) (s1 (bi rfl rfl (q_u64_eql (b := (0 : UInt64)))) (s1 (mv rfl) (sp h1 (fun h1 => ?_) (fun h1 => ?_))))))
                · refine g1 (wb rfl rfl rfl) (far (k := 2) rfl fo68_2 ts9 rfl) (g1 (wb rfl rfl rfl) (lod rfl (ld_box ts9 ta9 rfl rfl)) (g1 (wb rfl rfl rfl) (len rfl rfl rfl (len_str un9)) (g1 (wb rfl rfl rfl) (bi rfl rfl q_i64_leq) (s1 (pkt rfl rfl) (s1 (mv rfl) (sp h1 (fun h1 => ?_) (fun h1 => ?_)))))))
                  · obtain ⟨r28, hq29, h1⟩ := ob h1; have q := si h1; subst q
                    exact g1 (wb rfl rfl rfl) (far (k := 2) rfl fo68_2 ts9 rfl) (g1 (wb rfl rfl rfl) (lod rfl (ld_box ts9 ta9 rfl rfl)) (c0 (ref06_utf8_ok p0.S _ hq29) (wb rfl rfl rfl) rfl rfl rfl cb120 rfl (fun _ => rfl) (fun _ => rfl) (s1 (pkt rfl rfl) (s1 (asg rfl) (SO.nil ((wc [] [] (by kernel_rfl) rfl (by kernel_rfl))))))))
                  · have q := si h1; subst q
                    exact k1 (wb rfl rfl rfl) (k1 (wb rfl rfl rfl) (k1 (wb rfl rfl rfl) (s1 (pkf rfl rfl) (s1 (asg rfl) (SO.nil ((wc [] [] (by kernel_rfl) rfl (by kernel_rfl))))))))
                · have q := si h1; subst q
                  refine k1 (wb rfl rfl rfl) (k1 (wb rfl rfl rfl) (k1 (wb rfl rfl rfl) (k1 (wb rfl rfl rfl) (s1 (pkf rfl rfl) (s1 (mv rfl) (k1 (wb rfl rfl rfl) (k1 (wb rfl rfl rfl) (k1 (wb rfl rfl rfl) (s1 (pkf rfl rfl) ?_)))))))))
                  exact s1 (asg rfl) (SO.nil ((wc [] [] (by kernel_rfl) rfl (by kernel_rfl))))
              · rintro y26 h0
                have q := si h0; subst q
                exact SC.ret (finR (Wk.refl _) (lresT rfl lresN) rfl)
            · refine SC.skip ?_
              change SC _ _ _ _ _
              have q := si h0; subst q
              exact sr (s1 (asg rfl) (sn (SC.ret (finR (wc (e' := [(2, .d (eB false))]) [] [] (by kernel_rfl) rfl (by kernel_rfl)) (lresT rfl lresN) rfl))))

/-- granary/granaryref06.Fits -/
noncomputable def ref06_Fits (p0 : ApiColumn) (p1 : ApiValue) : Option Int :=
  Option.bind (α := Bool)
    (Option.bind (ref06_Valid p1) fun r14 =>
    bif (!r14) then
      some true
    else
      bif (p1.Kind == (0 : Int)) then
        bif (!p0.Nulls) then
          some true
        else
          bif (p1.Kind != (0 : Int)) then
            some (p1.Kind != p0.Kind)
          else
            some false
      else
        bif (p1.Kind != (0 : Int)) then
          some (p1.Kind != p0.Kind)
        else
          some false)
    fun y12 =>
  bif y12 then
    some (8 : Int)
  else
    Option.bind (α := Bool)
      (bif (p1.Kind == (4 : Int)) then
        some (decide ((p1.S.length : Int) > p0.Max))
      else
        bif (p1.Kind == (5 : Int)) then
          some (decide ((p1.S.length : Int) > p0.Max))
        else
          some false)
      fun y16 =>
    bif y16 then
      some (7 : Int)
    else
      some (0 : Int)
theorem ref06_Fits_ok (p0 : ApiColumn) (p1 : ApiValue) (r : Int) (h0 : ref06_Fits p0 p1 = some r) : CallAt Tryz.prog 62 [.d (eApiColumn p0), .d (eApiValue p1)] [] (.d (eI r)) [] := by
  unfold ref06_Fits at h0
  refine fn0 [0, 1] Tryz.func62 rfl rfl rfl rfl rfl ?_
  refine sr (s1 (bxo (k := 0) rfl rfl rfl) (s1 (bxo (k := 1) rfl rfl rfl) (s1 (asg rfl) (sn (sq (SC.seqP h0 (fun y => ⟨mk 46 [(2, .ref 0 0 0), (3, .ref 1 0 0), (29, .d (eB y))], [.box (.d (eApiColumn p0)), .box (.d (eApiValue p1))]⟩) ?_ ?_))))))
  · intro u1_13 h1
    obtain ⟨r14, hq15, h1⟩ := ob h1
    refine SC.region (s1 (lod (v := .d (eApiValue p1)) rfl (ld_box ts68 ta68 rfl rfl)) (c0 (ref06_Valid_ok p1 _ hq15) wf rfl rfl rfl cb98 rfl (fun _ => rfl) (fun _ => rfl) (s1 (nt rfl) (s1 (mv rfl) (sp h1 (fun h1 => ?_) (fun h1 => ?_))))))
    · have q := si h1; subst q
      refine k1 (wb rfl rfl rfl) (k1 (wb rfl rfl rfl) (k1 (wb rfl rfl rfl) (k1 (wb rfl rfl rfl) (k1 (wo rfl rfl) (k1 (wo rfl rfl) (k1 (wo rfl rfl) (k1 (wb rfl rfl rfl) (s1 (pkt rfl rfl) (s1 (mv rfl) ?_)))))))))
      refine k1 (wb rfl rfl rfl) (k1 (wb rfl rfl rfl) (k1 (wb rfl rfl rfl) (k1 (wb rfl rfl rfl) (k1 (wo rfl rfl) (k1 (wo rfl rfl) (k1 (wo rfl rfl) (k1 (wo rfl rfl) (k1 (wo rfl rfl) (k1 (wb rfl rfl rfl) ?_)))))))))
      exact s1 (pkt rfl rfl) (SO.nil ((wq rfl)))
    · refine g1 (wb rfl rfl rfl) (far (k := 0) rfl fo68_0 ts3 rfl) (g1 (wb rfl rfl rfl) (lod rfl (ld_box ts3 ta3 rfl rfl)) (g1 (wb rfl rfl rfl) (bi rfl rfl q_i64_eql) (g1 (wb rfl rfl rfl) (mv rfl) (sp h1 (fun h1 => ?_) (fun h1 => ?_)))))
      · refine g1 (wb rfl rfl rfl) (far (k := 3) rfl fo77_3 ts4 rfl) (g1 (wb rfl rfl rfl) (lod rfl (ld_box ts4 ta4 rfl rfl)) (g1 (wb rfl rfl rfl) (nt rfl) (g1 (wb rfl rfl rfl) (pkt rfl rfl) (s1 (pkf rfl rfl) (s1 (mv rfl) (sp h1 (fun h1 => ?_) (fun h1 => ?_)))))))
        · have q := si h1; subst q
          refine k1 (wb rfl rfl rfl) (k1 (wb rfl rfl rfl) (k1 (wb rfl rfl rfl) (k1 (wb rfl rfl rfl) (k1 (wo rfl rfl) (k1 (wo rfl rfl) (k1 (wo rfl rfl) (k1 (wo rfl rfl) (k1 (wo rfl rfl) (k1 (wb rfl rfl rfl) ?_)))))))))
          exact s1 (pkt rfl rfl) (SO.nil ((wq rfl)))
        · refine g1 (wb rfl rfl rfl) (far (k := 0) rfl fo68_0 ts3 rfl) (g1 (wb rfl rfl rfl) (lod rfl (ld_box ts3 ta3 rfl rfl)) (g1 (wb rfl rfl rfl) (bi rfl rfl q_i64_neq) (g1 (wb rfl rfl rfl) (mv rfl) (sp h1 (fun h1 => ?_) (fun h1 => ?_)))))
          · have q := si h1; subst q
            exact g1 (wb rfl rfl rfl) (far (k := 0) rfl fo68_0 ts3 rfl) (g1 (wb rfl rfl rfl) (lod rfl (ld_box ts3 ta3 rfl rfl)) (g1 (wb rfl rfl rfl) (far (k := 1) rfl fo77_1 ts3 rfl) (g1 (wb rfl rfl rfl) (lod rfl (ld_box ts3 ta3 rfl rfl)) (g1 (wb rfl rfl rfl) (bi rfl rfl q_i64_neq) (g1 (wb rfl rfl rfl) (pkt rfl rfl) (s1 (pkf rfl rfl) (SO.nil ((wq rfl)))))))))
          · have q := si h1; subst q
            exact k1 (wb rfl rfl rfl) (k1 (wb rfl rfl rfl) (k1 (wb rfl rfl rfl) (k1 (wb rfl rfl rfl) (k1 (wb rfl rfl rfl) (g1 (wb rfl rfl rfl) (pkf rfl rfl) (s1 (pkf rfl rfl) (SO.nil ((wq rfl)))))))))
      · refine k1 (wb rfl rfl rfl) (k1 (wb rfl rfl rfl) (k1 (wb rfl rfl rfl) (g1 (wb rfl rfl rfl) (pkf rfl rfl) (s1 (pkf rfl rfl) (s1 (mv rfl) (g1 (wb rfl rfl rfl) (far (k := 0) rfl fo68_0 ts3 rfl) (g1 (wb rfl rfl rfl) (lod rfl (ld_box ts3 ta3 rfl rfl)) (g1 (wb rfl rfl rfl) (bi rfl rfl q_i64_neq) (g1 (wb rfl rfl rfl) (mv rfl) ?_)))))))))
        refine sp h1 (fun h1 => ?_) (fun h1 => ?_)
        · have q := si h1; subst q
          exact g1 (wb rfl rfl rfl) (far (k := 0) rfl fo68_0 ts3 rfl) (g1 (wb rfl rfl rfl) (lod rfl (ld_box ts3 ta3 rfl rfl)) (g1 (wb rfl rfl rfl) (far (k := 1) rfl fo77_1 ts3 rfl) (g1 (wb rfl rfl rfl) (lod rfl (ld_box ts3 ta3 rfl rfl)) (g1 (wb rfl rfl rfl) (bi rfl rfl q_i64_neq) (g1 (wb rfl rfl rfl) (pkt rfl rfl) (s1 (pkf rfl rfl) (SO.nil ((wq rfl)))))))))
        · have q := si h1; subst q
          exact k1 (wb rfl rfl rfl) (k1 (wb rfl rfl rfl) (k1 (wb rfl rfl rfl) (k1 (wb rfl rfl rfl) (k1 (wb rfl rfl rfl) (g1 (wb rfl rfl rfl) (pkf rfl rfl) (s1 (pkf rfl rfl) (SO.nil ((wq rfl)))))))))
  · rintro y12 h0
    refine cB h0 rfl (fun h0 => ?_) (fun h0 => ?_)
    · have q := si h0; subst q
      exact sr (s1 (asg rfl) (sn (SC.ret (finR (wc (e' := [(4, .d (eI (8 : Int)))]) [] [] (by kernel_rfl) rfl (by kernel_rfl)) (lresT rfl lresN) rfl))))
    · refine sk (sq (SC.seqP h0 (fun y => ⟨mk 46 [(45, .d (eB y))], []⟩) ?_ ?_))
      · intro u1_17 h1
        refine SC.region (s1 (far (k := 0) rfl fo68_0 ts3 rfl) (s1 (lod rfl (ld_box ts3 ta3 rfl rfl)) (s1 (bi rfl rfl q_i64_eql) (s1 (mv rfl) (sp h1 (fun h1 => ?_) (fun h1 => ?_))))))
        · have q := si h1; subst q
          refine k1 (wb rfl rfl rfl) (k1 (wb rfl rfl rfl) (k1 (wb rfl rfl rfl) (s1 (pkt rfl rfl) (s1 (mv rfl) (g1 (wb rfl rfl rfl) (far (k := 2) rfl fo68_2 ts9 rfl) (g1 (wb rfl rfl rfl) (lod rfl (ld_box ts9 ta9 rfl rfl)) (g1 (wb rfl rfl rfl) (len rfl rfl rfl (len_str un9)) (g1 (wb rfl rfl rfl) (far (k := 2) rfl fo77_2 ts3 rfl) (g1 (wb rfl rfl rfl) (lod rfl (ld_box ts3 ta3 rfl rfl)) ?_)))))))))
          exact g1 (wb rfl rfl rfl) (bi rfl rfl q_i64_gtr) (s1 (pkt rfl rfl) (SO.nil ((wc [] [] (by kernel_rfl) rfl (by kernel_rfl)))))
        · refine g1 (wb rfl rfl rfl) (far (k := 0) rfl fo68_0 ts3 rfl) (g1 (wb rfl rfl rfl) (lod rfl (ld_box ts3 ta3 rfl rfl)) (g1 (wb rfl rfl rfl) (bi rfl rfl q_i64_eql) (s1 (pkf rfl rfl) (s1 (mv rfl) (sp h1 (fun h1 => ?_) (fun h1 => ?_))))))
          · have q := si h1; subst q
            exact g1 (wb rfl rfl rfl) (far (k := 2) rfl fo68_2 ts9 rfl) (g1 (wb rfl rfl rfl) (lod rfl (ld_box ts9 ta9 rfl rfl)) (g1 (wb rfl rfl rfl) (len rfl rfl rfl (len_str un9)) (g1 (wb rfl rfl rfl) (far (k := 2) rfl fo77_2 ts3 rfl) (g1 (wb rfl rfl rfl) (lod rfl (ld_box ts3 ta3 rfl rfl)) (g1 (wb rfl rfl rfl) (bi rfl rfl q_i64_gtr) (s1 (pkt rfl rfl) (SO.nil ((wc [] [] (by kernel_rfl) rfl (by kernel_rfl))))))))))
          · have q := si h1; subst q
            exact k1 (wb rfl rfl rfl) (k1 (wb rfl rfl rfl) (k1 (wb rfl rfl rfl) (k1 (wb rfl rfl rfl) (k1 (wb rfl rfl rfl) (k1 (wb rfl rfl rfl) (s1 (pkf rfl rfl) (SO.nil ((wc [] [] (by kernel_rfl) rfl (by kernel_rfl))))))))))
      · rintro y16 h0
        refine cB h0 rfl (fun h0 => ?_) (fun h0 => ?_)
        · have q := si h0; subst q
          exact sr (s1 (asg rfl) (sn (SC.ret (finR (Wk.refl _) (lresT rfl lresN) rfl))))
        · have q := si h0; subst q
          exact sk (sr (s1 (asg rfl) (sn (SC.ret (finR (Wk.refl _) (lresT rfl lresN) rfl)))))

/-- granary/granaryref06.Column -/
noncomputable def ref06_Column (p0 : ApiColumn) : Option Int :=
  Option.bind (ref06_Name p0.Name) fun r10 =>
  bif (!r10) then
    some (1 : Int)
  else
    Option.bind (α := Bool)
      (bif (decide (p0.Kind < (1 : Int))) then
        some true
      else
        some (decide (p0.Kind > (5 : Int))))
      fun y12 =>
    bif y12 then
      some (8 : Int)
    else
      Option.bind (α := Bool)
        (bif (decide (p0.Kind < (4 : Int))) then
          bif (p0.Max != (0 : Int)) then
            some true
          else
            bif (decide (p0.Kind > (3 : Int))) then
              bif (decide (p0.Max < (1 : Int))) then
                some true
              else
                some (decide (p0.Max > (64 : Int)))
            else
              some false
        else
          bif (decide (p0.Kind > (3 : Int))) then
            bif (decide (p0.Max < (1 : Int))) then
              some true
            else
              some (decide (p0.Max > (64 : Int)))
          else
            some false)
        fun y14 =>
      bif y14 then
        some (7 : Int)
      else
        Option.bind (ref06_Fits p0 p0.Default) fun r16 =>
        some r16
theorem ref06_Column_ok (p0 : ApiColumn) (r : Int) (h0 : ref06_Column p0 = some r) : CallAt Tryz.prog 23 [.d (eApiColumn p0)] [] (.d (eI r)) [] := by
  unfold ref06_Column at h0
  refine fn0 [0] Tryz.func23 rfl rfl rfl rfl rfl ?_
  obtain ⟨r10, hq11, h0⟩ := ob h0
  refine sr (s1 (bxo (k := 0) rfl rfl rfl) (s1 (asg rfl) (sn (sq (sr (s1 (far (k := 0) rfl fo77_0 ts9 rfl) (s1 (lod rfl (ld_box ts9 ta9 rfl rfl)) (c0 (ref06_Name_ok p0.Name _ hq11) wf rfl rfl rfl cb22 rfl (fun _ => rfl) (fun _ => rfl) (s1 (nt rfl) ?_)))))))))
  refine sn (cB h0 rfl (fun h0 => ?_) (fun h0 => ?_))
  · have q := si h0; subst q
    exact sr (s1 (asg rfl) (sn (SC.ret (finR (wc (e' := [(2, .d (eI (1 : Int)))]) [] [] (by kernel_rfl) rfl (by kernel_rfl)) (lresT rfl lresN) rfl))))
  · refine sk (sq (SC.seqP h0 (fun y => ⟨mk 42 [(1, .ref 0 0 0), (14, .d (eB y))], [.box (.d (eApiColumn p0))]⟩) ?_ ?_))
    · intro u1_13 h1
      refine SC.region (s1 (far (k := 1) rfl fo77_1 ts3 rfl) (s1 (lod rfl (ld_box ts3 ta3 rfl rfl)) (s1 (bi rfl rfl q_i64_lss) (s1 (mv rfl) (sp h1 (fun h1 => ?_) (fun h1 => ?_))))))
      · have q := si h1; subst q
        exact k1 (wb rfl rfl rfl) (k1 (wb rfl rfl rfl) (k1 (wb rfl rfl rfl) (s1 (pkt rfl rfl) (SO.nil ((wq rfl))))))
      · have q := si h1; subst q
        exact g1 (wb rfl rfl rfl) (far (k := 1) rfl fo77_1 ts3 rfl) (g1 (wb rfl rfl rfl) (lod rfl (ld_box ts3 ta3 rfl rfl)) (g1 (wb rfl rfl rfl) (bi rfl rfl q_i64_gtr) (s1 (pkf rfl rfl) (SO.nil ((wq rfl))))))
    · rintro y12 h0
      refine cB h0 rfl (fun h0 => ?_) (fun h0 => ?_)
      · have q := si h0; subst q
        exact sr (s1 (asg rfl) (sn (SC.ret (finR (wc (e' := [(2, .d (eI (8 : Int)))]) [] [] (by kernel_rfl) rfl (by kernel_rfl)) (lresT rfl lresN) rfl))))
      · refine sk (sq (SC.seqP h0 (fun y => ⟨mk 42 [(1, .ref 0 0 0), (37, .d (eB y))], [.box (.d (eApiColumn p0))]⟩) ?_ ?_))
        · intro u1_15 h1
          refine SC.region (s1 (far (k := 1) rfl fo77_1 ts3 rfl) (s1 (lod rfl (ld_box ts3 ta3 rfl rfl)) (s1 (bi rfl rfl q_i64_lss) (s1 (mv rfl) (sp h1 (fun h1 => ?_) (fun h1 => ?_))))))
          · refine g1 (wb rfl rfl rfl) (far (k := 2) rfl fo77_2 ts3 rfl) (g1 (wb rfl rfl rfl) (lod rfl (ld_box ts3 ta3 rfl rfl)) (g1 (wb rfl rfl rfl) (bi rfl rfl q_i64_neq) (s1 (pkt rfl rfl) (s1 (mv rfl) (sp h1 (fun h1 => ?_) (fun h1 => ?_))))))
            · have q := si h1; subst q
              refine k1 (wb rfl rfl rfl) (k1 (wb rfl rfl rfl) (k1 (wb rfl rfl rfl) (k1 (wb rfl rfl rfl) (k1 (wo rfl rfl) (k1 (wo rfl rfl) (k1 (wo rfl rfl) (k1 (wo rfl rfl) (k1 (wo rfl rfl) (k1 (wo rfl rfl) ?_)))))))))
              exact k1 (wo rfl rfl) (k1 (wo rfl rfl) (k1 (wb rfl rfl rfl) (s1 (pkt rfl rfl) (SO.nil ((wq rfl))))))
            · refine g1 (wb rfl rfl rfl) (far (k := 1) rfl fo77_1 ts3 rfl) (g1 (wb rfl rfl rfl) (lod rfl (ld_box ts3 ta3 rfl rfl)) (g1 (wb rfl rfl rfl) (bi rfl rfl q_i64_gtr) (g1 (wb rfl rfl rfl) (mv rfl) (sp h1 (fun h1 => ?_) (fun h1 => ?_)))))
              · refine g1 (wb rfl rfl rfl) (far (k := 2) rfl fo77_2 ts3 rfl) (g1 (wb rfl rfl rfl) (lod rfl (ld_box ts3 ta3 rfl rfl)) (g1 (wb rfl rfl rfl) (bi rfl rfl q_i64_lss) (g1 (wb rfl rfl rfl) (mv rfl) (sp h1 (fun h1 => ?_) (fun h1 => ?_)))))
                · have q := si h1; subst q
                  exact k1 (wb rfl rfl rfl) (k1 (wb rfl rfl rfl) (k1 (wb rfl rfl rfl) (g1 (wb rfl rfl rfl) (pkt rfl rfl) (g1 (wb rfl rfl rfl) (pkt rfl rfl) (s1 (pkf rfl rfl) (SO.nil ((wq rfl))))))))
                · have q := si h1; subst q
                  exact g1 (wb rfl rfl rfl) (far (k := 2) rfl fo77_2 ts3 rfl) (g1 (wb rfl rfl rfl) (lod rfl (ld_box ts3 ta3 rfl rfl)) (g1 (wb rfl rfl rfl) (bi rfl rfl q_i64_gtr) (g1 (wb rfl rfl rfl) (pkf rfl rfl) (g1 (wb rfl rfl rfl) (pkt rfl rfl) (s1 (pkf rfl rfl) (SO.nil ((wq rfl))))))))
              · have q := si h1; subst q
                refine k1 (wb rfl rfl rfl) (k1 (wb rfl rfl rfl) (k1 (wb rfl rfl rfl) (k1 (wb rfl rfl rfl) (k1 (wo rfl rfl) (k1 (wo rfl rfl) (k1 (wo rfl rfl) (k1 (wb rfl rfl rfl) (g1 (wb rfl rfl rfl) (pkf rfl rfl) (s1 (pkf rfl rfl) ?_)))))))))
                exact SO.nil ((wq rfl))
          · refine k1 (wb rfl rfl rfl) (k1 (wb rfl rfl rfl) (k1 (wb rfl rfl rfl) (s1 (pkf rfl rfl) (s1 (mv rfl) (g1 (wb rfl rfl rfl) (far (k := 1) rfl fo77_1 ts3 rfl) (g1 (wb rfl rfl rfl) (lod rfl (ld_box ts3 ta3 rfl rfl)) (g1 (wb rfl rfl rfl) (bi rfl rfl q_i64_gtr) (g1 (wb rfl rfl rfl) (mv rfl) (sp h1 (fun h1 => ?_) (fun h1 => ?_))))))))))
            · refine g1 (wb rfl rfl rfl) (far (k := 2) rfl fo77_2 ts3 rfl) (g1 (wb rfl rfl rfl) (lod rfl (ld_box ts3 ta3 rfl rfl)) (g1 (wb rfl rfl rfl) (bi rfl rfl q_i64_lss) (g1 (wb rfl rfl rfl) (mv rfl) (sp h1 (fun h1 => ?_) (fun h1 => ?_)))))
              · have q := si h1; subst q
                exact k1 (wb rfl rfl rfl) (k1 (wb rfl rfl rfl) (k1 (wb rfl rfl rfl) (g1 (wb rfl rfl rfl) (pkt rfl rfl) (g1 (wb rfl rfl rfl) (pkt rfl rfl) (s1 (pkf rfl rfl) (SO.nil ((wq rfl))))))))
              · have q := si h1; subst q
                exact g1 (wb rfl rfl rfl) (far (k := 2) rfl fo77_2 ts3 rfl) (g1 (wb rfl rfl rfl) (lod rfl (ld_box ts3 ta3 rfl rfl)) (g1 (wb rfl rfl rfl) (bi rfl rfl q_i64_gtr) (g1 (wb rfl rfl rfl) (pkf rfl rfl) (g1 (wb rfl rfl rfl) (pkt rfl rfl) (s1 (pkf rfl rfl) (SO.nil ((wq rfl))))))))
            · have q := si h1; subst q
              refine k1 (wb rfl rfl rfl) (k1 (wb rfl rfl rfl) (k1 (wb rfl rfl rfl) (k1 (wb rfl rfl rfl) (k1 (wo rfl rfl) (k1 (wo rfl rfl) (k1 (wo rfl rfl) (k1 (wb rfl rfl rfl) (g1 (wb rfl rfl rfl) (pkf rfl rfl) (s1 (pkf rfl rfl) ?_)))))))))
              exact SO.nil ((wq rfl))
        · rintro y14 h0
          refine cB h0 rfl (fun h0 => ?_) (fun h0 => ?_)
          · have q := si h0; subst q
            exact sr (s1 (asg rfl) (sn (SC.ret (finR (wc (e' := [(2, .d (eI (7 : Int)))]) [] [] (by kernel_rfl) rfl (by kernel_rfl)) (lresT rfl lresN) rfl))))
          · obtain ⟨r16, hq17, h0⟩ := ob h0; have q := si h0; subst q
            exact sk (sr (s1 (lod (v := .d (eApiColumn p0)) rfl (ld_box ts77 ta77 rfl rfl)) (s1 (far (k := 4) rfl fo77_4 ts68 rfl) (s1 (lod (v := .d (eApiValue p0.Default)) rfl (ld_box ts68 ta68 rfl rfl)) (c0 (ref06_Fits_ok p0 p0.Default _ hq17) wf rfl rfl rfl cb62 rfl (fun _ => rfl) (fun _ => rfl) (s1 (asg rfl) (sn (SC.ret (finR (wc (e' := [(2, .d (eI r16))]) [] [] (by kernel_rfl) rfl (by kernel_rfl)) (lresT rfl lresN) rfl)))))))))

/-- granary/granaryref17.Has -/
noncomputable def ref17_Has (p0 : List Int) (p1 : Int) : Option Bool :=
  bindE (Y := Unit) (E := Bool)
    (Option.bind (α := Unit ⊕ Bool)
      (loop (Y := Int) (W := Unit ⊕ Bool) (fun y29 =>
        bif (decide (y29 < (p0.length : Int))) then
          Option.bind (getI p0 y29) fun v34 =>
          bif (v34 == p1) then
            some (Sum.inr (Sum.inr true))
          else
            some (Sum.inl (w64 (y29 + (1 : Int))))
        else
          some (Sum.inr (Sum.inl ()))) (0 : Int))
      (Sum.elim (fun e => some (Sum.inl e)) (fun e => some (Sum.inr e))))
    (fun _ =>
      some false)
    (fun e => some e)
theorem ref17_Has_ok (p0 : List Int) (p1 : Int) (r : Bool) (h0 : ref17_Has p0 p1 = some r) : CallAt Tryz.prog 52 [.d ((eL 1 eI) p0), .d (eI p1)] [] (.d (eB r)) [] := by
  unfold ref17_Has at h0
  refine fn0 [0, 1] Tryz.func52 rfl rfl rfl rfl rfl ?_
  refine sr (s1 (asg rfl) (sn (SC.seqB h0 (fun y => ⟨mk 18 [], []⟩) ?_ ?_)))
  · intro u1_27 h1 h0
    obtain ⟨u2_33, h2, h1⟩ := ob h1
    refine sr (s1 (asg rfl) (sn (SC.blk (SC.loopB h2 (fun y => ⟨mk 18 [(0, .d ((eL 1 eI) p0)), (1, .d (eI p1)), (5, .d (eI y))], []⟩) (wq rfl) ?_))))
    intro n35
    rintro y29 w2_32 h3 hv3
    refine sq (sr (s1 (mv rfl) (s1 (mv rfl) (s1 (len rfl rfl rfl (len_lst un23)) (s1 (bi rfl rfl q_i64_lss) (sn (cB h3 rfl (fun h3 => ?_) (fun h3 => ?_))))))))
    · obtain ⟨v34, hv34, h3⟩ := ob h3
      refine sk (sq (SC.blk (sr (s1 (mv rfl) (s1 (mv rfl) (s1 (ial rfl rfl un23 ts3 (getI_some hv34).1 (map_get (getI_some hv34).2) rfl) (s1 (lod rfl (ld_rop ts3 ta3 rfl)) (s1 (mv rfl) (s1 (bi rfl rfl q_i64_eql) ?_)))))))))
      refine sn (cB h3 rfl (fun h3 => ?_) (fun h3 => ?_))
      · have q := si h3; subst q; have q : _ = _ := hv3; subst q; have q := si h1; subst q; have q := si h0; subst q
        exact sr (s1 (asg rfl) (sn (SC.ret (finR (Wk.refl _) (lresT rfl lresN) rfl))))
      · refine SC.skip ?_
        change SC _ _ _ _ _
        have q := si h3; subst q
        exact SC.region (s1 (mv rfl) (s1 (bi rfl rfl q_i64_add) (s1 (asg rfl) (SO.nil (lf (wq rfl))))))
    · have q := si h3; subst q; have q : _ = _ := hv3; subst q; have q := si h1; subst q
      exact SC.exit (lf (wq rfl))
  · intro _ h0
    have q := si h0; subst q
    exact sr (s1 (asg rfl) (sn (SC.ret (finR (Wk.refl _) (lresT rfl lresN) rfl))))

/-- granary/granaryref17.places -/
noncomputable def ref17_places (p0 : Int) (p1 : List Int) : Option Bool :=
  bindE (Y := Unit) (E := Bool)
    (Option.bind (α := Unit ⊕ Bool)
      (loop (Y := Int) (W := Unit ⊕ Bool) (fun y159 =>
        bif (decide (y159 < (p1.length : Int))) then
          Option.bind (α := Bool)
            (Option.bind (getI p1 y159) fun v185 =>
            bif (decide (v185 < (0 : Int))) then
              some true
            else
              Option.bind (getI p1 y159) fun v186 =>
              bif (decide (v186 ≥ p0)) then
                some true
              else
                bif decide (0 ≤ y159 ∧ y159 ≤ (p1.length : Int)) then
                Option.bind (getI p1 y159) fun v188 =>
                Option.bind (ref17_Has (List.take y159.toNat p1) v188) fun r189 =>
                some r189
                else none)
            fun y183 =>
          bif y183 then
            some (Sum.inr (Sum.inr false))
          else
            some (Sum.inl (w64 (y159 + (1 : Int))))
        else
          some (Sum.inr (Sum.inl ()))) (0 : Int))
      (Sum.elim (fun e => some (Sum.inl e)) (fun e => some (Sum.inr e))))
    (fun _ =>
      some true)
    (fun e => some e)
theorem ref17_places_ok (p0 : Int) (p1 : List Int) (r : Bool) (h0 : ref17_places p0 p1 = some r) : CallAt Tryz.prog 24 [.d (eI p0), .d ((eL 1 eI) p1)] [] (.d (eB r)) [] := by
  unfold ref17_places at h0
  refine fn0 [0, 1] Tryz.func24 rfl rfl rfl rfl rfl ?_
  refine sr (s1 (asg rfl) (sn (SC.seqB h0 (fun y => ⟨mk 35 [], []⟩) ?_ ?_)))
  · intro u1_144 h1 h0
    obtain ⟨u2_176, h2, h1⟩ := ob h1
    refine sr (s1 (asg rfl) (sn (SC.blk (SC.loopB h2 (fun y => ⟨mk 35 [(0, .d (eI p0)), (1, .d ((eL 1 eI) p1)), (5, .d (eI y))], []⟩) (wq rfl) ?_))))
    intro n191
    rintro y159 w2_175 h3 hv3
    refine sq (sr (s1 (mv rfl) (s1 (mv rfl) (s1 (len rfl rfl rfl (len_lst un23)) (s1 (bi rfl rfl q_i64_lss) (sn (cB h3 rfl (fun h3 => ?_) (fun h3 => ?_))))))))
    · refine sk (sq (SC.blk (SC.seqP h3 (fun y => ⟨mk 35 [(0, .d (eI p0)), (1, .d ((eL 1 eI) p1)), (5, .d (eI y159)), (34, .d (eB y))], []⟩) ?_ ?_)))
      · intro u4_184 h4
        obtain ⟨v185, hv185, h4⟩ := ob h4
        refine SC.draws (by kernel_rfl) (t1 ([], false) (mv rfl) rfl (t1 ([], false) (mv rfl) rfl (t1 ([], false) (ial rfl rfl un23 ts3 (getI_some hv185).1 (map_get (getI_some hv185).2) rfl) rfl (t1 ([], false) (lod rfl (ld_rop ts3 ta3 rfl)) rfl (t1 ([], false) (bi rfl rfl q_i64_lss) rfl (t1 ([], false) (mv rfl) rfl (tp h4 (fun h4 => ?_) (fun h4 => ?_))))))))
        · have q := si h4; subst q
          refine j1 (wb rfl rfl rfl) (j1 (wb rfl rfl rfl) (j1 (wb rfl rfl rfl) (j1 (wb rfl rfl rfl) (j1 (wb rfl rfl rfl) (j1 (wb rfl rfl rfl) (t1 ([], false) (pkt rfl rfl) rfl (t1 ([], false) (mv rfl) rfl (j1 (wb rfl rfl rfl) (j1 (wb rfl rfl rfl) ?_)))))))))
          refine j1 (wb rfl rfl rfl) (j1 (wb rfl rfl rfl) (j1 (wb rfl rfl rfl) (j1 (wb rfl rfl rfl) (j1 (wb rfl rfl rfl) (j1 (wb rfl rfl rfl) (t1 ([], false) (pkt rfl rfl) rfl (ST.nil (And.intro (by decide +kernel) ?_))))))))
          exact (wq rfl)
        · obtain ⟨v186, hv186, h4⟩ := ob h4
          refine u1 ([], false) (wb rfl rfl rfl) (mv rfl) rfl (u1 ([], false) (wb rfl rfl rfl) (mv rfl) rfl (u1 ([], false) (wb rfl rfl rfl) (ial rfl rfl un23 ts3 (getI_some hv186).1 (map_get (getI_some hv186).2) rfl) rfl (u1 ([], false) (wb rfl rfl rfl) (lod rfl (ld_rop ts3 ta3 rfl)) rfl (u1 ([], false) (wb rfl rfl rfl) (mv rfl) rfl (u1 ([], false) (wb rfl rfl rfl) (bi rfl rfl q_i64_geq) rfl (t1 ([], false) (pkf rfl rfl) rfl (t1 ([], false) (mv rfl) rfl (tp h4 (fun h4 => ?_) (fun h4 => ?_)))))))))
          · have q := si h4; subst q
            refine j1 (wb rfl rfl rfl) (j1 (wb rfl rfl rfl) (j1 (wb rfl rfl rfl) (j1 (wb rfl rfl rfl) (j1 (wb rfl rfl rfl) (j1 (wb rfl rfl rfl) (j1 (wb rfl rfl rfl) (j1 (wb rfl rfl rfl) (t1 ([], false) (pkt rfl rfl) rfl (ST.nil (And.intro (by decide +kernel) ?_))))))))))
            exact (wq rfl)
          · obtain ⟨hg187, h4⟩ := gd h4; obtain ⟨v188, hv188, h4⟩ := ob h4; obtain ⟨r189, hq190, h4⟩ := ob h4; have q := si h4; subst q
            refine u1 ([], false) (wb rfl rfl rfl) (mv rfl) rfl (u1 ([], false) (wb rfl rfl rfl) (mv rfl) rfl (u1 ([], false) (wb rfl rfl rfl) (slo rfl rfl rfl rfl (sl_lst_hi un23 ts3 hg187)) rfl (u1 ([], false) (wb rfl rfl rfl) (mv rfl) rfl (u1 ([], false) (wb rfl rfl rfl) (mv rfl) rfl (u1 ([], false) (wb rfl rfl rfl) (ial rfl rfl un23 ts3 (getI_some hv188).1 (map_get (getI_some hv188).2) rfl) rfl (u1 ([], false) (wb rfl rfl rfl) (lod rfl (ld_rop ts3 ta3 rfl)) rfl (tc0 (ref17_Has_ok (List.take y159.toNat p1) v188 _ hq190) (wb rfl rfl rfl) rfl rfl rfl cb52 rfl (fun _ => rfl) (fun _ => rfl) (t1 ([], false) (pkf rfl rfl) rfl (ST.nil (And.intro (by decide +kernel) ?_))))))))))
            exact (wq rfl)
      · rintro y183 h3
        refine cB h3 rfl (fun h3 => ?_) (fun h3 => ?_)
        · have q := si h3; subst q; have q : _ = _ := hv3; subst q; have q := si h1; subst q; have q := si h0; subst q
          exact sr (s1 (asg rfl) (sn (SC.ret (finR (Wk.refl _) (lresT rfl lresN) rfl))))
        · refine SC.skip ?_
          change SC _ _ _ _ _
          have q := si h3; subst q
          exact SC.region (s1 (mv rfl) (s1 (bi rfl rfl q_i64_add) (s1 (asg rfl) (SO.nil (lf (wq rfl))))))
    · have q := si h3; subst q; have q : _ = _ := hv3; subst q; have q := si h1; subst q
      exact SC.exit (lf (wq rfl))
  · intro _ h0
    have q := si h0; subst q
    exact sr (s1 (asg rfl) (sn (SC.ret (finR (Wk.refl _) (lresT rfl lresN) rfl))))

/-- granary/granaryref17.wide -/
noncomputable def ref17_wide (p0 : ApiColumn) (p1 : Int) : Option Int :=
  Option.bind (α := Bool)
    (bif (p0.Kind == (1 : Int)) then
      some (p0.Kind == (1 : Int))
    else
      some (p0.Kind == (2 : Int)))
    fun y4 =>
  bif y4 then
    some (9 : Int)
  else
    bif (p0.Kind == (3 : Int)) then
      some (2 : Int)
    else
      some (w64 ((3 : Int) + (w64 (p1 * p0.Max))))
theorem ref17_wide_ok (p0 : ApiColumn) (p1 : Int) (r : Int) (h0 : ref17_wide p0 p1 = some r) : CallAt Tryz.prog 63 [.d (eApiColumn p0), .d (eI p1)] [] (.d (eI r)) [] := by
  unfold ref17_wide at h0
  refine fn0 [0, 1] Tryz.func63 rfl rfl rfl rfl rfl ?_
  refine sr (s1 (bxo (k := 0) rfl rfl rfl) (s1 (asg rfl) (sn (sq (sr (s1 (far (k := 1) rfl fo77_1 ts3 rfl) (s1 (lod rfl (ld_box ts3 ta3 rfl rfl)) (sn (SC.blk ?_)))))))))
  refine SC.seqP h0 (fun y => ⟨mk 17 [(1, .d (eI p1)), (2, .ref 0 0 0), (6, .d (eI p0.Kind)), (7, .d (eB y))], [.box (.d (eApiColumn p0))]⟩) ?_ ?_
  · intro u1_5 h1
    refine sr (s1 (bi rfl rfl q_i64_eql) (s1 (asg rfl) (sn (cB h1 rfl (fun h1 => ?_) (fun h1 => ?_)))))
    · have q := si h1; subst q
      exact SC.skip ((wq rfl))
    · have q := si h1; subst q
      exact SC.region (s1 (bi rfl rfl q_i64_eql) (s1 (asg rfl) (SO.nil ((wq rfl)))))
  · rintro y4 h0
    refine cB h0 rfl (fun h0 => ?_) (fun h0 => ?_)
    · have q := si h0; subst q
      exact sr (s1 (asg rfl) (sn (SC.ret (finR (wc (e' := [(4, .d (eI (9 : Int)))]) [] [] (by kernel_rfl) rfl (by kernel_rfl)) (lresT rfl lresN) rfl))))
    · refine sr (s1 (bi rfl rfl q_i64_eql) (s1 (asg rfl) (sn (cB h0 rfl (fun h0 => ?_) (fun h0 => ?_)))))
      · have q := si h0; subst q
        exact sr (s1 (asg rfl) (sn (SC.ret (finR (wc (e' := [(4, .d (eI (2 : Int)))]) [] [] (by kernel_rfl) rfl (by kernel_rfl)) (lresT rfl lresN) rfl))))
      · refine SC.skip ?_
        change SC _ _ _ _ _
        have q := si h0; subst q
        exact sr (s1 (mv rfl) (s1 (far (k := 2) rfl fo77_2 ts3 rfl) (s1 (lod rfl (ld_box ts3 ta3 rfl rfl)) (s1 (bi rfl rfl q_i64_mul) (s1 (bi rfl rfl q_i64_add) (s1 (asg rfl) (sn (SC.ret (finR (wc (e' := [(4, .d (eI (w64 ((3 : Int) + (w64 (p1 * p0.Max))))))]) [] [] (by kernel_rfl) rfl (by kernel_rfl)) (lresT rfl lresN) rfl)))))))))

/-- granary/granaryref17.RowMax -/
noncomputable def ref17_RowMax (p0 : List ApiColumn) : Option Int :=
  Option.bind (α := Int)
    (Option.bind (α := Int)
      (loop (Y := Int × Int) (W := Int) (fun (y57, y58) =>
        bif (decide (y58 < (p0.length : Int))) then
          Option.bind (getI p0 y58) fun v66 =>
          Option.bind (ref17_wide v66 (1 : Int)) fun r67 =>
          some (Sum.inl ((w64 (y57 + r67)), (w64 (y58 + (1 : Int)))))
        else
          some (Sum.inr y57)) ((1 : Int), (0 : Int)))
      (fun e => some e))
    fun y52 =>
  some y52
theorem ref17_RowMax_ok (p0 : List ApiColumn) (r : Int) (h0 : ref17_RowMax p0 = some r) : CallAt Tryz.prog 25 [.d ((eL 7 eApiColumn) p0)] [] (.d (eI r)) [] := by
  unfold ref17_RowMax at h0
  refine fn0 [0] Tryz.func25 rfl rfl rfl rfl rfl ?_
  refine sr (s1 (asg rfl) (sn (sr (s1 (asg rfl) (sn (SC.seqP h0 (fun y => ⟨mk 19 [(3, .d (eI y))], []⟩) ?_ ?_))))))
  · intro u1_53 h1
    obtain ⟨u2_65, h2, h1⟩ := ob h1
    refine sr (s1 (asg rfl) (sn (SC.blk (SC.loopB h2 (fun y => ⟨mk 19 [(0, .d ((eL 7 eApiColumn) p0)), (3, .d (eI y.1)), (4, .d (eI y.2))], []⟩) (wq rfl) ?_))))
    intro n69
    rintro ⟨y57, y58⟩ w2_64 h3 hv3
    refine sq (sr (s1 (mv rfl) (s1 (mv rfl) (s1 (len rfl rfl rfl (len_lst un22)) (s1 (bi rfl rfl q_i64_lss) (sn (cB h3 rfl (fun h3 => ?_) (fun h3 => ?_))))))))
    · obtain ⟨v66, hv66, h3⟩ := ob h3; obtain ⟨r67, hq68, h3⟩ := ob h3
      refine sk (sq (SC.blk (SC.region (s1 (mv rfl) (s1 (mv rfl) (s1 (mv rfl) (s1 (ial rfl rfl un22 ts77 (getI_some hv66).1 (map_get (getI_some hv66).2) rfl) (s1 (lod (v := .d (eApiColumn v66)) rfl (ld_rop ts77 ta77 rfl)) (c0 (ref17_wide_ok v66 (1 : Int) _ hq68) wf rfl rfl rfl cb63 rfl (fun _ => rfl) (fun _ => rfl) ?_)))))))))
      refine s1 (bi rfl rfl q_i64_add) (s1 (asg rfl) (SO.nil ?_))
      change SC _ _ _ _ _
      have q := si h3; subst q
      exact SC.region (s1 (mv rfl) (s1 (bi rfl rfl q_i64_add) (s1 (asg rfl) (SO.nil (lf (wq rfl))))))
    · have q := si h3; subst q; have q : _ = _ := hv3; subst q; have q := si h1; subst q
      exact SC.exit ((wq rfl))
  · rintro y52 h0
    have q := si h0; subst q
    exact sr (s1 (mv rfl) (s1 (asg rfl) (sn (SC.ret (finR (Wk.refl _) (lresT rfl lresN) rfl)))))

/-- granary/granaryref17.Up -/
noncomputable def ref17_Up (p0 : List Int) : Option ((List ApiPart)) :=
  Option.bind (α := (List ApiPart))
    (Option.bind (α := (List ApiPart))
      (loop (Y := (List ApiPart) × Int) (W := (List ApiPart)) (fun (y47, y48) =>
        bif (decide (y48 < (p0.length : Int))) then
          Option.bind (getI p0 y48) fun v55 =>
          bif decide ((y47.length + [(ApiPart.mk v55 false)].length) * 16 ≤ room) then
          some (Sum.inl ((y47 ++ [(ApiPart.mk v55 false)]), (w64 (y48 + (1 : Int)))))
          else none
        else
          some (Sum.inr y47)) (([] : List ApiPart), (0 : Int)))
      (fun e => some e))
    fun y43 =>
  some y43
theorem ref17_Up_ok (p0 : List Int) (r : (List ApiPart)) (h0 : ref17_Up p0 = some r) : CallAt Tryz.prog 27 [.d ((eL 1 eI) p0)] [] (.d ((eL 2 eApiPart) r)) [] := by
  unfold ref17_Up at h0
  refine fn0 [0] Tryz.func27 rfl rfl rfl rfl rfl ?_
  refine sr (s1 (asg (v := .d .nils) rfl) (sn (sr (s1 (asg (v := .d .nils) rfl) (sn (SC.seqP h0 (fun y => ⟨mk 20 [(3, .slc 0 2 0 y.length none)], [.row 2 (List.map eApiPart y) true]⟩) ?_ ?_))))))
  · intro u1_44 h1
    obtain ⟨u2_54, h2, h1⟩ := ob h1
    refine sr (s1 (asg rfl) (sn (SC.blk (SC.loopB h2 (fun y => ⟨mk 20 [(0, .d ((eL 1 eI) p0)), (3, .slc 0 2 0 y.1.length none), (4, .d (eI y.2))], [.row 2 (List.map eApiPart y.1) true]⟩) (Wk.trans (Wk.pushE (σ' := [.row 2 (List.map eApiPart ([] : List ApiPart)) true]) (.row 2 [] true) (fun _ hh => by cases hh) rfl) (Wk.trans (Wk.env (e' := [(0, .d ((eL 1 eI) p0)), (3, .slc 0 2 0 (([] : List ApiPart).length) none), (4, .d (eI (0 : Int)))]) (EW.cons (AW.refl _) (EW.cons (AW.slcn _ _ _) (EW.cons (AW.refl _) EW.nil)))) (wq rfl))) ?_))))
    intro n57
    rintro ⟨y47, y48⟩ w2_53 h3 hv3
    refine sq (sr (s1 (mv rfl) (s1 (mv rfl) (s1 (len rfl rfl rfl (len_lst un23)) (s1 (bi rfl rfl q_i64_lss) (sn (cB h3 rfl (fun h3 => ?_) (fun h3 => ?_))))))))
    · obtain ⟨v55, hv55, h3⟩ := ob h3; obtain ⟨hg56, h3⟩ := gd h3
      refine sk (sq (SC.blk (SC.region (s1 (mv rfl) (s1 (mv rfl) (s1 (mv rfl) (s1 (ial rfl rfl un23 ts3 (getI_some hv55).1 (map_get (getI_some hv55).2) rfl) (s1 (lod rfl (ld_rop ts3 ta3 rfl)) (s1 (bld rfl (bd79_0 v55)) ?_)))))))))
      refine s1 (bsn (k := 1) (ds := List.map eApiPart [(ApiPart.mk v55 false)]) (off := 0) (l' := [(ApiPart.mk v55 false)].length) rfl un80 ei79 rfl rfl (by rfl) rfl rfl rfl) (s1 (app rfl rfl rfl rfl bc80 (aF (f := eApiPart) (xs := y47) (k := 2) rfl un80 ei79 rfl (el_full (xs := [(ApiPart.mk v55 false)]) rfl) hg56 rfl)) (s1 (asg rfl) (SO.nil ?_)))
      change SC _ _ _ _ _
      have q := si h3; subst q
      exact SC.region (s1 (mv rfl) (s1 (bi rfl rfl q_i64_add) (s1 (asg rfl) (SO.nil (lf (wc [2] [2] (by kernel_rfl) rfl (by kernel_rfl)))))))
    · have q := si h3; subst q; have q : _ = _ := hv3; subst q; have q := si h1; subst q
      exact SC.exit ((wq rfl))
  · rintro y43 h0
    have q := si h0; subst q
    exact sr (s1 (mv rfl) (s1 (asg rfl) (sn (SC.ret (finR (Wk.trans (Wk.frz (i := 2) (x := .slc 0 2 0 y43.length none) rfl rfl (fF rfl rfl rfl)) (wc (e' := [(2, .d ((eL 2 eApiPart) y43))]) [] [] (by kernel_rfl) rfl (by kernel_rfl))) (lresT rfl lresN) rfl)))))

/-- granary/granaryref17.KeyMax -/
noncomputable def ref17_KeyMax (p0 : List ApiColumn) (p1 : List ApiPart) : Option Int :=
  Option.bind (α := Int)
    (Option.bind (α := Int)
      (loop (Y := Int × Int) (W := Int) (fun (y67, y68) =>
        bif (decide (y68 < (p1.length : Int))) then
          Option.bind (getI p1 y68) fun v77 =>
          Option.bind (getI p0 v77.Col) fun v78 =>
          Option.bind (ref17_wide v78 (2 : Int)) fun r79 =>
          some (Sum.inl ((w64 (y67 + r79)), (w64 (y68 + (1 : Int)))))
        else
          some (Sum.inr y67)) ((0 : Int), (0 : Int)))
      (fun e => some e))
    fun y61 =>
  some y61
theorem ref17_KeyMax_ok (p0 : List ApiColumn) (p1 : List ApiPart) (r : Int) (h0 : ref17_KeyMax p0 p1 = some r) : CallAt Tryz.prog 26 [.d ((eL 7 eApiColumn) p0), .d ((eL 2 eApiPart) p1)] [] (.d (eI r)) [] := by
  unfold ref17_KeyMax at h0
  refine fn0 [0, 1] Tryz.func26 rfl rfl rfl rfl rfl ?_
  refine sr (s1 (asg rfl) (sn (sr (s1 (asg rfl) (sn (SC.seqP h0 (fun y => ⟨mk 25 [(5, .d (eI y))], []⟩) ?_ ?_))))))
  · intro u1_62 h1
    obtain ⟨u2_76, h2, h1⟩ := ob h1
    refine sr (s1 (asg rfl) (sn (SC.blk (SC.loopB h2 (fun y => ⟨mk 25 [(0, .d ((eL 7 eApiColumn) p0)), (1, .d ((eL 2 eApiPart) p1)), (5, .d (eI y.1)), (6, .d (eI y.2))], []⟩) (wq rfl) ?_))))
    intro n81
    rintro ⟨y67, y68⟩ w2_75 h3 hv3
    refine sq (sr (s1 (mv rfl) (s1 (mv rfl) (s1 (len rfl rfl rfl (len_lst un80)) (s1 (bi rfl rfl q_i64_lss) (sn (cB h3 rfl (fun h3 => ?_) (fun h3 => ?_))))))))
    · obtain ⟨v77, hv77, h3⟩ := ob h3; obtain ⟨v78, hv78, h3⟩ := ob h3; obtain ⟨r79, hq80, h3⟩ := ob h3
      refine sk (sq (SC.blk (SC.region (s1 (mv rfl) (s1 (mv rfl) (s1 (mv rfl) (s1 (mv rfl) (s1 (ial rfl rfl un80 ts79 (getI_some hv77).1 (map_get (getI_some hv77).2) rfl) (s1 (fap rfl fo79_0 ts3 rfl) ?_)))))))))
      refine s1 (lod rfl (ld_rop ts3 ta3 rfl)) (s1 (ial rfl rfl un22 ts77 (getI_some hv78).1 (map_get (getI_some hv78).2) rfl) (s1 (lod (v := .d (eApiColumn v78)) rfl (ld_rop ts77 ta77 rfl)) (c0 (ref17_wide_ok v78 (2 : Int) _ hq80) wf rfl rfl rfl cb63 rfl (fun _ => rfl) (fun _ => rfl) (s1 (bi rfl rfl q_i64_add) (s1 (asg rfl) (SO.nil ?_))))))
      change SC _ _ _ _ _
      have q := si h3; subst q
      exact SC.region (s1 (mv rfl) (s1 (bi rfl rfl q_i64_add) (s1 (asg rfl) (SO.nil (lf (wq rfl))))))
    · have q := si h3; subst q; have q : _ = _ := hv3; subst q; have q := si h1; subst q
      exact SC.exit ((wq rfl))
  · rintro y61 h0
    have q := si h0; subst q
    exact sr (s1 (mv rfl) (s1 (asg rfl) (sn (SC.ret (finR (Wk.refl _) (lresT rfl lresN) rfl)))))

/-- granary/granaryref17.Cols -/
noncomputable def ref17_Cols (p0 : List ApiPart) : Option ((List Int)) :=
  Option.bind (α := (List Int))
    (Option.bind (α := (List Int))
      (loop (Y := (List Int) × Int) (W := (List Int)) (fun (y47, y48) =>
        bif (decide (y48 < (p0.length : Int))) then
          Option.bind (getI p0 y48) fun v55 =>
          bif decide ((y47.length + [v55.Col].length) * 8 ≤ room) then
          some (Sum.inl ((y47 ++ [v55.Col]), (w64 (y48 + (1 : Int)))))
          else none
        else
          some (Sum.inr y47)) (([] : List Int), (0 : Int)))
      (fun e => some e))
    fun y43 =>
  some y43
theorem ref17_Cols_ok (p0 : List ApiPart) (r : (List Int)) (h0 : ref17_Cols p0 = some r) : CallAt Tryz.prog 53 [.d ((eL 2 eApiPart) p0)] [] (.d ((eL 1 eI) r)) [] := by
  unfold ref17_Cols at h0
  refine fn0 [0] Tryz.func53 rfl rfl rfl rfl rfl ?_
  refine sr (s1 (asg (v := .d .nils) rfl) (sn (sr (s1 (asg (v := .d .nils) rfl) (sn (SC.seqP h0 (fun y => ⟨mk 20 [(3, .slc 0 1 0 y.length none)], [.row 1 (List.map eI y) true]⟩) ?_ ?_))))))
  · intro u1_44 h1
    obtain ⟨u2_54, h2, h1⟩ := ob h1
    refine sr (s1 (asg rfl) (sn (SC.blk (SC.loopB h2 (fun y => ⟨mk 20 [(0, .d ((eL 2 eApiPart) p0)), (3, .slc 0 1 0 y.1.length none), (4, .d (eI y.2))], [.row 1 (List.map eI y.1) true]⟩) (Wk.trans (Wk.pushE (σ' := [.row 1 (List.map eI ([] : List Int)) true]) (.row 1 [] true) (fun _ hh => by cases hh) rfl) (Wk.trans (Wk.env (e' := [(0, .d ((eL 2 eApiPart) p0)), (3, .slc 0 1 0 (([] : List Int).length) none), (4, .d (eI (0 : Int)))]) (EW.cons (AW.refl _) (EW.cons (AW.slcn _ _ _) (EW.cons (AW.refl _) EW.nil)))) (wq rfl))) ?_))))
    intro n57
    rintro ⟨y47, y48⟩ w2_53 h3 hv3
    refine sq (sr (s1 (mv rfl) (s1 (mv rfl) (s1 (len rfl rfl rfl (len_lst un80)) (s1 (bi rfl rfl q_i64_lss) (sn (cB h3 rfl (fun h3 => ?_) (fun h3 => ?_))))))))
    · obtain ⟨v55, hv55, h3⟩ := ob h3; obtain ⟨hg56, h3⟩ := gd h3
      refine sk (sq (SC.blk (SC.region (s1 (mv rfl) (s1 (mv rfl) (s1 (mv rfl) (s1 (ial rfl rfl un80 ts79 (getI_some hv55).1 (map_get (getI_some hv55).2) rfl) (s1 (fap rfl fo79_0 ts3 rfl) (s1 (lod rfl (ld_rop ts3 ta3 rfl)) ?_)))))))))
      refine s1 (bsn (k := 1) (ds := List.map eI [v55.Col]) (off := 0) (l' := [v55.Col].length) rfl un23 ei3 rfl rfl (by rfl) rfl rfl rfl) (s1 (app rfl rfl rfl rfl bc23 (aF (f := eI) (xs := y47) (k := 2) rfl un23 ei3 rfl (el_full (xs := [v55.Col]) rfl) hg56 rfl)) (s1 (asg rfl) (SO.nil ?_)))
      change SC _ _ _ _ _
      have q := si h3; subst q
      exact SC.region (s1 (mv rfl) (s1 (bi rfl rfl q_i64_add) (s1 (asg rfl) (SO.nil (lf (wc [2] [2] (by kernel_rfl) rfl (by kernel_rfl)))))))
    · have q := si h3; subst q; have q : _ = _ := hv3; subst q; have q := si h1; subst q
      exact SC.exit ((wq rfl))
  · rintro y43 h0
    have q := si h0; subst q
    exact sr (s1 (mv rfl) (s1 (asg rfl) (sn (SC.ret (finR (Wk.trans (Wk.frz (i := 2) (x := .slc 0 1 0 y43.length none) rfl rfl (fF rfl rfl rfl)) (wc (e' := [(2, .d ((eL 1 eI) y43))]) [] [] (by kernel_rfl) rfl (by kernel_rfl))) (lresT rfl lresN) rfl)))))

/-- granary/granaryref17.index -/
noncomputable def ref17_index (p0 : ApiTable) (p1 : ApiIndex) : Option Int :=
  Option.bind (α := Bool)
    (bif (decide ((p1.Parts.length : Int) < (1 : Int))) then
      some true
    else
      bif (decide ((p1.Parts.length : Int) > (4 : Int))) then
        some true
      else
        Option.bind (ref17_Cols p1.Parts) fun r145 =>
        Option.bind (ref17_places (p0.Cols.length : Int) r145) fun r147 =>
        bif (!r147) then
          some true
        else
          Option.bind (ref17_places (p0.Cols.length : Int) p1.Extra) fun r149 =>
          some (!r149))
    fun y143 =>
  bif y143 then
    some (1 : Int)
  else
    bindE (Y := Unit) (E := Int)
      (Option.bind (α := Unit ⊕ Int)
        (loop (Y := Int) (W := Unit ⊕ Int) (fun y229 =>
          bif (decide (y229 < (p1.Extra.length : Int))) then
            Option.bind (α := Bool)
              (Option.bind (ref17_Cols p1.Parts) fun r261 =>
              Option.bind (getI p1.Extra y229) fun v263 =>
              Option.bind (ref17_Has r261 v263) fun r264 =>
              bif r264 then
                some true
              else
                Option.bind (getI p1.Extra y229) fun v266 =>
                Option.bind (ref17_Has p0.Primary v266) fun r267 =>
                some r267)
              fun y259 =>
            bif y259 then
              some (Sum.inr (Sum.inr (1 : Int)))
            else
              some (Sum.inl (w64 (y229 + (1 : Int))))
          else
            some (Sum.inr (Sum.inl ()))) (0 : Int))
        (Sum.elim (fun e => some (Sum.inl e)) (fun e => some (Sum.inr e))))
      (fun _ =>
        Option.bind (ref17_KeyMax p0.Cols p1.Parts) fun r270 =>
        bif (decide (r270 > (128 : Int))) then
          some (7 : Int)
        else
          some (0 : Int))
      (fun e => some e)
theorem ref17_index_ok (p0 : ApiTable) (p1 : ApiIndex) (r : Int) (h0 : ref17_index p0 p1 = some r) : CallAt Tryz.prog 28 [.d (eApiTable p0), .d (eApiIndex p1)] [] (.d (eI r)) [] := by
  unfold ref17_index at h0
  refine fn0 [0, 1] Tryz.func28 rfl rfl rfl rfl rfl ?_
  refine sr (s1 (bxo (k := 0) rfl rfl rfl) (s1 (bxo (k := 1) rfl rfl rfl) (s1 (asg rfl) (sn (sr (s1 (far (k := 1) rfl fo26_1 ts22 rfl) (s1 (lod rfl (ld_box ts22 ta22 rfl rfl)) (s1 (len rfl rfl rfl (len_lst un22)) (s1 (asg rfl) ?_)))))))))
  refine sn (sq (SC.seqP h0 (fun y => ⟨mk 67 [(2, .ref 0 0 0), (3, .ref 1 0 0), (34, .d (eB y))], [.box (.d (eApiTable p0)), .box (.d (eApiIndex p1))]⟩) ?_ ?_))
  · intro u1_144 h1
    refine SC.region (s1 (far (k := 1) rfl fo82_1 ts80 rfl) (s1 (lod rfl (ld_box ts80 ta80 rfl rfl)) (s1 (len rfl rfl rfl (len_lst un80)) (s1 (bi rfl rfl q_i64_lss) (s1 (mv rfl) (sp h1 (fun h1 => ?_) (fun h1 => ?_)))))))
    · have q := si h1; subst q
      refine k1 (wb rfl rfl rfl) (k1 (wb rfl rfl rfl) (k1 (wb rfl rfl rfl) (k1 (wb rfl rfl rfl) (s1 (pkt rfl rfl) (s1 (mv rfl) (k1 (wb rfl rfl rfl) (k1 (wb rfl rfl rfl) (k1 (wb rfl rfl rfl) (k1 (wb rfl rfl rfl) ?_)))))))))
      refine k1 (wb rfl rfl rfl) (k1 (wb rfl rfl rfl) (s1 (pkt rfl rfl) (s1 (mv rfl) (k1 (wb rfl rfl rfl) (k1 (wb rfl rfl rfl) (k1 (wb rfl rfl rfl) (k1 (wb rfl rfl rfl) (k1 (wb rfl rfl rfl) (s1 (pkt rfl rfl) ?_)))))))))
      exact SO.nil ((wq rfl))
    · refine g1 (wb rfl rfl rfl) (far (k := 1) rfl fo82_1 ts80 rfl) (g1 (wb rfl rfl rfl) (lod rfl (ld_box ts80 ta80 rfl rfl)) (g1 (wb rfl rfl rfl) (len rfl rfl rfl (len_lst un80)) (g1 (wb rfl rfl rfl) (bi rfl rfl q_i64_gtr) (s1 (pkf rfl rfl) (s1 (mv rfl) (sp h1 (fun h1 => ?_) (fun h1 => ?_)))))))
      · have q := si h1; subst q
        refine k1 (wb rfl rfl rfl) (k1 (wb rfl rfl rfl) (k1 (wb rfl rfl rfl) (k1 (wb rfl rfl rfl) (k1 (wb rfl rfl rfl) (k1 (wb rfl rfl rfl) (s1 (pkt rfl rfl) (s1 (mv rfl) (k1 (wb rfl rfl rfl) (k1 (wb rfl rfl rfl) ?_)))))))))
        exact k1 (wb rfl rfl rfl) (k1 (wb rfl rfl rfl) (k1 (wb rfl rfl rfl) (s1 (pkt rfl rfl) (SO.nil ((wq rfl))))))
      · obtain ⟨r145, hq146, h1⟩ := ob h1; obtain ⟨r147, hq148, h1⟩ := ob h1
        refine g1 (wb rfl rfl rfl) (mv rfl) (g1 (wb rfl rfl rfl) (far (k := 1) rfl fo82_1 ts80 rfl) (g1 (wb rfl rfl rfl) (lod rfl (ld_box ts80 ta80 rfl rfl)) (c0 (ref17_Cols_ok p1.Parts _ hq146) (wb rfl rfl rfl) rfl rfl rfl cb53 rfl (fun _ => rfl) (fun _ => rfl) (c0 (ref17_places_ok (p0.Cols.length : Int) r145 _ hq148) (wb rfl rfl rfl) rfl rfl rfl cb24 rfl (fun _ => rfl) (fun _ => rfl) (g1 (wb rfl rfl rfl) (nt rfl) (s1 (pkf rfl rfl) (s1 (mv rfl) (sp h1 (fun h1 => ?_) (fun h1 => ?_)))))))))
        · have q := si h1; subst q
          exact k1 (wb rfl rfl rfl) (k1 (wb rfl rfl rfl) (k1 (wb rfl rfl rfl) (k1 (wb rfl rfl rfl) (k1 (wb rfl rfl rfl) (s1 (pkt rfl rfl) (SO.nil ((wq rfl))))))))
        · obtain ⟨r149, hq150, h1⟩ := ob h1; have q := si h1; subst q
          exact g1 (wb rfl rfl rfl) (mv rfl) (g1 (wb rfl rfl rfl) (far (k := 2) rfl fo82_2 ts23 rfl) (g1 (wb rfl rfl rfl) (lod rfl (ld_box ts23 ta23 rfl rfl)) (c0 (ref17_places_ok (p0.Cols.length : Int) p1.Extra _ hq150) (wb rfl rfl rfl) rfl rfl rfl cb24 rfl (fun _ => rfl) (fun _ => rfl) (g1 (wb rfl rfl rfl) (nt rfl) (s1 (pkf rfl rfl) (SO.nil ((wq rfl))))))))
  · rintro y143 h0
    refine cB h0 rfl (fun h0 => ?_) (fun h0 => ?_)
    · have q := si h0; subst q
      exact sr (s1 (asg rfl) (sn (SC.ret (finR (wc (e' := [(4, .d (eI (1 : Int)))]) [] [] (by kernel_rfl) rfl (by kernel_rfl)) (lresT rfl lresN) rfl))))
    · refine sk (SC.seqB h0 (fun y => ⟨mk 67 [(2, .ref 0 0 0), (3, .ref 1 0 0)], [.box (.d (eApiTable p0)), .box (.d (eApiIndex p1))]⟩) ?_ ?_)
      · intro u1_210 h1 h0
        obtain ⟨u2_250, h2, h1⟩ := ob h1
        refine sr (s1 (asg rfl) (sn (SC.blk (SC.loopB h2 (fun y => ⟨mk 67 [(2, .ref 0 0 0), (3, .ref 1 0 0), (6, .d (eI y))], [.box (.d (eApiTable p0)), .box (.d (eApiIndex p1))]⟩) (wq rfl) ?_))))
        intro n269
        rintro y229 w2_249 h3 hv3
        refine sq (sr (s1 (mv rfl) (s1 (far (k := 2) rfl fo82_2 ts23 rfl) (s1 (lod rfl (ld_box ts23 ta23 rfl rfl)) (s1 (len rfl rfl rfl (len_lst un23)) (s1 (bi rfl rfl q_i64_lss) (sn (cB h3 rfl (fun h3 => ?_) (fun h3 => ?_)))))))))
        · refine sk (sq (SC.blk (SC.seqP h3 (fun y => ⟨mk 67 [(2, .ref 0 0 0), (3, .ref 1 0 0), (6, .d (eI y229)), (60, .d (eB y))], [.box (.d (eApiTable p0)), .box (.d (eApiIndex p1))]⟩) ?_ ?_)))
          · intro u4_260 h4
            obtain ⟨r261, hq262, h4⟩ := ob h4; obtain ⟨v263, hv263, h4⟩ := ob h4; obtain ⟨r264, hq265, h4⟩ := ob h4
            refine SC.draws (by kernel_rfl) (t1 ([], false) (far (k := 1) rfl fo82_1 ts80 rfl) rfl (t1 ([1], false) (lod rfl (ld_box ts80 ta80 rfl rfl)) rfl (tc0 (ref17_Cols_ok p1.Parts _ hq262) wf rfl rfl rfl cb53 rfl (fun _ => rfl) (fun _ => rfl) (t1 ([], false) (far (k := 2) rfl fo82_2 ts23 rfl) rfl (t1 ([1], false) (lod rfl (ld_box ts23 ta23 rfl rfl)) rfl (t1 ([], false) (mv rfl) rfl (t1 ([], false) (ial rfl rfl un23 ts3 (getI_some hv263).1 (map_get (getI_some hv263).2) rfl) rfl (t1 ([], false) (lod rfl (ld_rop ts3 ta3 rfl)) rfl (tc0 (ref17_Has_ok r261 v263 _ hq265) wf rfl rfl rfl cb52 rfl (fun _ => rfl) (fun _ => rfl) ?_)))))))))
            refine t1 ([], false) (mv rfl) rfl (tp h4 (fun h4 => ?_) (fun h4 => ?_))
            · have q := si h4; subst q
              refine j1 (wb rfl rfl rfl) (j1 (wb rfl rfl rfl) (j1 (wb rfl rfl rfl) (j1 (wb rfl rfl rfl) (j1 (wb rfl rfl rfl) (j1 (wb rfl rfl rfl) (j1 (wb rfl rfl rfl) (j1 (wb rfl rfl rfl) (t1 ([], false) (pkt rfl rfl) rfl (ST.nil (And.intro (by decide +kernel) ?_))))))))))
              exact (wq rfl)
            · obtain ⟨v266, hv266, h4⟩ := ob h4; obtain ⟨r267, hq268, h4⟩ := ob h4; have q := si h4; subst q
              refine u1 ([], false) (wb rfl rfl rfl) (far (k := 2) rfl fo26_2 ts23 rfl) rfl (u1 ([0], false) (wb rfl rfl rfl) (lod rfl (ld_box ts23 ta23 rfl rfl)) rfl (u1 ([], false) (wb rfl rfl rfl) (far (k := 2) rfl fo82_2 ts23 rfl) rfl (u1 ([1], false) (wb rfl rfl rfl) (lod rfl (ld_box ts23 ta23 rfl rfl)) rfl (u1 ([], false) (wb rfl rfl rfl) (mv rfl) rfl (u1 ([], false) (wb rfl rfl rfl) (ial rfl rfl un23 ts3 (getI_some hv266).1 (map_get (getI_some hv266).2) rfl) rfl (u1 ([], false) (wb rfl rfl rfl) (lod rfl (ld_rop ts3 ta3 rfl)) rfl (tc0 (ref17_Has_ok p0.Primary v266 _ hq268) (wb rfl rfl rfl) rfl rfl rfl cb52 rfl (fun _ => rfl) (fun _ => rfl) (t1 ([], false) (pkf rfl rfl) rfl (ST.nil (And.intro (by decide +kernel) ?_))))))))))
              exact (wq rfl)
          · rintro y259 h3
            refine cB h3 rfl (fun h3 => ?_) (fun h3 => ?_)
            · have q := si h3; subst q; have q : _ = _ := hv3; subst q; have q := si h1; subst q; have q := si h0; subst q
              exact sr (s1 (asg rfl) (sn (SC.ret (finR (wc (e' := [(4, .d (eI (1 : Int)))]) [] [] (by kernel_rfl) rfl (by kernel_rfl)) (lresT rfl lresN) rfl))))
            · refine SC.skip ?_
              change SC _ _ _ _ _
              have q := si h3; subst q
              exact SC.region (s1 (mv rfl) (s1 (bi rfl rfl q_i64_add) (s1 (asg rfl) (SO.nil (lf (wq rfl))))))
        · have q := si h3; subst q; have q : _ = _ := hv3; subst q; have q := si h1; subst q
          exact SC.exit (lf (wq rfl))
      · intro _ h0
        obtain ⟨r270, hq271, h0⟩ := ob h0
        refine sq (sr (s1 (far (k := 1) rfl fo26_1 ts22 rfl) (s1 (lod rfl (ld_box ts22 ta22 rfl rfl)) (s1 (far (k := 1) rfl fo82_1 ts80 rfl) (s1 (lod rfl (ld_box ts80 ta80 rfl rfl)) (c0 (ref17_KeyMax_ok p0.Cols p1.Parts _ hq271) wf rfl rfl rfl cb26 rfl (fun _ => rfl) (fun _ => rfl) (s1 (bi rfl rfl q_i64_gtr) (sn (cB h0 rfl (fun h0 => ?_) (fun h0 => ?_))))))))))
        · have q := si h0; subst q
          exact sr (s1 (asg rfl) (sn (SC.ret (finR (wc (e' := [(4, .d (eI (7 : Int)))]) [] [] (by kernel_rfl) rfl (by kernel_rfl)) (lresT rfl lresN) rfl))))
        · have q := si h0; subst q
          exact sk (sr (s1 (asg rfl) (sn (SC.ret (finR (wc (e' := [(4, .d (eI (0 : Int)))]) [] [] (by kernel_rfl) rfl (by kernel_rfl)) (lresT rfl lresN) rfl)))))

/-- granary/granaryref17.Check -/
noncomputable def ref17_Check (p0 : ApiTable) : Option Int :=
  Option.bind (ref06_Name p0.Name) fun r443 =>
  bif (!r443) then
    some (1 : Int)
  else
    Option.bind (α := Bool)
      (bif (decide ((p0.Cols.length : Int) < (1 : Int))) then
        some true
      else
        some (decide ((p0.Cols.length : Int) > (24 : Int))))
      fun y445 =>
    bif y445 then
      some (7 : Int)
    else
      bindE (Y := Unit) (E := Int)
        (Option.bind (α := Unit ⊕ Int)
          (loop (Y := Int) (W := Unit ⊕ Int) (fun y537 =>
            bif (decide (y537 < (p0.Cols.length : Int))) then
              bindE (Y := Unit) (E := Int)
                (Option.bind (getI p0.Cols y537) fun v585 =>
                Option.bind (ref06_Column v585) fun r586 =>
                bif (r586 != (0 : Int)) then
                  some (Sum.inr r586)
                else
                  Option.bind (α := Unit ⊕ Int)
                    (loop (Y := Int) (W := Unit ⊕ Int) (fun y590 =>
                      bif (decide (y590 < y537)) then
                        Option.bind (getI p0.Cols y590) fun v596 =>
                        Option.bind (getI p0.Cols y537) fun v597 =>
                        bif (v596.Name == v597.Name) then
                          some (Sum.inr (Sum.inr (6 : Int)))
                        else
                          some (Sum.inl (w64 (y590 + (1 : Int))))
                      else
                        some (Sum.inr (Sum.inl ()))) (0 : Int))
                    (Sum.elim (fun e => some (Sum.inl e)) (fun e => some (Sum.inr e))))
                (fun _ =>
                  some (Sum.inl (w64 (y537 + (1 : Int)))))
                (fun e => some (Sum.inr (Sum.inr e)))
            else
              some (Sum.inr (Sum.inl ()))) (0 : Int))
          (Sum.elim (fun e => some (Sum.inl e)) (fun e => some (Sum.inr e))))
        (fun _ =>
          Option.bind (α := Bool)
            (bif (decide ((p0.Primary.length : Int) < (1 : Int))) then
              some true
            else
              bif (decide ((p0.Primary.length : Int) > (4 : Int))) then
                some true
              else
                Option.bind (ref17_places (p0.Cols.length : Int) p0.Primary) fun r604 =>
                some (!r604))
            fun y602 =>
          bif y602 then
            some (1 : Int)
          else
            bindE (Y := Unit) (E := Int)
              (Option.bind (α := Unit ⊕ Int)
                (loop (Y := Int) (W := Unit ⊕ Int) (fun y620 =>
                  bif (decide (y620 < (p0.Primary.length : Int))) then
                    Option.bind (getI p0.Primary y620) fun v626 =>
                    Option.bind (getI p0.Cols v626) fun v627 =>
                    bif v627.Nulls then
                      some (Sum.inr (Sum.inr (1 : Int)))
                    else
                      some (Sum.inl (w64 (y620 + (1 : Int))))
                  else
                    some (Sum.inr (Sum.inl ()))) (0 : Int))
                (Sum.elim (fun e => some (Sum.inl e)) (fun e => some (Sum.inr e))))
              (fun _ =>
                Option.bind (α := Bool)
                  (Option.bind (ref17_RowMax p0.Cols) fun r637 =>
                  bif (decide (r637 > (512 : Int))) then
                    some true
                  else
                    Option.bind (ref17_Up p0.Primary) fun r639 =>
                    Option.bind (ref17_KeyMax p0.Cols r639) fun r641 =>
                    bif (decide (r641 > (128 : Int))) then
                      some true
                    else
                      some (decide ((p0.Indexes.length : Int) > (6 : Int))))
                  fun y635 =>
                bif y635 then
                  some (7 : Int)
                else
                  bindE (Y := Unit) (E := Int)
                    (Option.bind (α := Unit ⊕ Int)
                      (loop (Y := Int) (W := Unit ⊕ Int) (fun y789 =>
                        bif (decide (y789 < (p0.Indexes.length : Int))) then
                          bindE (Y := Unit) (E := Int)
                            (Option.bind (getI p0.Indexes y789) fun v861 =>
                            Option.bind (ref06_Name v861.Name) fun r862 =>
                            bif (!r862) then
                              some (Sum.inr (1 : Int))
                            else
                              bindE (Y := Unit) (E := Int)
                                (Option.bind (α := Unit ⊕ Int)
                                  (loop (Y := Int) (W := Unit ⊕ Int) (fun y874 =>
                                    bif (decide (y874 < y789)) then
                                      Option.bind (getI p0.Indexes y874) fun v879 =>
                                      bif (v879.Name == v861.Name) then
                                        some (Sum.inr (Sum.inr (6 : Int)))
                                      else
                                        some (Sum.inl (w64 (y874 + (1 : Int))))
                                    else
                                      some (Sum.inr (Sum.inl ()))) (0 : Int))
                                  (Sum.elim (fun e => some (Sum.inl e)) (fun e => some (Sum.inr e))))
                                (fun _ =>
                                  Option.bind (ref17_index p0 v861) fun r881 =>
                                  bif (r881 != (0 : Int)) then
                                    some (Sum.inr r881)
                                  else
                                    some (Sum.inl ()))
                                (fun e => some (Sum.inr e)))
                            (fun _ =>
                              some (Sum.inl (w64 (y789 + (1 : Int)))))
                            (fun e => some (Sum.inr (Sum.inr e)))
                        else
                          some (Sum.inr (Sum.inl ()))) (0 : Int))
                      (Sum.elim (fun e => some (Sum.inl e)) (fun e => some (Sum.inr e))))
                    (fun _ =>
                      some (0 : Int))
                    (fun e => some e))
              (fun e => some e))
        (fun e => some e)
theorem ref17_Check_ok (p0 : ApiTable) (r : Int) (h0 : ref17_Check p0 = some r) : CallAt Tryz.prog 8 [.d (eApiTable p0)] [] (.d (eI r)) [] := by
  unfold ref17_Check at h0
  refine fn0 [0] Tryz.func8 rfl rfl rfl rfl rfl ?_
  obtain ⟨r443, hq444, h0⟩ := ob h0
  refine sr (s1 (bxo (k := 0) rfl rfl rfl) (s1 (asg rfl) (sn (sq (sr (s1 (far (k := 0) rfl fo26_0 ts9 rfl) (s1 (lod rfl (ld_box ts9 ta9 rfl rfl)) (c0 (ref06_Name_ok p0.Name _ hq444) wf rfl rfl rfl cb22 rfl (fun _ => rfl) (fun _ => rfl) (s1 (nt rfl) ?_)))))))))
  refine sn (cB h0 rfl (fun h0 => ?_) (fun h0 => ?_))
  · have q := si h0; subst q
    exact sr (s1 (asg rfl) (sn (SC.ret (finR (wc (e' := [(2, .d (eI (1 : Int)))]) [] [] (by kernel_rfl) rfl (by kernel_rfl)) (lresT rfl lresN) rfl))))
  · refine sk (sq (SC.seqP h0 (fun y => ⟨mk 150 [(1, .ref 0 0 0), (24, .d (eB y))], [.box (.d (eApiTable p0))]⟩) ?_ ?_))
    · intro u1_446 h1
      refine SC.region (s1 (far (k := 1) rfl fo26_1 ts22 rfl) (s1 (lod rfl (ld_box ts22 ta22 rfl rfl)) (s1 (len rfl rfl rfl (len_lst un22)) (s1 (bi rfl rfl q_i64_lss) (s1 (mv rfl) (sp h1 (fun h1 => ?_) (fun h1 => ?_)))))))
      · have q := si h1; subst q
        exact k1 (wb rfl rfl rfl) (k1 (wb rfl rfl rfl) (k1 (wb rfl rfl rfl) (k1 (wb rfl rfl rfl) (s1 (pkt rfl rfl) (SO.nil ((wq rfl)))))))
      · have q := si h1; subst q
        exact g1 (wb rfl rfl rfl) (far (k := 1) rfl fo26_1 ts22 rfl) (g1 (wb rfl rfl rfl) (lod rfl (ld_box ts22 ta22 rfl rfl)) (g1 (wb rfl rfl rfl) (len rfl rfl rfl (len_lst un22)) (g1 (wb rfl rfl rfl) (bi rfl rfl q_i64_gtr) (s1 (pkf rfl rfl) (SO.nil ((wq rfl)))))))
    · rintro y445 h0
      refine cB h0 rfl (fun h0 => ?_) (fun h0 => ?_)
      · have q := si h0; subst q
        exact sr (s1 (asg rfl) (sn (SC.ret (finR (wc (e' := [(2, .d (eI (7 : Int)))]) [] [] (by kernel_rfl) rfl (by kernel_rfl)) (lresT rfl lresN) rfl))))
      · refine sk (SC.seqB h0 (fun y => ⟨mk 150 [(1, .ref 0 0 0)], [.box (.d (eApiTable p0))]⟩) ?_ ?_)
        · intro u1_523 h1 h0
          obtain ⟨u2_569, h2, h1⟩ := ob h1
          refine sr (s1 (asg rfl) (sn (SC.blk (SC.loopB h2 (fun y => ⟨mk 150 [(1, .ref 0 0 0), (3, .d (eI y))], [.box (.d (eApiTable p0))]⟩) (wq rfl) ?_))))
          intro n599
          rintro y537 w2_568 h3 hv3
          refine sq (sr (s1 (mv rfl) (s1 (far (k := 1) rfl fo26_1 ts22 rfl) (s1 (lod rfl (ld_box ts22 ta22 rfl rfl)) (s1 (len rfl rfl rfl (len_lst un22)) (s1 (bi rfl rfl q_i64_lss) (sn (cB h3 rfl (fun h3 => ?_) (fun h3 => ?_)))))))))
          · refine sk (SC.seqB h3 (fun y => ⟨mk 150 [(1, .ref 0 0 0), (3, .d (eI y537))], [.box (.d (eApiTable p0))]⟩) ?_ ?_)
            · intro u4_584 h4 h3
              obtain ⟨v585, hv585, h4⟩ := ob h4; obtain ⟨r586, hq587, h4⟩ := ob h4
              refine SC.blk (sr (s1 (far (k := 1) rfl fo26_1 ts22 rfl) (s1 (lod rfl (ld_box ts22 ta22 rfl rfl)) (s1 (mv rfl) (s1 (ial rfl rfl un22 ts77 (getI_some hv585).1 (map_get (getI_some hv585).2) rfl) (s1 (lod (v := .d (eApiColumn v585)) rfl (ld_rop ts77 ta77 rfl)) (c0 (ref06_Column_ok v585 _ hq587) wf rfl rfl rfl cb23 rfl (fun _ => rfl) (fun _ => rfl) (s1 (asg rfl) (sn ?_)))))))))
              refine sq (sr (s1 (mv rfl) (s1 (bi rfl rfl q_i64_neq) (sn (cB h4 rfl (fun h4 => ?_) (fun h4 => ?_))))))
              · have q := si h4; subst q; have q := si h3; subst q; have q : _ = _ := hv3; subst q; have q := si h1; subst q; have q := si h0; subst q
                exact sr (s1 (mv rfl) (s1 (asg rfl) (sn (SC.ret (finR (wc (e' := [(2, .d (eI r586))]) [] [] (by kernel_rfl) rfl (by kernel_rfl)) (lresT rfl lresN) rfl)))))
              · obtain ⟨u5_595, h5, h4⟩ := ob h4
                refine sk (sr (s1 (asg rfl) (sn (SC.blk (SC.loopB h5 (fun y => ⟨mk 150 [(1, .ref 0 0 0), (3, .d (eI y537)), (5, .d (eI y))], [.box (.d (eApiTable p0))]⟩) (wq rfl) ?_)))))
                intro n598
                rintro y590 w5_594 h6 hv6
                refine sq (sr (s1 (mv rfl) (s1 (mv rfl) (s1 (bi rfl rfl q_i64_lss) (sn (cB h6 rfl (fun h6 => ?_) (fun h6 => ?_)))))))
                · obtain ⟨v596, hv596, h6⟩ := ob h6; obtain ⟨v597, hv597, h6⟩ := ob h6
                  refine sk (sq (SC.blk (sd (by kernel_rfl) (t1 ([], false) (far (k := 1) rfl fo26_1 ts22 rfl) rfl (t1 ([0], false) (lod rfl (ld_box ts22 ta22 rfl rfl)) rfl (t1 ([], false) (mv rfl) rfl (t1 ([], false) (ial rfl rfl un22 ts77 (getI_some hv596).1 (map_get (getI_some hv596).2) rfl) rfl (t1 ([], false) (fap rfl fo77_0 ts9 rfl) rfl (t1 ([], false) (lod rfl (ld_rop ts9 ta9 rfl)) rfl ?_)))))))))
                  refine t1 ([], false) (far (k := 1) rfl fo26_1 ts22 rfl) rfl (t1 ([0], false) (lod rfl (ld_box ts22 ta22 rfl rfl)) rfl (t1 ([], false) (mv rfl) rfl (t1 ([], false) (ial rfl rfl un22 ts77 (getI_some hv597).1 (map_get (getI_some hv597).2) rfl) rfl (t1 ([], false) (fap rfl fo77_0 ts9 rfl) rfl (t1 ([], false) (lod rfl (ld_rop ts9 ta9 rfl)) rfl (t1 ([], false) (bi rfl rfl q_str_eql) rfl (tn (by decide +kernel) (cB h6 rfl (fun h6 => ?_) (fun h6 => ?_)))))))))
                  · have q := si h6; subst q; have q : _ = _ := hv6; subst q; have q := si h4; subst q; have q := si h3; subst q; have q : _ = _ := hv3; subst q; have q := si h1; subst q; have q := si h0; subst q
                    exact sr (s1 (asg rfl) (sn (SC.ret (finR (wc (e' := [(2, .d (eI (6 : Int)))]) [] [] (by kernel_rfl) rfl (by kernel_rfl)) (lresT rfl lresN) rfl))))
                  · refine SC.skip ?_
                    change SC _ _ _ _ _
                    have q := si h6; subst q
                    exact SC.region (s1 (mv rfl) (s1 (bi rfl rfl q_i64_add) (s1 (asg rfl) (SO.nil (lf (wq rfl))))))
                · have q := si h6; subst q; have q : _ = _ := hv6; subst q; have q := si h4; subst q
                  exact SC.exit (lf (wq rfl))
            · intro _ h3
              have q := si h3; subst q
              exact SC.region (s1 (mv rfl) (s1 (bi rfl rfl q_i64_add) (s1 (asg rfl) (SO.nil (lf (wq rfl))))))
          · have q := si h3; subst q; have q : _ = _ := hv3; subst q; have q := si h1; subst q
            exact SC.exit (lf (wq rfl))
        · intro _ h0
          refine sq (SC.seqP h0 (fun y => ⟨mk 150 [(1, .ref 0 0 0), (77, .d (eB y))], [.box (.d (eApiTable p0))]⟩) ?_ ?_)
          · intro u1_603 h1
            refine SC.region (s1 (far (k := 2) rfl fo26_2 ts23 rfl) (s1 (lod rfl (ld_box ts23 ta23 rfl rfl)) (s1 (len rfl rfl rfl (len_lst un23)) (s1 (bi rfl rfl q_i64_lss) (s1 (mv rfl) (sp h1 (fun h1 => ?_) (fun h1 => ?_)))))))
            · have q := si h1; subst q
              refine k1 (wb rfl rfl rfl) (k1 (wb rfl rfl rfl) (k1 (wb rfl rfl rfl) (k1 (wb rfl rfl rfl) (s1 (pkt rfl rfl) (s1 (mv rfl) (k1 (wb rfl rfl rfl) (k1 (wb rfl rfl rfl) (k1 (wb rfl rfl rfl) (k1 (wb rfl rfl rfl) ?_)))))))))
              exact k1 (wb rfl rfl rfl) (k1 (wb rfl rfl rfl) (k1 (wb rfl rfl rfl) (s1 (pkt rfl rfl) (SO.nil ((wq rfl))))))
            · refine g1 (wb rfl rfl rfl) (far (k := 2) rfl fo26_2 ts23 rfl) (g1 (wb rfl rfl rfl) (lod rfl (ld_box ts23 ta23 rfl rfl)) (g1 (wb rfl rfl rfl) (len rfl rfl rfl (len_lst un23)) (g1 (wb rfl rfl rfl) (bi rfl rfl q_i64_gtr) (s1 (pkf rfl rfl) (s1 (mv rfl) (sp h1 (fun h1 => ?_) (fun h1 => ?_)))))))
              · have q := si h1; subst q
                exact k1 (wb rfl rfl rfl) (k1 (wb rfl rfl rfl) (k1 (wb rfl rfl rfl) (k1 (wb rfl rfl rfl) (k1 (wb rfl rfl rfl) (k1 (wb rfl rfl rfl) (k1 (wb rfl rfl rfl) (s1 (pkt rfl rfl) (SO.nil ((wq rfl))))))))))
              · obtain ⟨r604, hq605, h1⟩ := ob h1; have q := si h1; subst q
                exact g1 (wb rfl rfl rfl) (far (k := 1) rfl fo26_1 ts22 rfl) (g1 (wb rfl rfl rfl) (lod rfl (ld_box ts22 ta22 rfl rfl)) (g1 (wb rfl rfl rfl) (len rfl rfl rfl (len_lst un22)) (g1 (wb rfl rfl rfl) (far (k := 2) rfl fo26_2 ts23 rfl) (g1 (wb rfl rfl rfl) (lod rfl (ld_box ts23 ta23 rfl rfl)) (c0 (ref17_places_ok (p0.Cols.length : Int) p0.Primary _ hq605) (wb rfl rfl rfl) rfl rfl rfl cb24 rfl (fun _ => rfl) (fun _ => rfl) (g1 (wb rfl rfl rfl) (nt rfl) (s1 (pkf rfl rfl) (SO.nil ((wq rfl))))))))))
          · rintro y602 h0
            refine cB h0 rfl (fun h0 => ?_) (fun h0 => ?_)
            · have q := si h0; subst q
              exact sr (s1 (asg rfl) (sn (SC.ret (finR (wc (e' := [(2, .d (eI (1 : Int)))]) [] [] (by kernel_rfl) rfl (by kernel_rfl)) (lresT rfl lresN) rfl))))
            · refine sk (SC.seqB h0 (fun y => ⟨mk 150 [(1, .ref 0 0 0)], [.box (.d (eApiTable p0))]⟩) ?_ ?_)
              · intro u1_617 h1 h0
                obtain ⟨u2_625, h2, h1⟩ := ob h1
                refine sr (s1 (asg rfl) (sn (SC.blk (SC.loopB h2 (fun y => ⟨mk 150 [(1, .ref 0 0 0), (6, .d (eI y))], [.box (.d (eApiTable p0))]⟩) (wq rfl) ?_))))
                intro n628
                rintro y620 w2_624 h3 hv3
                refine sq (sr (s1 (mv rfl) (s1 (far (k := 2) rfl fo26_2 ts23 rfl) (s1 (lod rfl (ld_box ts23 ta23 rfl rfl)) (s1 (len rfl rfl rfl (len_lst un23)) (s1 (bi rfl rfl q_i64_lss) (sn (cB h3 rfl (fun h3 => ?_) (fun h3 => ?_)))))))))
                · obtain ⟨v626, hv626, h3⟩ := ob h3; obtain ⟨v627, hv627, h3⟩ := ob h3
                  refine sk (sq (SC.blk (sd (by kernel_rfl) (t1 ([], false) (far (k := 1) rfl fo26_1 ts22 rfl) rfl (t1 ([0], false) (lod rfl (ld_box ts22 ta22 rfl rfl)) rfl (t1 ([], false) (far (k := 2) rfl fo26_2 ts23 rfl) rfl (t1 ([0], false) (lod rfl (ld_box ts23 ta23 rfl rfl)) rfl (t1 ([], false) (mv rfl) rfl (t1 ([], false) (ial rfl rfl un23 ts3 (getI_some hv626).1 (map_get (getI_some hv626).2) rfl) rfl ?_)))))))))
                  refine t1 ([], false) (lod rfl (ld_rop ts3 ta3 rfl)) rfl (t1 ([], false) (ial rfl rfl un22 ts77 (getI_some hv627).1 (map_get (getI_some hv627).2) rfl) rfl (t1 ([], false) (fap rfl fo77_3 ts4 rfl) rfl (t1 ([], false) (lod rfl (ld_rop ts4 ta4 rfl)) rfl (tn (by decide +kernel) (cB h3 rfl (fun h3 => ?_) (fun h3 => ?_))))))
                  · have q := si h3; subst q; have q : _ = _ := hv3; subst q; have q := si h1; subst q; have q := si h0; subst q
                    exact sr (s1 (asg rfl) (sn (SC.ret (finR (wc (e' := [(2, .d (eI (1 : Int)))]) [] [] (by kernel_rfl) rfl (by kernel_rfl)) (lresT rfl lresN) rfl))))
                  · refine SC.skip ?_
                    change SC _ _ _ _ _
                    have q := si h3; subst q
                    exact SC.region (s1 (mv rfl) (s1 (bi rfl rfl q_i64_add) (s1 (asg rfl) (SO.nil (lf (wq rfl))))))
                · have q := si h3; subst q; have q : _ = _ := hv3; subst q; have q := si h1; subst q
                  exact SC.exit (lf (wq rfl))
              · intro _ h0
                refine sq (SC.seqP h0 (fun y => ⟨mk 150 [(1, .ref 0 0 0), (113, .d (eB y))], [.box (.d (eApiTable p0))]⟩) ?_ ?_)
                · intro u1_636 h1
                  obtain ⟨r637, hq638, h1⟩ := ob h1
                  refine SC.draws (by kernel_rfl) (t1 ([], false) (far (k := 1) rfl fo26_1 ts22 rfl) rfl (t1 ([0], false) (lod rfl (ld_box ts22 ta22 rfl rfl)) rfl (tc0 (ref17_RowMax_ok p0.Cols _ hq638) wf rfl rfl rfl cb25 rfl (fun _ => rfl) (fun _ => rfl) (t1 ([], false) (bi rfl rfl q_i64_gtr) rfl (t1 ([], false) (mv rfl) rfl (tp h1 (fun h1 => ?_) (fun h1 => ?_)))))))
                  · have q := si h1; subst q
                    refine j1 (wb rfl rfl rfl) (j1 (wb rfl rfl rfl) (j1 (wb rfl rfl rfl) (j1 (wb rfl rfl rfl) (j1 (wb rfl rfl rfl) (j1 (wb rfl rfl rfl) (j1 (wb rfl rfl rfl) (t1 ([], false) (pkt rfl rfl) rfl (t1 ([], false) (mv rfl) rfl (j1 (wb rfl rfl rfl) ?_)))))))))
                    refine j1 (wb rfl rfl rfl) (j1 (wb rfl rfl rfl) (j1 (wb rfl rfl rfl) (t1 ([], false) (pkt rfl rfl) rfl (ST.nil (And.intro (by decide +kernel) ?_)))))
                    exact (wq rfl)
                  · obtain ⟨r639, hq640, h1⟩ := ob h1; obtain ⟨r641, hq642, h1⟩ := ob h1
                    refine u1 ([], false) (wb rfl rfl rfl) (far (k := 1) rfl fo26_1 ts22 rfl) rfl (u1 ([0], false) (wb rfl rfl rfl) (lod rfl (ld_box ts22 ta22 rfl rfl)) rfl (u1 ([], false) (wb rfl rfl rfl) (far (k := 2) rfl fo26_2 ts23 rfl) rfl (u1 ([0], false) (wb rfl rfl rfl) (lod rfl (ld_box ts23 ta23 rfl rfl)) rfl (tc0 (ref17_Up_ok p0.Primary _ hq640) (wb rfl rfl rfl) rfl rfl rfl cb27 rfl (fun _ => rfl) (fun _ => rfl) (tc0 (ref17_KeyMax_ok p0.Cols r639 _ hq642) (wb rfl rfl rfl) rfl rfl rfl cb26 rfl (fun _ => rfl) (fun _ => rfl) (u1 ([], false) (wb rfl rfl rfl) (bi rfl rfl q_i64_gtr) rfl (t1 ([], false) (pkf rfl rfl) rfl (t1 ([], false) (mv rfl) rfl (tp h1 (fun h1 => ?_) (fun h1 => ?_))))))))))
                    · have q := si h1; subst q
                      refine j1 (wb rfl rfl rfl) (j1 (wb rfl rfl rfl) (j1 (wb rfl rfl rfl) (j1 (wb rfl rfl rfl) (t1 ([], false) (pkt rfl rfl) rfl (ST.nil (And.intro (by decide +kernel) ?_))))))
                      exact (wq rfl)
                    · have q := si h1; subst q
                      refine u1 ([], false) (wb rfl rfl rfl) (far (k := 3) rfl fo26_3 ts24 rfl) rfl (u1 ([0], false) (wb rfl rfl rfl) (lod rfl (ld_box ts24 ta24 rfl rfl)) rfl (u1 ([], false) (wb rfl rfl rfl) (len rfl rfl rfl (len_lst un24)) rfl (u1 ([], false) (wb rfl rfl rfl) (bi rfl rfl q_i64_gtr) rfl (t1 ([], false) (pkf rfl rfl) rfl (ST.nil (And.intro (by decide +kernel) ?_))))))
                      exact (wq rfl)
                · rintro y635 h0
                  refine cB h0 rfl (fun h0 => ?_) (fun h0 => ?_)
                  · have q := si h0; subst q
                    exact sr (s1 (asg rfl) (sn (SC.ret (finR (wc (e' := [(2, .d (eI (7 : Int)))]) [] [] (by kernel_rfl) rfl (by kernel_rfl)) (lresT rfl lresN) rfl))))
                  · refine sk (SC.seqB h0 (fun y => ⟨mk 150 [], []⟩) ?_ ?_)
                    · intro u1_763 h1 h0
                      obtain ⟨u2_837, h2, h1⟩ := ob h1
                      refine sr (s1 (asg rfl) (sn (SC.blk (SC.loopB h2 (fun y => ⟨mk 150 [(1, .ref 0 0 0), (7, .d (eI y))], [.box (.d (eApiTable p0))]⟩) (wq rfl) ?_))))
                      intro n883
                      rintro y789 w2_836 h3 hv3
                      refine sq (sr (s1 (mv rfl) (s1 (far (k := 3) rfl fo26_3 ts24 rfl) (s1 (lod rfl (ld_box ts24 ta24 rfl rfl)) (s1 (len rfl rfl rfl (len_lst un24)) (s1 (bi rfl rfl q_i64_lss) (sn (cB h3 rfl (fun h3 => ?_) (fun h3 => ?_)))))))))
                      · refine sk (SC.seqB h3 (fun y => ⟨mk 150 [(1, .ref 0 0 0), (7, .d (eI y789))], [.box (.d (eApiTable p0))]⟩) ?_ ?_)
                        · intro u4_860 h4 h3
                          obtain ⟨v861, hv861, h4⟩ := ob h4; obtain ⟨r862, hq863, h4⟩ := ob h4
                          refine SC.blk (sr (s1 (far (k := 3) rfl fo26_3 ts24 rfl) (s1 (lod rfl (ld_box ts24 ta24 rfl rfl)) (s1 (mv rfl) (s1 (ial rfl rfl un24 ts82 (getI_some hv861).1 (map_get (getI_some hv861).2) rfl) (s1 (lod (v := .d (eApiIndex v861)) rfl (ld_rop ts82 ta82 rfl)) (s1 (alo (k := 1) zo82 rfl) (s0 (sto rfl rfl (sB (d' := .d (eApiIndex v861)) ts82 rfl rfl rfl rfl rfl rfl rfl)) (sn ?_)))))))))
                          refine sq (sr (s1 (far (k := 0) rfl fo82_0 ts9 rfl) (s1 (lod rfl (ld_box ts9 ta9 rfl rfl)) (c0 (ref06_Name_ok v861.Name _ hq863) wf rfl rfl rfl cb22 rfl (fun _ => rfl) (fun _ => rfl) (s1 (nt rfl) (sn (cB h4 rfl (fun h4 => ?_) (fun h4 => ?_))))))))
                          · have q := si h4; subst q; have q := si h3; subst q; have q : _ = _ := hv3; subst q; have q := si h1; subst q; have q := si h0; subst q
                            exact sr (s1 (asg rfl) (sn (SC.ret (finR (wc (e' := [(2, .d (eI (1 : Int)))]) [] [] (by kernel_rfl) rfl (by kernel_rfl)) (lresT rfl lresN) rfl))))
                          · refine sk (SC.seqB h4 (fun y => ⟨mk 150 [(1, .ref 0 0 0), (7, .d (eI y789)), (8, .ref 1 0 0)], [.box (.d (eApiTable p0)), .box (.d (eApiIndex v861))]⟩) ?_ ?_)
                            · intro u5_872 h5 h4
                              obtain ⟨u6_878, h6, h5⟩ := ob h5
                              refine sr (s1 (asg rfl) (sn (SC.blk (SC.loopB h6 (fun y => ⟨mk 150 [(1, .ref 0 0 0), (7, .d (eI y789)), (8, .ref 1 0 0), (9, .d (eI y))], [.box (.d (eApiTable p0)), .box (.d (eApiIndex v861))]⟩) (wq rfl) ?_))))
                              intro n880
                              rintro y874 w6_877 h7 hv7
                              refine sq (sr (s1 (mv rfl) (s1 (mv rfl) (s1 (bi rfl rfl q_i64_lss) (sn (cB h7 rfl (fun h7 => ?_) (fun h7 => ?_)))))))
                              · obtain ⟨v879, hv879, h7⟩ := ob h7
                                refine sk (sq (SC.blk (sd (by kernel_rfl) (t1 ([], false) (far (k := 3) rfl fo26_3 ts24 rfl) rfl (t1 ([0], false) (lod rfl (ld_box ts24 ta24 rfl rfl)) rfl (t1 ([], false) (mv rfl) rfl (t1 ([], false) (ial rfl rfl un24 ts82 (getI_some hv879).1 (map_get (getI_some hv879).2) rfl) rfl (t1 ([], false) (fap rfl fo82_0 ts9 rfl) rfl (t1 ([], false) (lod rfl (ld_rop ts9 ta9 rfl)) rfl ?_)))))))))
                                refine t1 ([], false) (far (k := 0) rfl fo82_0 ts9 rfl) rfl (t1 ([1], false) (lod rfl (ld_box ts9 ta9 rfl rfl)) rfl (t1 ([], false) (bi rfl rfl q_str_eql) rfl (tn (by decide +kernel) (cB h7 rfl (fun h7 => ?_) (fun h7 => ?_)))))
                                · have q := si h7; subst q; have q : _ = _ := hv7; subst q; have q := si h5; subst q; have q := si h4; subst q; have q := si h3; subst q; have q : _ = _ := hv3; subst q; have q := si h1; subst q; have q := si h0; subst q
                                  exact sr (s1 (asg rfl) (sn (SC.ret (finR (wc (e' := [(2, .d (eI (6 : Int)))]) [] [] (by kernel_rfl) rfl (by kernel_rfl)) (lresT rfl lresN) rfl))))
                                · refine SC.skip ?_
                                  change SC _ _ _ _ _
                                  have q := si h7; subst q
                                  exact SC.region (s1 (mv rfl) (s1 (bi rfl rfl q_i64_add) (s1 (asg rfl) (SO.nil (lf (wq rfl))))))
                              · have q := si h7; subst q; have q : _ = _ := hv7; subst q; have q := si h5; subst q
                                exact SC.exit (lf (wq rfl))
                            · intro _ h4
                              obtain ⟨r881, hq882, h4⟩ := ob h4
                              refine sr (s1 (lod (v := .d (eApiTable p0)) rfl (ld_box ts26 ta26 rfl rfl)) (s1 (lod (v := .d (eApiIndex v861)) rfl (ld_box ts82 ta82 rfl rfl)) (c0 (ref17_index_ok p0 v861 _ hq882) wf rfl rfl rfl cb28 rfl (fun _ => rfl) (fun _ => rfl) (s1 (asg rfl) (sn (sr (s1 (mv rfl) (s1 (bi rfl rfl q_i64_neq) (sn ?_)))))))))
                              refine cB h4 rfl (fun h4 => ?_) (fun h4 => ?_)
                              · have q := si h4; subst q; have q := si h3; subst q; have q : _ = _ := hv3; subst q; have q := si h1; subst q; have q := si h0; subst q
                                exact sr (s1 (mv rfl) (s1 (asg rfl) (sn (SC.ret (finR (wc (e' := [(2, .d (eI r881))]) [] [] (by kernel_rfl) rfl (by kernel_rfl)) (lresT rfl lresN) rfl)))))
                              · have q := si h4; subst q
                                exact SC.skip (lf (wc [0] [0] (by kernel_rfl) rfl (by kernel_rfl)))
                        · intro _ h3
                          have q := si h3; subst q
                          exact SC.region (s1 (mv rfl) (s1 (bi rfl rfl q_i64_add) (s1 (asg rfl) (SO.nil (lf (wq rfl))))))
                      · have q := si h3; subst q; have q : _ = _ := hv3; subst q; have q := si h1; subst q
                        exact SC.exit (lf (wc [] [] (by kernel_rfl) rfl (by kernel_rfl)))
                    · intro _ h0
                      have q := si h0; subst q
                      exact sr (s1 (asg rfl) (sn (SC.ret (finR (Wk.refl _) (lresT rfl lresN) rfl))))

/-- granary/granaryref17.Copy -/
noncomputable def ref17_Copy (p0 : ApiTable) : Option ((List ApiIndex)) :=
  bif decide ((([] : List ApiColumn).length + p0.Cols.length) * 72 ≤ room) then
  bif decide ((([] : List Int).length + p0.Primary.length) * 8 ≤ room) then
  Option.bind (α := (List ApiIndex))
    (Option.bind (α := (List ApiIndex))
      (loop (Y := (List ApiIndex) × Int) (W := (List ApiIndex)) (fun (y71, y72) =>
        bif (decide (y72 < (p0.Indexes.length : Int))) then
          Option.bind (getI p0.Indexes y72) fun v81 =>
          bif decide ((([] : List ApiPart).length + v81.Parts.length) * 16 ≤ room) then
          bif decide ((([] : List Int).length + v81.Extra.length) * 8 ≤ room) then
          bif decide ((y71.length + [(ApiIndex.mk v81.Name (([] : List ApiPart) ++ v81.Parts) (([] : List Int) ++ v81.Extra) v81.Unique v81.Ready v81.Tree)].length) * 80 ≤ room) then
          some (Sum.inl ((y71 ++ [(ApiIndex.mk v81.Name (([] : List ApiPart) ++ v81.Parts) (([] : List Int) ++ v81.Extra) v81.Unique v81.Ready v81.Tree)]), (w64 (y72 + (1 : Int)))))
          else none
          else none
          else none
        else
          some (Sum.inr y71)) (([] : List ApiIndex), (0 : Int)))
      (fun e => some e))
    fun y65 =>
  some y65
  else none
  else none
theorem ref17_Copy_ok (p0 : ApiTable) (r : (List ApiIndex)) (h0 : ref17_Copy p0 = some r) : CallAt Tryz.prog 9 [.d (eApiTable p0)] [] (.agg [.d (eS p0.Name), .slc 1 7 0 ((([] : List ApiColumn) ++ p0.Cols).length) none, .slc 2 1 0 ((([] : List Int) ++ p0.Primary).length) none, .slc 3 6 0 r.length none, .d (eI p0.Tree)]) [.box (.agg [.d (eS p0.Name), .slc 1 7 0 ((([] : List ApiColumn) ++ p0.Cols).length) none, .slc 2 1 0 ((([] : List Int) ++ p0.Primary).length) none, .slc 3 6 0 r.length none, .d (eI p0.Tree)]), .row 7 (List.map eApiColumn (([] : List ApiColumn) ++ p0.Cols)) true, .row 1 (List.map eI (([] : List Int) ++ p0.Primary)) true, .row 6 (List.map eApiIndex r) true] := by
  unfold ref17_Copy at h0
  refine fn0 [0] Tryz.func9 rfl rfl rfl rfl rfl ?_
  obtain ⟨hg44, h0⟩ := gd h0; obtain ⟨hg45, h0⟩ := gd h0
  refine sr (s1 (bxo (k := 0) rfl rfl rfl) (s1 (alo (k := 1) zo26 rfl) (sn (sr (s1 (bsn (k := 2) (ds := List.map eApiColumn ([] : List ApiColumn)) (off := 0) (l' := ([] : List ApiColumn).length) rfl un22 ei77 rfl rfl rfl rfl rfl rfl) (s1 (far (k := 1) rfl fo26_1 ts22 rfl) (s1 (lod rfl (ld_box ts22 ta22 rfl rfl)) (s1 (app rfl rfl rfl rfl bc22 (aF (f := eApiColumn) (xs := ([] : List ApiColumn)) (k := 3) rfl un22 ei77 rfl el_lst hg44 rfl)) (s1 (far (k := 1) rfl fo26_1 ts22 rfl) ?_)))))))))
  refine s0 (sto rfl rfl (sB (d' := .agg [.d (eS p0.Name), .slc 3 7 0 ((([] : List ApiColumn) ++ p0.Cols).length) none, .d ((eL 1 eI) p0.Primary), .d ((eL 6 eApiIndex) p0.Indexes), .d (eI p0.Tree)]) ts22 rfl rfl rfl rfl rfl rfl rfl)) (sn (sr (s1 (bsn (k := 4) (ds := List.map eI ([] : List Int)) (off := 0) (l' := ([] : List Int).length) rfl un23 ei3 rfl rfl rfl rfl rfl rfl) (s1 (far (k := 2) rfl fo26_2 ts23 rfl) (s1 (lod rfl (ld_box ts23 ta23 rfl rfl)) (s1 (app rfl rfl rfl rfl bc23 (aF (f := eI) (xs := ([] : List Int)) (k := 5) rfl un23 ei3 rfl el_lst hg45 rfl)) (s1 (far (k := 2) rfl fo26_2 ts23 rfl) (s0 (sto rfl rfl (sB (d' := .agg [.d (eS p0.Name), .slc 3 7 0 ((([] : List ApiColumn) ++ p0.Cols).length) none, .slc 5 1 0 ((([] : List Int) ++ p0.Primary).length) none, .d ((eL 6 eApiIndex) p0.Indexes), .d (eI p0.Tree)]) ts23 rfl rfl rfl rfl rfl rfl rfl)) (sn ?_)))))))))
  refine sr (s1 (asg (v := .d .nils) rfl) (sn (SC.seqP h0 (fun y => ⟨mk 45 [(1, .ref 0 0 0), (2, .ref 1 0 0), (3, .slc 2 6 0 y.length none)], [.box (.agg [.d (eS p0.Name), .slc 3 7 0 ((([] : List ApiColumn) ++ p0.Cols).length) none, .slc 4 1 0 ((([] : List Int) ++ p0.Primary).length) none, .d ((eL 6 eApiIndex) p0.Indexes), .d (eI p0.Tree)]), .box (.d (.agg [(eS ([] : List UInt8)), .nils, .nils, .nils, (eI (0 : Int))])), .row 6 (List.map eApiIndex y) true, .row 7 (List.map eApiColumn (([] : List ApiColumn) ++ p0.Cols)) true, .row 1 (List.map eI (([] : List Int) ++ p0.Primary)) true]⟩) ?_ ?_)))
  · intro u1_66 h1
    obtain ⟨u2_80, h2, h1⟩ := ob h1
    refine sr (s1 (asg rfl) (sn (SC.blk (SC.loopB h2 (fun y => ⟨mk 45 [(1, .ref 0 0 0), (2, .ref 1 0 0), (3, .slc 2 6 0 y.1.length none), (4, .d (eI y.2))], [.box (.agg [.d (eS p0.Name), .slc 3 7 0 ((([] : List ApiColumn) ++ p0.Cols).length) none, .slc 4 1 0 ((([] : List Int) ++ p0.Primary).length) none, .d ((eL 6 eApiIndex) p0.Indexes), .d (eI p0.Tree)]), .box (.d (.agg [(eS ([] : List UInt8)), .nils, .nils, .nils, (eI (0 : Int))])), .row 6 (List.map eApiIndex y.1) true, .row 7 (List.map eApiColumn (([] : List ApiColumn) ++ p0.Cols)) true, .row 1 (List.map eI (([] : List Int) ++ p0.Primary)) true]⟩) (Wk.trans (Wk.pushE (σ' := [.box (.agg [.d (eS p0.Name), .slc 3 7 0 ((([] : List ApiColumn) ++ p0.Cols).length) none, .slc 5 1 0 ((([] : List Int) ++ p0.Primary).length) none, .d ((eL 6 eApiIndex) p0.Indexes), .d (eI p0.Tree)]), .box (.d (.agg [(eS ([] : List UInt8)), .nils, .nils, .nils, (eI (0 : Int))])), .dead, .row 7 (List.map eApiColumn (([] : List ApiColumn) ++ p0.Cols)) true, .dead, .row 1 (List.map eI (([] : List Int) ++ p0.Primary)) true, .row 6 (List.map eApiIndex ([] : List ApiIndex)) true]) (.row 6 [] true) (fun _ hh => by cases hh) rfl) (Wk.trans (Wk.env (e' := [(1, .ref 0 0 0), (2, .ref 1 0 0), (3, .slc 6 6 0 (([] : List ApiIndex).length) none), (4, .d (eI (0 : Int)))]) (EW.cons (AW.refl _) (EW.cons (AW.refl _) (EW.cons (AW.slcn _ _ _) (EW.cons (AW.refl _) EW.nil))))) (wc [0, 1, 6, 3, 5] [0, 1, 6] (by kernel_rfl) rfl (by kernel_rfl)))) ?_))))
    intro n85
    rintro ⟨y71, y72⟩ w2_79 h3 hv3
    refine sq (sr (s1 (mv rfl) (s1 (far (k := 3) rfl fo26_3 ts24 rfl) (s1 (lod rfl (ld_box ts24 ta24 rfl rfl)) (s1 (len rfl rfl rfl (len_lst un24)) (s1 (bi rfl rfl q_i64_lss) (sn (cB h3 rfl (fun h3 => ?_) (fun h3 => ?_)))))))))
    · obtain ⟨v81, hv81, h3⟩ := ob h3; obtain ⟨hg82, h3⟩ := gd h3; obtain ⟨hg83, h3⟩ := gd h3; obtain ⟨hg84, h3⟩ := gd h3
      refine sk (sq (SC.blk (sr (s1 (far (k := 3) rfl fo26_3 ts24 rfl) (s1 (lod rfl (ld_box ts24 ta24 rfl rfl)) (s1 (mv rfl) (s1 (ial rfl rfl un24 ts82 (getI_some hv81).1 (map_get (getI_some hv81).2) rfl) (s1 (lod (v := .d (eApiIndex v81)) rfl (ld_rop ts82 ta82 rfl)) (s1 (alo (k := 5) zo82 rfl) ?_)))))))))
      refine s0 (sto rfl rfl (sB (d' := .d (eApiIndex v81)) ts82 rfl rfl rfl rfl rfl rfl rfl)) (sn (sr (s1 (bsn (k := 6) (ds := List.map eApiPart ([] : List ApiPart)) (off := 0) (l' := ([] : List ApiPart).length) rfl un80 ei79 rfl rfl rfl rfl rfl rfl) (s1 (far (k := 1) rfl fo82_1 ts80 rfl) (s1 (lod rfl (ld_box ts80 ta80 rfl rfl)) (s1 (app rfl rfl rfl rfl bc80 (aF (f := eApiPart) (xs := ([] : List ApiPart)) (k := 7) rfl un80 ei79 rfl el_lst hg82 rfl)) (s1 (far (k := 1) rfl fo82_1 ts80 rfl) (s0 (sto rfl rfl (sB (d' := .agg [.d (eS v81.Name), .slc 7 2 0 ((([] : List ApiPart) ++ v81.Parts).length) none, .d ((eL 1 eI) v81.Extra), .d (eB v81.Unique), .d (eB v81.Ready), .d (eI v81.Tree)]) ts80 rfl rfl rfl rfl rfl rfl rfl)) (sn ?_)))))))))
      refine sr (s1 (bsn (k := 8) (ds := List.map eI ([] : List Int)) (off := 0) (l' := ([] : List Int).length) rfl un23 ei3 rfl rfl rfl rfl rfl rfl) (s1 (far (k := 2) rfl fo82_2 ts23 rfl) (s1 (lod rfl (ld_box ts23 ta23 rfl rfl)) (s1 (app rfl rfl rfl rfl bc23 (aF (f := eI) (xs := ([] : List Int)) (k := 9) rfl un23 ei3 rfl el_lst hg83 rfl)) (s1 (far (k := 2) rfl fo82_2 ts23 rfl) (s0 (sto rfl rfl (sB (d' := .agg [.d (eS v81.Name), .slc 7 2 0 ((([] : List ApiPart) ++ v81.Parts).length) none, .slc 9 1 0 ((([] : List Int) ++ v81.Extra).length) none, .d (eB v81.Unique), .d (eB v81.Ready), .d (eI v81.Tree)]) ts23 rfl rfl rfl rfl rfl rfl rfl)) (sn (SC.region (s1 (mv rfl) ?_)))))))))
      refine s1 (lod (v := .agg [.d (eS v81.Name), .slc 7 2 0 ((([] : List ApiPart) ++ v81.Parts).length) none, .slc 9 1 0 ((([] : List Int) ++ v81.Extra).length) none, .d (eB v81.Unique), .d (eB v81.Ready), .d (eI v81.Tree)]) rfl (ld_box ts82 ta82 rfl rfl)) (SO.wk (Wk.frzs (i := 39) (x := .agg [.d (eS v81.Name), .slc 7 2 0 ((([] : List ApiPart) ++ v81.Parts).length) none, .slc 9 1 0 ((([] : List Int) ++ v81.Extra).length) none, .d (eB v81.Unique), .d (eB v81.Ready), .d (eI v81.Tree)]) rfl rfl rfl (frzs_d rfl (frzs_slc (fF rfl rfl rfl) (frzs_slc (fF rfl rfl rfl) (frzs_d rfl (frzs_d rfl (frzs_d rfl frzs_nil))))))) (s1 (bsn (k := 10) (ds := List.map eApiIndex [(ApiIndex.mk v81.Name (([] : List ApiPart) ++ v81.Parts) (([] : List Int) ++ v81.Extra) v81.Unique v81.Ready v81.Tree)]) (off := 0) (l' := [(ApiIndex.mk v81.Name (([] : List ApiPart) ++ v81.Parts) (([] : List Int) ++ v81.Extra) v81.Unique v81.Ready v81.Tree)].length) rfl un24 ei82 rfl rfl (by rfl) rfl rfl rfl) (s1 (app rfl rfl rfl rfl bc24 (aF (f := eApiIndex) (xs := y71) (k := 11) rfl un24 ei82 rfl (el_full (xs := [(ApiIndex.mk v81.Name (([] : List ApiPart) ++ v81.Parts) (([] : List Int) ++ v81.Extra) v81.Unique v81.Ready v81.Tree)]) rfl) hg84 rfl)) (s1 (asg rfl) (SO.nil ?_)))))
      change SC _ _ _ _ _
      have q := si h3; subst q
      exact SC.region (s1 (mv rfl) (s1 (bi rfl rfl q_i64_add) (s1 (asg rfl) (SO.nil (lf (wc [0, 1, 11, 3, 4] [0, 1, 11] (by kernel_rfl) rfl (by kernel_rfl)))))))
    · have q := si h3; subst q; have q : _ = _ := hv3; subst q; have q := si h1; subst q
      exact SC.exit ((wq rfl))
  · rintro y65 h0
    have q := si h0; subst q
    refine sr (s1 (mv rfl) (s1 (far (k := 3) rfl fo26_3 ts24 rfl) (s0 (sto rfl rfl (sB (d' := .agg [.d (eS p0.Name), .slc 3 7 0 ((([] : List ApiColumn) ++ p0.Cols).length) none, .slc 4 1 0 ((([] : List Int) ++ p0.Primary).length) none, .slc 2 6 0 y65.length none, .d (eI p0.Tree)]) ts24 rfl rfl rfl rfl rfl rfl rfl)) (sn (sr (s1 (lod (v := .agg [.d (eS p0.Name), .slc 3 7 0 ((([] : List ApiColumn) ++ p0.Cols).length) none, .slc 4 1 0 ((([] : List Int) ++ p0.Primary).length) none, .slc 2 6 0 y65.length none, .d (eI p0.Tree)]) rfl (ld_box ts26 ta26 rfl rfl)) (s0 (sto rfl rfl (sB (d' := .agg [.d (eS p0.Name), .slc 3 7 0 ((([] : List ApiColumn) ++ p0.Cols).length) none, .slc 4 1 0 ((([] : List Int) ++ p0.Primary).length) none, .slc 2 6 0 y65.length none, .d (eI p0.Tree)]) ts26 rfl rfl rfl rfl rfl rfl rfl)) (sn (SC.ret ?_)))))))))
    exact finR (wc (e' := [(2, .ref 0 0 0)]) [1, 3, 4, 2] [1] (by kernel_rfl) rfl (by kernel_rfl)) (lresC rfl (ld_box ts26 ta26 rfl rfl) lresN) rfl

/-- granary/granarylaw19.built -/
noncomputable def law19_built (p0 : List FanBuilt) : Option ((List Granaryref19Built)) :=
  Option.bind (α := (List Granaryref19Built))
    (Option.bind (α := (List Granaryref19Built))
      (loop (Y := (List Granaryref19Built) × Int) (W := (List Granaryref19Built)) (fun (y57, y58) =>
        bif (decide (y58 < (p0.length : Int))) then
          Option.bind (getI p0 y58) fun v66 =>
          Option.bind (getI p0 y58) fun v67 =>
          bif decide ((y57.length + [(Granaryref19Built.mk v66.Key v67.Any)].length) * 24 ≤ room) then
          some (Sum.inl ((y57 ++ [(Granaryref19Built.mk v66.Key v67.Any)]), (w64 (y58 + (1 : Int)))))
          else none
        else
          some (Sum.inr y57)) (([] : List Granaryref19Built), (0 : Int)))
      (fun e => some e))
    fun y52 =>
  some y52
theorem law19_built_ok (p0 : List FanBuilt) (r : (List Granaryref19Built)) (h0 : law19_built p0 = some r) : CallAt Tryz.prog 12 [.d ((eL 2 eFanBuilt) p0)] [] (.d ((eL 2 eGranaryref19Built) r)) [] := by
  unfold law19_built at h0
  refine fn0 [0] Tryz.func12 rfl rfl rfl rfl rfl ?_
  refine sr (s1 (asg (v := .d .nils) rfl) (sn (sr (s1 (asg (v := .d .nils) rfl) (sn (SC.seqP h0 (fun y => ⟨mk 26 [(3, .slc 0 2 0 y.length none)], [.row 2 (List.map eGranaryref19Built y) true]⟩) ?_ ?_))))))
  · intro u1_53 h1
    obtain ⟨u2_65, h2, h1⟩ := ob h1
    refine sr (s1 (asg rfl) (sn (SC.blk (SC.loopB h2 (fun y => ⟨mk 26 [(0, .d ((eL 2 eFanBuilt) p0)), (3, .slc 0 2 0 y.1.length none), (4, .d (eI y.2))], [.row 2 (List.map eGranaryref19Built y.1) true]⟩) (Wk.trans (Wk.pushE (σ' := [.row 2 (List.map eGranaryref19Built ([] : List Granaryref19Built)) true]) (.row 2 [] true) (fun _ hh => by cases hh) rfl) (Wk.trans (Wk.env (e' := [(0, .d ((eL 2 eFanBuilt) p0)), (3, .slc 0 2 0 (([] : List Granaryref19Built).length) none), (4, .d (eI (0 : Int)))]) (EW.cons (AW.refl _) (EW.cons (AW.slcn _ _ _) (EW.cons (AW.refl _) EW.nil)))) (wq rfl))) ?_))))
    intro n69
    rintro ⟨y57, y58⟩ w2_64 h3 hv3
    refine sq (sr (s1 (mv rfl) (s1 (mv rfl) (s1 (len rfl rfl rfl (len_lst un27)) (s1 (bi rfl rfl q_i64_lss) (sn (cB h3 rfl (fun h3 => ?_) (fun h3 => ?_))))))))
    · obtain ⟨v66, hv66, h3⟩ := ob h3; obtain ⟨v67, hv67, h3⟩ := ob h3; obtain ⟨hg68, h3⟩ := gd h3
      refine sk (sq (SC.blk (SC.draws (by kernel_rfl) (t1 ([], false) (mv rfl) rfl (t1 ([], false) (mv rfl) rfl (t1 ([], false) (mv rfl) rfl (t1 ([], false) (ial rfl rfl un27 ts99 (getI_some hv66).1 (map_get (getI_some hv66).2) rfl) rfl (t1 ([], false) (fap rfl fo99_0 ts9 rfl) rfl (t1 ([], false) (lod rfl (ld_rop ts9 ta9 rfl)) rfl ?_)))))))))
      refine t1 ([], false) (mv rfl) rfl (t1 ([], false) (mv rfl) rfl (t1 ([], false) (ial rfl rfl un27 ts99 (getI_some hv67).1 (map_get (getI_some hv67).2) rfl) rfl (t1 ([], false) (fap rfl fo99_1 ts4 rfl) rfl (t1 ([], false) (lod rfl (ld_rop ts4 ta4 rfl)) rfl (t1 ([], false) (bld rfl (bd105_0_1 v66.Key v67.Any)) rfl (t1 ([1], true) (bsn (k := 1) (ds := List.map eGranaryref19Built [(Granaryref19Built.mk v66.Key v67.Any)]) (off := 0) (l' := [(Granaryref19Built.mk v66.Key v67.Any)].length) rfl un49 ei105 rfl rfl (by rfl) rfl rfl rfl) rfl (t1 ([0, 1, 2], true) (app rfl rfl rfl rfl bc49 (aF (f := eGranaryref19Built) (xs := y57) (k := 2) rfl un49 ei105 rfl (el_full (xs := [(Granaryref19Built.mk v66.Key v67.Any)]) rfl) hg68 rfl)) rfl (t1 ([], false) (asg rfl) rfl (ST.nil (And.intro (by decide +kernel) ?_))))))))))
      change SC _ _ _ _ _
      have q := si h3; subst q
      exact SC.region (s1 (mv rfl) (s1 (bi rfl rfl q_i64_add) (s1 (asg rfl) (SO.nil (lf (wc [2] [2] (by kernel_rfl) rfl (by kernel_rfl)))))))
    · have q := si h3; subst q; have q : _ = _ := hv3; subst q; have q := si h1; subst q
      exact SC.exit ((wq rfl))
  · rintro y52 h0
    have q := si h0; subst q
    exact sr (s1 (mv rfl) (s1 (asg rfl) (sn (SC.ret (finR (Wk.trans (Wk.frz (i := 2) (x := .slc 0 2 0 y52.length none) rfl rfl (fF rfl rfl rfl)) (wc (e' := [(2, .d ((eL 2 eGranaryref19Built) y52))]) [] [] (by kernel_rfl) rfl (by kernel_rfl))) (lresT rfl lresN) rfl)))))

/-- granary/granaryref08.Columns -/
noncomputable def ref08_Columns (p0 : List ApiColumn) : Option Bool :=
  Option.bind (α := Bool)
    (bif (decide ((p0.length : Int) < (1 : Int))) then
      some true
    else
      some (decide ((p0.length : Int) > (24 : Int))))
    fun y33 =>
  bif y33 then
    some false
  else
    bindE (Y := Unit) (E := Bool)
      (Option.bind (α := Unit ⊕ Bool)
        (loop (Y := Int) (W := Unit ⊕ Bool) (fun y53 =>
          bif (decide (y53 < (p0.length : Int))) then
            Option.bind (getI p0 y53) fun v60 =>
            Option.bind (ref06_Column v60) fun r61 =>
            bif (r61 != (0 : Int)) then
              some (Sum.inr (Sum.inr false))
            else
              some (Sum.inl (w64 (y53 + (1 : Int))))
          else
            some (Sum.inr (Sum.inl ()))) (0 : Int))
        (Sum.elim (fun e => some (Sum.inl e)) (fun e => some (Sum.inr e))))
      (fun _ =>
        some true)
      (fun e => some e)
theorem ref08_Columns_ok (p0 : List ApiColumn) (r : Bool) (h0 : ref08_Columns p0 = some r) : CallAt Tryz.prog 72 [.d ((eL 7 eApiColumn) p0)] [] (.d (eB r)) [] := by
  unfold ref08_Columns at h0
  refine fn0 [0] Tryz.func72 rfl rfl rfl rfl rfl ?_
  refine sr (s1 (asg rfl) (sn (sq (SC.seqP h0 (fun y => ⟨mk 24 [(0, .d ((eL 7 eApiColumn) p0)), (11, .d (eB y))], []⟩) ?_ ?_))))
  · intro u1_34 h1
    refine SC.region (s1 (mv rfl) (s1 (len rfl rfl rfl (len_lst un22)) (s1 (bi rfl rfl q_i64_lss) (s1 (mv rfl) (sp h1 (fun h1 => ?_) (fun h1 => ?_))))))
    · have q := si h1; subst q
      exact k1 (wb rfl rfl rfl) (k1 (wb rfl rfl rfl) (k1 (wb rfl rfl rfl) (s1 (pkt rfl rfl) (SO.nil ((wq rfl))))))
    · have q := si h1; subst q
      exact g1 (wb rfl rfl rfl) (mv rfl) (g1 (wb rfl rfl rfl) (len rfl rfl rfl (len_lst un22)) (g1 (wb rfl rfl rfl) (bi rfl rfl q_i64_gtr) (s1 (pkf rfl rfl) (SO.nil ((wq rfl))))))
  · rintro y33 h0
    refine cB h0 rfl (fun h0 => ?_) (fun h0 => ?_)
    · have q := si h0; subst q
      exact sr (s1 (asg rfl) (sn (SC.ret (finR (Wk.refl _) (lresT rfl lresN) rfl))))
    · refine sk (SC.seqB h0 (fun y => ⟨mk 24 [], []⟩) ?_ ?_)
      · intro u1_49 h1 h0
        obtain ⟨u2_59, h2, h1⟩ := ob h1
        refine sr (s1 (asg rfl) (sn (SC.blk (SC.loopB h2 (fun y => ⟨mk 24 [(0, .d ((eL 7 eApiColumn) p0)), (3, .d (eI y))], []⟩) (wq rfl) ?_))))
        intro n63
        rintro y53 w2_58 h3 hv3
        refine sq (sr (s1 (mv rfl) (s1 (mv rfl) (s1 (len rfl rfl rfl (len_lst un22)) (s1 (bi rfl rfl q_i64_lss) (sn (cB h3 rfl (fun h3 => ?_) (fun h3 => ?_))))))))
        · obtain ⟨v60, hv60, h3⟩ := ob h3; obtain ⟨r61, hq62, h3⟩ := ob h3
          refine sk (sq (SC.blk (sr (s1 (mv rfl) (s1 (mv rfl) (s1 (ial rfl rfl un22 ts77 (getI_some hv60).1 (map_get (getI_some hv60).2) rfl) (s1 (lod (v := .d (eApiColumn v60)) rfl (ld_rop ts77 ta77 rfl)) (c0 (ref06_Column_ok v60 _ hq62) wf rfl rfl rfl cb23 rfl (fun _ => rfl) (fun _ => rfl) (s1 (bi rfl rfl q_i64_neq) ?_)))))))))
          refine sn (cB h3 rfl (fun h3 => ?_) (fun h3 => ?_))
          · have q := si h3; subst q; have q : _ = _ := hv3; subst q; have q := si h1; subst q; have q := si h0; subst q
            exact sr (s1 (asg rfl) (sn (SC.ret (finR (Wk.refl _) (lresT rfl lresN) rfl))))
          · refine SC.skip ?_
            change SC _ _ _ _ _
            have q := si h3; subst q
            exact SC.region (s1 (mv rfl) (s1 (bi rfl rfl q_i64_add) (s1 (asg rfl) (SO.nil (lf (wq rfl))))))
        · have q := si h3; subst q; have q : _ = _ := hv3; subst q; have q := si h1; subst q
          exact SC.exit (lf (wq rfl))
      · intro _ h0
        have q := si h0; subst q
        exact sr (s1 (asg rfl) (sn (SC.ret (finR (Wk.refl _) (lresT rfl lresN) rfl))))

/-- granary/granaryref08.Fits -/
noncomputable def ref08_Fits (p0 : List ApiColumn) (p1 : List ApiValue) : Option Int :=
  Option.bind (α := Bool)
    (Option.bind (ref08_Columns p0) fun r47 =>
    bif (!r47) then
      some true
    else
      some ((p1.length : Int) != (p0.length : Int)))
    fun y45 =>
  bif y45 then
    some (1 : Int)
  else
    bindE (Y := Unit) (E := Int)
      (Option.bind (α := Unit ⊕ Int)
        (loop (Y := Int) (W := Unit ⊕ Int) (fun y71 =>
          bif (decide (y71 < (p1.length : Int))) then
            Option.bind (getI p0 y71) fun v79 =>
            Option.bind (getI p1 y71) fun v80 =>
            Option.bind (ref06_Fits v79 v80) fun r81 =>
            bif (r81 != (0 : Int)) then
              some (Sum.inr (Sum.inr r81))
            else
              some (Sum.inl (w64 (y71 + (1 : Int))))
          else
            some (Sum.inr (Sum.inl ()))) (0 : Int))
        (Sum.elim (fun e => some (Sum.inl e)) (fun e => some (Sum.inr e))))
      (fun _ =>
        some (0 : Int))
      (fun e => some e)
theorem ref08_Fits_ok (p0 : List ApiColumn) (p1 : List ApiValue) (r : Int) (h0 : ref08_Fits p0 p1 = some r) : CallAt Tryz.prog 36 [.d ((eL 7 eApiColumn) p0), .d ((eL 3 eApiValue) p1)] [] (.d (eI r)) [] := by
  unfold ref08_Fits at h0
  refine fn0 [0, 1] Tryz.func36 rfl rfl rfl rfl rfl ?_
  refine sr (s1 (asg rfl) (sn (sq (SC.seqP h0 (fun y => ⟨mk 35 [(0, .d ((eL 7 eApiColumn) p0)), (1, .d ((eL 3 eApiValue) p1)), (16, .d (eB y))], []⟩) ?_ ?_))))
  · intro u1_46 h1
    obtain ⟨r47, hq48, h1⟩ := ob h1
    refine SC.region (s1 (mv rfl) (c0 (ref08_Columns_ok p0 _ hq48) wf rfl rfl rfl cb72 rfl (fun _ => rfl) (fun _ => rfl) (s1 (nt rfl) (s1 (mv rfl) (sp h1 (fun h1 => ?_) (fun h1 => ?_))))))
    · have q := si h1; subst q
      exact k1 (wb rfl rfl rfl) (k1 (wb rfl rfl rfl) (k1 (wb rfl rfl rfl) (k1 (wb rfl rfl rfl) (k1 (wb rfl rfl rfl) (s1 (pkt rfl rfl) (SO.nil ((wq rfl))))))))
    · have q := si h1; subst q
      exact g1 (wb rfl rfl rfl) (mv rfl) (g1 (wb rfl rfl rfl) (len rfl rfl rfl (len_lst un28)) (g1 (wb rfl rfl rfl) (mv rfl) (g1 (wb rfl rfl rfl) (len rfl rfl rfl (len_lst un22)) (g1 (wb rfl rfl rfl) (bi rfl rfl q_i64_neq) (s1 (pkf rfl rfl) (SO.nil ((wq rfl))))))))
  · rintro y45 h0
    refine cB h0 rfl (fun h0 => ?_) (fun h0 => ?_)
    · have q := si h0; subst q
      exact sr (s1 (asg rfl) (sn (SC.ret (finR (Wk.refl _) (lresT rfl lresN) rfl))))
    · refine sk (SC.seqB h0 (fun y => ⟨mk 35 [], []⟩) ?_ ?_)
      · intro u1_66 h1 h0
        obtain ⟨u2_78, h2, h1⟩ := ob h1
        refine sr (s1 (asg rfl) (sn (SC.blk (SC.loopB h2 (fun y => ⟨mk 35 [(0, .d ((eL 7 eApiColumn) p0)), (1, .d ((eL 3 eApiValue) p1)), (5, .d (eI y))], []⟩) (wq rfl) ?_))))
        intro n83
        rintro y71 w2_77 h3 hv3
        refine sq (sr (s1 (mv rfl) (s1 (mv rfl) (s1 (len rfl rfl rfl (len_lst un28)) (s1 (bi rfl rfl q_i64_lss) (sn (cB h3 rfl (fun h3 => ?_) (fun h3 => ?_))))))))
        · obtain ⟨v79, hv79, h3⟩ := ob h3; obtain ⟨v80, hv80, h3⟩ := ob h3; obtain ⟨r81, hq82, h3⟩ := ob h3
          refine sk (sq (SC.blk (sd (by kernel_rfl) (t1 ([], false) (mv rfl) rfl (t1 ([], false) (mv rfl) rfl (t1 ([], false) (ial rfl rfl un22 ts77 (getI_some hv79).1 (map_get (getI_some hv79).2) rfl) rfl (t1 ([], false) (lod (v := .d (eApiColumn v79)) rfl (ld_rop ts77 ta77 rfl)) rfl (t1 ([], false) (mv rfl) rfl (t1 ([], false) (mv rfl) rfl ?_)))))))))
          refine t1 ([], false) (ial rfl rfl un28 ts68 (getI_some hv80).1 (map_get (getI_some hv80).2) rfl) rfl (t1 ([], false) (lod (v := .d (eApiValue v80)) rfl (ld_rop ts68 ta68 rfl)) rfl (tc0 (ref06_Fits_ok v79 v80 _ hq82) wf rfl rfl rfl cb62 rfl (fun _ => rfl) (fun _ => rfl) (t1 ([], false) (asg rfl) rfl (tn (by decide +kernel) (sr (s1 (mv rfl) (s1 (bi rfl rfl q_i64_neq) (sn (cB h3 rfl (fun h3 => ?_) (fun h3 => ?_))))))))))
          · have q := si h3; subst q; have q : _ = _ := hv3; subst q; have q := si h1; subst q; have q := si h0; subst q
            exact sr (s1 (mv rfl) (s1 (asg rfl) (sn (SC.ret (finR (Wk.refl _) (lresT rfl lresN) rfl)))))
          · refine SC.skip ?_
            change SC _ _ _ _ _
            have q := si h3; subst q
            exact SC.region (s1 (mv rfl) (s1 (bi rfl rfl q_i64_add) (s1 (asg rfl) (SO.nil (lf (wq rfl))))))
        · have q := si h3; subst q; have q : _ = _ := hv3; subst q; have q := si h1; subst q
          exact SC.exit (lf (wq rfl))
      · intro _ h0
        have q := si h0; subst q
        exact sr (s1 (asg rfl) (sn (SC.ret (finR (Wk.refl _) (lresT rfl lresN) rfl))))

/-- (*granary/granaryref01.Out).Num -/
noncomputable def ref01_Out_Num (p0 : UInt64) (p1 : Int) : Option ((List UInt8)) :=
  Option.bind (α := (List UInt8))
    (loop (Y := Int × (List UInt8)) (W := (List UInt8)) (fun (y17, y18) =>
      bif (decide (y17 ≥ (0 : Int))) then
        bif decide (0 ≤ (w64 ((8 : Int) * y17))) then
        bif decide ((y18.length + [((shr64 p0 ((w64 ((8 : Int) * y17)).toNat)).toUInt8)].length) * 1 ≤ room) then
        some (Sum.inl ((w64 (y17 - (1 : Int))), (y18 ++ [((shr64 p0 ((w64 ((8 : Int) * y17)).toNat)).toUInt8)])))
        else none
        else none
      else
        some (Sum.inr y18)) ((w64 (p1 - (1 : Int))), ([] : List UInt8)))
    (fun e => some e)
theorem ref01_Out_Num_ok (p0 : UInt64) (p1 : Int) (r : (List UInt8)) (h0 : ref01_Out_Num p0 p1 = some r) : CallAt Tryz.prog 57 [.ref 0 0 0, .d (eU64 p0), .d (eI p1)] [.box (.d (.agg [.nils]))] (.tuple []) [.box (.agg [.slc 1 1 0 r.length none]), .row 1 (List.map eU8 r) true] := by
  unfold ref01_Out_Num at h0
  refine fn0 [0, 1, 2] Tryz.func57 rfl rfl rfl rfl rfl ?_
  obtain ⟨u1_24, h1, h0⟩ := ob h0
  refine sr (s1 (mv rfl) (s1 (bi rfl rfl q_i64_sub) (s1 (asg rfl) (sn (SC.blk (SC.loopB h1 (fun y => ⟨mk 27 [(0, .ref 0 0 0), (1, .d (eU64 p0)), (6, .d (eI y.1))], [.box (.agg [.slc 1 1 0 y.2.length none]), .row 1 (List.map eU8 y.2) true]⟩) (Wk.trans (Wk.pushE (σ' := [.box (.d (.agg [.nils])), .row 1 (List.map eU8 ([] : List UInt8)) true]) (.row 1 [] true) (fun _ hh => by cases hh) rfl) (Wk.trans (Wk.boxE (id := 0) (y := .agg [.slc 1 1 0 (([] : List UInt8).length) none]) (σ' := [.box (.agg [.slc 1 1 0 (([] : List UInt8).length) none]), .row 1 (List.map eU8 ([] : List UInt8)) true]) rfl (AWs.cons (AW.slcn _ _ _) AWs.nil) rfl) (wq rfl))) ?_))))))
  intro n27
  rintro ⟨y17, y18⟩ w1_23 h2 hv2
  refine sq (sr (s1 (mv rfl) (s1 (bi rfl rfl q_i64_geq) (sn (cB h2 rfl (fun h2 => ?_) (fun h2 => ?_))))))
  · obtain ⟨hg25, h2⟩ := gd h2; obtain ⟨hg26, h2⟩ := gd h2
    refine sk (sq (SC.blk (SC.draws (by kernel_rfl) (t1 ([], false) (mv rfl) rfl (t1 ([], false) (mv rfl) rfl (t1 ([], false) (nkr rfl) rfl (t1 ([], false) (far (k := 0) rfl fo127_0 ts125 rfl) rfl (t1 ([0], false) (lod rfl (ld_box ts125 ta125 rfl rfl)) rfl (t1 ([], false) (mv rfl) rfl ?_)))))))))
    refine t1 ([], false) (mv rfl) rfl (t1 ([], false) (bi rfl rfl q_i64_mul) rfl (t1 ([], false) (bi (v := .d (eU64 (shr64 p0 ((w64 ((8 : Int) * y17)).toNat)))) rfl rfl (fun X Y => b_u64_shr _ X Y p0 _ hg25)) rfl (t1 ([], false) (cvo rfl (cv_u64_u8 un54 un5 (shr64 p0 ((w64 ((8 : Int) * y17)).toNat)))) rfl (t1 ([2], true) (bsn (k := 2) (ds := List.map eU8 [((shr64 p0 ((w64 ((8 : Int) * y17)).toNat)).toUInt8)]) (off := 0) (l' := [((shr64 p0 ((w64 ((8 : Int) * y17)).toNat)).toUInt8)].length) rfl un125 ei5 rfl rfl (by rfl) rfl rfl rfl) rfl (t1 ([1, 2, 3], true) (app rfl rfl rfl rfl bc125 (aF (f := eU8) (xs := y18) (k := 3) rfl un125 ei5 rfl (el_full (xs := [((shr64 p0 ((w64 ((8 : Int) * y17)).toNat)).toUInt8)]) rfl) hg26 rfl)) rfl (t1 ([], false) (nkr rfl) rfl (t1 ([], false) (far (k := 0) rfl fo127_0 ts125 rfl) rfl (t0 ([0, 3], true) (sto rfl rfl (sB (d' := .agg [.slc 3 1 0 ((y18 ++ [((shr64 p0 ((w64 ((8 : Int) * y17)).toNat)).toUInt8)]).length) none]) ts125 rfl rfl rfl rfl rfl rfl rfl)) rfl (ST.nil (And.intro (by decide +kernel) ?_))))))))))
    change SC _ _ _ _ _
    have q := si h2; subst q
    exact SC.region (s1 (mv rfl) (s1 (bi rfl rfl q_i64_sub) (s1 (asg rfl) (SO.nil (lf (wc [0, 3] [0, 0] (by kernel_rfl) rfl (by kernel_rfl)))))))
  · have q := si h2; subst q; have q : _ = _ := hv2; subst q; have q := si h0; subst q
    exact SC.exit (finN (Wk.refl _) lresN rfl)

/-- (*granary/granaryref01.Out).Num -/
noncomputable def ref01_Out_Num_1 (p0 : UInt64) (p1 : Int) (p2 : List UInt8) : Option ((List UInt8)) :=
  Option.bind (α := (List UInt8))
    (loop (Y := Int × (List UInt8)) (W := (List UInt8)) (fun (y17, y18) =>
      bif (decide (y17 ≥ (0 : Int))) then
        bif decide (0 ≤ (w64 ((8 : Int) * y17))) then
        bif decide ((y18.length + [((shr64 p0 ((w64 ((8 : Int) * y17)).toNat)).toUInt8)].length) * 1 ≤ room) then
        some (Sum.inl ((w64 (y17 - (1 : Int))), (y18 ++ [((shr64 p0 ((w64 ((8 : Int) * y17)).toNat)).toUInt8)])))
        else none
        else none
      else
        some (Sum.inr y18)) ((w64 (p1 - (1 : Int))), p2))
    (fun e => some e)
theorem ref01_Out_Num_1_ok (p0 : UInt64) (p1 : Int) (p2 : List UInt8) (r : (List UInt8)) (h0 : ref01_Out_Num_1 p0 p1 p2 = some r) : CallAt Tryz.prog 57 [.ref 0 0 0, .d (eU64 p0), .d (eI p1)] [.box (.agg [.slc 1 1 0 p2.length none]), .row 1 (List.map eU8 p2) true] (.tuple []) [.box (.agg [.slc 2 1 0 r.length none]), .dead, .row 1 (List.map eU8 r) true] := by
  unfold ref01_Out_Num_1 at h0
  refine fn0 [0, 1, 2] Tryz.func57 rfl rfl rfl rfl rfl ?_
  obtain ⟨u1_24, h1, h0⟩ := ob h0
  refine sr (s1 (mv rfl) (s1 (bi rfl rfl q_i64_sub) (s1 (asg rfl) (sn (SC.blk (SC.loopB h1 (fun y => ⟨mk 27 [(0, .ref 0 0 0), (1, .d (eU64 p0)), (6, .d (eI y.1))], [.box (.agg [.slc 2 1 0 y.2.length none]), .dead, .row 1 (List.map eU8 y.2) true]⟩) (Wk.trans (wq (e' := [(0, .ref 0 0 0), (1, .d (eU64 p0)), (6, .d (eI (w64 (p1 - (1 : Int)))))]) rfl) (Wk.trans (Wk.move (e' := [(0, .ref 0 0 0), (1, .d (eU64 p0)), (6, .d (eI (w64 (p1 - (1 : Int)))))]) (os := [.box (.agg [.slc 2 1 0 p2.length none]), .row 1 (List.map eU8 p2) true]) (o := .row 1 (List.map eU8 p2) true) (σ' := [.box (.agg [.slc 2 1 0 p2.length none]), .dead, .row 1 (List.map eU8 p2) true]) 1 (Nat.le_of_ble_eq_true rfl) rfl rfl rfl rfl) (wq rfl))) ?_))))))
  intro n27
  rintro ⟨y17, y18⟩ w1_23 h2 hv2
  refine sq (sr (s1 (mv rfl) (s1 (bi rfl rfl q_i64_geq) (sn (cB h2 rfl (fun h2 => ?_) (fun h2 => ?_))))))
  · obtain ⟨hg25, h2⟩ := gd h2; obtain ⟨hg26, h2⟩ := gd h2
    refine sk (sq (SC.blk (SC.draws (by kernel_rfl) (t1 ([], false) (mv rfl) rfl (t1 ([], false) (mv rfl) rfl (t1 ([], false) (nkr rfl) rfl (t1 ([], false) (far (k := 0) rfl fo127_0 ts125 rfl) rfl (t1 ([0], false) (lod rfl (ld_box ts125 ta125 rfl rfl)) rfl (t1 ([], false) (mv rfl) rfl ?_)))))))))
    refine t1 ([], false) (mv rfl) rfl (t1 ([], false) (bi rfl rfl q_i64_mul) rfl (t1 ([], false) (bi (v := .d (eU64 (shr64 p0 ((w64 ((8 : Int) * y17)).toNat)))) rfl rfl (fun X Y => b_u64_shr _ X Y p0 _ hg25)) rfl (t1 ([], false) (cvo rfl (cv_u64_u8 un54 un5 (shr64 p0 ((w64 ((8 : Int) * y17)).toNat)))) rfl (t1 ([3], true) (bsn (k := 3) (ds := List.map eU8 [((shr64 p0 ((w64 ((8 : Int) * y17)).toNat)).toUInt8)]) (off := 0) (l' := [((shr64 p0 ((w64 ((8 : Int) * y17)).toNat)).toUInt8)].length) rfl un125 ei5 rfl rfl (by rfl) rfl rfl rfl) rfl (t1 ([2, 3, 4], true) (app rfl rfl rfl rfl bc125 (aF (f := eU8) (xs := y18) (k := 4) rfl un125 ei5 rfl (el_full (xs := [((shr64 p0 ((w64 ((8 : Int) * y17)).toNat)).toUInt8)]) rfl) hg26 rfl)) rfl (t1 ([], false) (nkr rfl) rfl (t1 ([], false) (far (k := 0) rfl fo127_0 ts125 rfl) rfl (t0 ([0, 4], true) (sto rfl rfl (sB (d' := .agg [.slc 4 1 0 ((y18 ++ [((shr64 p0 ((w64 ((8 : Int) * y17)).toNat)).toUInt8)]).length) none]) ts125 rfl rfl rfl rfl rfl rfl rfl)) rfl (ST.nil (And.intro (by decide +kernel) ?_))))))))))
    change SC _ _ _ _ _
    have q := si h2; subst q
    exact SC.region (s1 (mv rfl) (s1 (bi rfl rfl q_i64_sub) (s1 (asg rfl) (SO.nil (lf (Wk.trans (wq (e' := [(0, .ref 0 0 0), (1, .d (eU64 p0)), (6, .d (eI (w64 (y17 - (1 : Int)))))]) rfl) (wc [0, 1, 4] [0, 1, 0] (by kernel_rfl) rfl (by kernel_rfl))))))))
  · have q := si h2; subst q; have q : _ = _ := hv2; subst q; have q := si h0; subst q
    exact SC.exit (finN (Wk.refl _) lresN rfl)

/-- granary/granaryref07.part -/
noncomputable def ref07_part_1 (p0 : ApiValue) (p1 : Bool) : Option ((List UInt8)) :=
  Option.bind (α := (List UInt8))
    (bif (p0.Kind == (0 : Int)) then
      Option.bind (ref01_Out_Num (0 : UInt64) (1 : Int)) fun r280 =>
      some r280
    else
      Option.bind (ref01_Out_Num (1 : UInt64) (1 : Int)) fun r282 =>
      some r282)
    fun y278 =>
  Option.bind (α := (List UInt8))
    (bif (p0.Kind == (1 : Int)) then
      Option.bind (ref01_Out_Num_1 (p0.N ^^^ (9223372036854775808 : UInt64)) (8 : Int) y278) fun r396 =>
      some r396
    else
      bif (p0.Kind == (2 : Int)) then
        Option.bind (ref01_Out_Num_1 p0.N (8 : Int) y278) fun r398 =>
        some r398
      else
        bif (p0.Kind == (3 : Int)) then
          Option.bind (ref01_Out_Num_1 p0.N (1 : Int) y278) fun r400 =>
          some r400
        else
          Option.bind (α := Bool)
            (bif (p0.Kind == (4 : Int)) then
              some (p0.Kind == (4 : Int))
            else
              some (p0.Kind == (5 : Int)))
            fun y402 =>
          bif y402 then
            Option.bind (α := (List UInt8))
              (Option.bind (α := (List UInt8))
                (loop (Y := Int × (List UInt8)) (W := (List UInt8)) (fun (y469, y470) =>
                  bif (decide (y469 < (p0.S.length : Int))) then
                    Option.bind (α := (List UInt8))
                      (Option.bind (getI p0.S y469) fun v497 =>
                      Option.bind (ref01_Out_Num_1 (v497.toUInt64) (1 : Int) y470) fun r498 =>
                      Option.bind (getI p0.S y469) fun v500 =>
                      bif (v500 == (0 : UInt8)) then
                        Option.bind (ref01_Out_Num_1 (255 : UInt64) (1 : Int) r498) fun r501 =>
                        some r501
                      else
                        some r498)
                      fun y495 =>
                    some (Sum.inl ((w64 (y469 + (1 : Int))), y495))
                  else
                    some (Sum.inr y470)) ((0 : Int), y278))
                (fun e => some e))
              fun y453 =>
            Option.bind (ref01_Out_Num_1 (0 : UInt64) (2 : Int) y453) fun r504 =>
            some r504
          else
            some y278)
    fun y394 =>
  Option.bind (α := (List UInt8))
    (Option.bind (α := (List UInt8))
      (loop (Y := Int × (List UInt8)) (W := (List UInt8)) (fun (y531, y532) =>
        Option.bind (α := Bool)
          (bif (decide (y531 < (y532.length : Int))) then
            some p1
          else
            some false)
          fun y541 =>
        bif y541 then
          Option.bind (getI y532 y531) fun v543 =>
          Option.bind (getI y532 y531) fun v544 =>
          some (Sum.inl ((w64 (y531 + (1 : Int))), (List.set y532 y531.toNat ((255 : UInt8) - v543))))
        else
          some (Sum.inr y532)) ((0 : Int), y394))
      (fun e => some e))
    fun y525 =>
  some y525
theorem ref07_part_1_ok (p0 : ApiValue) (p1 : Bool) (r : (List UInt8)) (h0 : ref07_part_1 p0 p1 = some r) : CallAt Tryz.prog 123 [.d (eApiValue p0), .d (eB p1)] [] (.d ((eL 1 eU8) r)) [] := by
  unfold ref07_part_1 at h0
  refine fn0 [0, 1] Tryz.func123 rfl rfl rfl rfl rfl ?_
  refine sr (s1 (bxo (k := 0) rfl rfl rfl) (s1 (asg (v := .d .nils) rfl) (sn (sr (s1 (bld rfl (bd127_ )) (s1 (bxo (k := 1) rfl rfl rfl) (s1 (asg rfl) (sn (SC.seqP h0 (fun y => ⟨mk 94 [(1, .d (eB p1)), (2, .ref 0 0 0), (5, .ref 1 0 0)], [.box (.d (eApiValue p0)), .box (.agg [.slc 2 1 0 y.length none]), .row 1 (List.map eU8 y) true]⟩) ?_ ?_)))))))))
  · intro u1_279 h1
    refine sr (s1 (far (k := 0) rfl fo68_0 ts3 rfl) (s1 (lod rfl (ld_box ts3 ta3 rfl rfl)) (s1 (bi rfl rfl q_i64_eql) (sn (cB h1 rfl (fun h1 => ?_) (fun h1 => ?_))))))
    · obtain ⟨r280, hq281, h1⟩ := ob h1; have q := si h1; subst q
      exact SC.region (s1 (mv rfl) (ca (σ' := [.box (.d (eApiValue p0)), .box (.agg [.slc 2 1 0 r280.length none]), .row 1 (List.map eU8 r280) true]) [1] (ref01_Out_Num_ok (0 : UInt64) (1 : Int) _ hq281) wf rfl rfl rfl cb57 rfl rfl rfl rfl rfl rfl (SO.nil ((wq rfl)))))
    · obtain ⟨r282, hq283, h1⟩ := ob h1; have q := si h1; subst q
      exact SC.region (s1 (mv rfl) (ca (σ' := [.box (.d (eApiValue p0)), .box (.agg [.slc 2 1 0 r282.length none]), .row 1 (List.map eU8 r282) true]) [1] (ref01_Out_Num_ok (1 : UInt64) (1 : Int) _ hq283) wf rfl rfl rfl cb57 rfl rfl rfl rfl rfl rfl (SO.nil ((wq rfl)))))
  · rintro y278 h0
    refine SC.seqP h0 (fun y => ⟨mk 94 [(1, .d (eB p1)), (5, .ref 0 0 0)], [.box (.agg [.slc 1 1 0 y.length none]), .row 1 (List.map eU8 y) true]⟩) ?_ ?_
    · intro u1_395 h1
      refine sr (s1 (far (k := 0) rfl fo68_0 ts3 rfl) (s1 (lod rfl (ld_box ts3 ta3 rfl rfl)) (sn (SC.blk (sr (s1 (bi rfl rfl q_i64_eql) (s1 (asg rfl) (sn (cB h1 rfl (fun h1 => ?_) (fun h1 => ?_))))))))))
      · obtain ⟨r396, hq397, h1⟩ := ob h1; have q := si h1; subst q
        exact SC.region (s1 (mv rfl) (s1 (far (k := 1) rfl fo68_1 ts54 rfl) (s1 (lod rfl (ld_box ts54 ta54 rfl rfl)) (s1 (bi rfl rfl (q_u64_xor (b := (9223372036854775808 : UInt64)))) (ca (σ' := [.box (.d (eApiValue p0)), .box (.agg [.slc 3 1 0 r396.length none]), .dead, .row 1 (List.map eU8 r396) true]) [1, 2] (ref01_Out_Num_1_ok (p0.N ^^^ (9223372036854775808 : UInt64)) (8 : Int) y278 _ hq397) wf rfl rfl rfl cb57 rfl rfl rfl rfl rfl rfl (SO.nil ((wc [1, 3] [1] (by kernel_rfl) rfl (by kernel_rfl)))))))))
      · refine sr (s1 (bi rfl rfl q_i64_eql) (s1 (asg rfl) (sn (cB h1 rfl (fun h1 => ?_) (fun h1 => ?_)))))
        · obtain ⟨r398, hq399, h1⟩ := ob h1; have q := si h1; subst q
          exact SC.region (s1 (mv rfl) (s1 (far (k := 1) rfl fo68_1 ts54 rfl) (s1 (lod rfl (ld_box ts54 ta54 rfl rfl)) (ca (σ' := [.box (.d (eApiValue p0)), .box (.agg [.slc 3 1 0 r398.length none]), .dead, .row 1 (List.map eU8 r398) true]) [1, 2] (ref01_Out_Num_1_ok p0.N (8 : Int) y278 _ hq399) wf rfl rfl rfl cb57 rfl rfl rfl rfl rfl rfl (SO.nil ((wc [1, 3] [1] (by kernel_rfl) rfl (by kernel_rfl))))))))
        · refine sr (s1 (bi rfl rfl q_i64_eql) (s1 (asg rfl) (sn (cB h1 rfl (fun h1 => ?_) (fun h1 => ?_)))))
          · obtain ⟨r400, hq401, h1⟩ := ob h1; have q := si h1; subst q
            exact SC.region (s1 (mv rfl) (s1 (far (k := 1) rfl fo68_1 ts54 rfl) (s1 (lod rfl (ld_box ts54 ta54 rfl rfl)) (ca (σ' := [.box (.d (eApiValue p0)), .box (.agg [.slc 3 1 0 r400.length none]), .dead, .row 1 (List.map eU8 r400) true]) [1, 2] (ref01_Out_Num_1_ok p0.N (1 : Int) y278 _ hq401) wf rfl rfl rfl cb57 rfl rfl rfl rfl rfl rfl (SO.nil ((wc [1, 3] [1] (by kernel_rfl) rfl (by kernel_rfl))))))))
          · refine SC.seqP h1 (fun y => ⟨mk 94 [(1, .d (eB p1)), (2, .ref 0 0 0), (5, .ref 1 0 0), (38, .d (eB y))], [.box (.d (eApiValue p0)), .box (.agg [.slc 2 1 0 y278.length none]), .row 1 (List.map eU8 y278) true]⟩) ?_ ?_
            · intro u2_403 h2
              refine sr (s1 (bi rfl rfl q_i64_eql) (s1 (asg rfl) (sn (cB h2 rfl (fun h2 => ?_) (fun h2 => ?_)))))
              · have q := si h2; subst q
                exact SC.skip ((wq rfl))
              · have q := si h2; subst q
                exact SC.region (s1 (bi rfl rfl q_i64_eql) (s1 (asg rfl) (SO.nil ((wq rfl)))))
            · rintro y402 h1
              refine cB h1 rfl (fun h1 => ?_) (fun h1 => ?_)
              · refine SC.seqP h1 (fun y => ⟨mk 94 [(1, .d (eB p1)), (5, .ref 0 0 0)], [.box (.agg [.slc 1 1 0 y.length none]), .row 1 (List.map eU8 y) true]⟩) ?_ ?_
                · intro u2_454 h2
                  obtain ⟨u3_488, h3, h2⟩ := ob h2
                  refine sr (s1 (asg rfl) (sn (SC.blk (SC.loopB h3 (fun y => ⟨mk 94 [(1, .d (eB p1)), (2, .ref 0 0 0), (5, .ref 1 0 0), (6, .d (eI y.1))], [.box (.d (eApiValue p0)), .box (.agg [.slc 2 1 0 y.2.length none]), .row 1 (List.map eU8 y.2) true]⟩) (wq rfl) ?_))))
                  intro n503
                  rintro ⟨y469, y470⟩ w3_487 h4 hv4
                  refine sq (sr (s1 (mv rfl) (s1 (far (k := 2) rfl fo68_2 ts9 rfl) (s1 (lod rfl (ld_box ts9 ta9 rfl rfl)) (s1 (len rfl rfl rfl (len_str un9)) (s1 (bi rfl rfl q_i64_lss) (sn (cB h4 rfl (fun h4 => ?_) (fun h4 => ?_)))))))))
                  · refine sk (SC.seqP h4 (fun y => ⟨mk 94 [(1, .d (eB p1)), (2, .ref 0 0 0), (5, .ref 1 0 0), (6, .d (eI y469))], [.box (.d (eApiValue p0)), .box (.agg [.slc 2 1 0 y.length none]), .row 1 (List.map eU8 y) true]⟩) ?_ ?_)
                    · intro u5_496 h5
                      obtain ⟨v497, hv497, h5⟩ := ob h5; obtain ⟨r498, hq499, h5⟩ := ob h5; obtain ⟨v500, hv500, h5⟩ := ob h5
                      refine SC.blk (sr (s1 (mv rfl) (s1 (far (k := 2) rfl fo68_2 ts9 rfl) (s1 (lod rfl (ld_box ts9 ta9 rfl rfl)) (s1 (mv rfl) (s1 (ixs rfl rfl rfl rfl (ix_str un9 (getI_some hv497).1 (getI_some hv497).2)) (s1 (cvo rfl (cv_u8_u64 un5 un54 v497)) (ca (σ' := [.box (.d (eApiValue p0)), .box (.agg [.slc 3 1 0 r498.length none]), .dead, .row 1 (List.map eU8 r498) true]) [1, 2] (ref01_Out_Num_1_ok (v497.toUInt64) (1 : Int) y470 _ hq499) wf rfl rfl rfl cb57 rfl rfl rfl rfl rfl rfl (sn ?_)))))))))
                      refine sr (s1 (far (k := 2) rfl fo68_2 ts9 rfl) (s1 (lod rfl (ld_box ts9 ta9 rfl rfl)) (s1 (mv rfl) (s1 (ixs rfl rfl rfl rfl (ix_str un9 (getI_some hv500).1 (getI_some hv500).2)) (s1 (bi rfl rfl (q_u8_eql (b := (0 : UInt8)))) (sn (cB h5 rfl (fun h5 => ?_) (fun h5 => ?_))))))))
                      · obtain ⟨r501, hq502, h5⟩ := ob h5; have q := si h5; subst q
                        exact SC.region (s1 (mv rfl) (ca (σ' := [.box (.d (eApiValue p0)), .box (.agg [.slc 4 1 0 r501.length none]), .dead, .dead, .row 1 (List.map eU8 r501) true]) [1, 3] (ref01_Out_Num_1_ok (255 : UInt64) (1 : Int) r498 _ hq502) wf rfl rfl rfl cb57 rfl rfl rfl rfl rfl rfl (SO.nil ((wc [0, 1, 4] [0, 1] (by kernel_rfl) rfl (by kernel_rfl))))))
                      · have q := si h5; subst q
                        exact SC.skip ((wc [0, 1, 3] [0, 1] (by kernel_rfl) rfl (by kernel_rfl)))
                    · rintro y495 h4
                      have q := si h4; subst q
                      exact SC.region (s1 (mv rfl) (s1 (bi rfl rfl q_i64_add) (s1 (asg rfl) (SO.nil (lf (wq rfl))))))
                  · have q := si h4; subst q; have q : _ = _ := hv4; subst q; have q := si h2; subst q
                    exact SC.exit ((wc [1, 2] [1] (by kernel_rfl) rfl (by kernel_rfl)))
                · rintro y453 h1
                  obtain ⟨r504, hq505, h1⟩ := ob h1; have q := si h1; subst q
                  exact SC.region (s1 (mv rfl) (ca (σ' := [.box (.agg [.slc 2 1 0 r504.length none]), .dead, .row 1 (List.map eU8 r504) true]) [0, 1] (ref01_Out_Num_1_ok (0 : UInt64) (2 : Int) y453 _ hq505) wf rfl rfl rfl cb57 rfl rfl rfl rfl rfl rfl (SO.nil ((wc [0, 2] [0] (by kernel_rfl) rfl (by kernel_rfl))))))
              · have q := si h1; subst q
                exact SC.skip ((wc [1, 2] [1] (by kernel_rfl) rfl (by kernel_rfl)))
    · rintro y394 h0
      refine SC.seqP h0 (fun y => ⟨mk 94 [(5, .ref 0 0 0)], [.box (.agg [.slc 1 1 0 y.length none]), .row 1 (List.map eU8 y) true]⟩) ?_ ?_
      · intro u1_526 h1
        obtain ⟨u2_540, h2, h1⟩ := ob h1
        refine sr (s1 (asg rfl) (sn (SC.blk (SC.loopB h2 (fun y => ⟨mk 94 [(1, .d (eB p1)), (5, .ref 0 0 0), (7, .d (eI y.1))], [.box (.agg [.slc 1 1 0 y.2.length none]), .row 1 (List.map eU8 y.2) true]⟩) (wq rfl) ?_))))
        intro n545
        rintro ⟨y531, y532⟩ w2_539 h3 hv3
        refine sq (SC.seqP h3 (fun y => ⟨mk 94 [(1, .d (eB p1)), (5, .ref 0 0 0), (7, .d (eI y531)), (73, .d (eB y))], [.box (.agg [.slc 1 1 0 y532.length none]), .row 1 (List.map eU8 y532) true]⟩) ?_ ?_)
        · intro u4_542 h4
          refine SC.region (s1 (mv rfl) (s1 (mv rfl) (s1 (nkr rfl) (s1 (far (k := 0) rfl fo127_0 ts125 rfl) (s1 (lod rfl (ld_box ts125 ta125 rfl rfl)) (s1 (len rfl rfl rfl (len_slc un125)) (s1 (bi rfl rfl q_i64_lss) (s1 (mv rfl) (sp h4 (fun h4 => ?_) (fun h4 => ?_))))))))))
          · have q := si h4; subst q
            exact g1 (wb rfl rfl rfl) (mv rfl) (s1 (pkt rfl rfl) (SO.nil ((wq rfl))))
          · have q := si h4; subst q
            exact k1 (wb rfl rfl rfl) (s1 (pkf rfl rfl) (SO.nil ((wq rfl))))
        · rintro y541 h3
          refine cB h3 rfl (fun h3 => ?_) (fun h3 => ?_)
          · obtain ⟨v543, hv543, h3⟩ := ob h3; obtain ⟨v544, hv544, h3⟩ := ob h3
            refine sk (sq (SC.blk (SC.draws (by kernel_rfl) (t1 ([], false) (mv rfl) rfl (t1 ([], false) (nkr rfl) rfl (t1 ([], false) (far (k := 0) rfl fo127_0 ts125 rfl) rfl (t1 ([0], false) (lod rfl (ld_box ts125 ta125 rfl rfl)) rfl (t1 ([], false) (mv rfl) rfl (t1 ([], false) (mv rfl) rfl ?_)))))))))
            refine t1 ([], false) (nkr rfl) rfl (t1 ([], false) (far (k := 0) rfl fo127_0 ts125 rfl) rfl (t1 ([0], false) (lod rfl (ld_box ts125 ta125 rfl rfl)) rfl (t1 ([], false) (mv rfl) rfl (t1 ([], false) (iaz rfl rfl un125 ts5 (getI_lt hv543)) rfl (t1 ([1], false) (lod rfl (ld_row ts5 ta5 rfl (map_get (getI_some hv543).2) rfl)) rfl (t1 ([], false) (bi rfl rfl (q_u8_sub (a := (255 : UInt8)))) rfl (t1 ([], false) (iaz rfl rfl un125 ts5 (getI_lt hv544)) rfl (t0 ([1], true) (sto (b := .d (eU8 ((255 : UInt8) - v543))) rfl rfl (sR (f := eU8) (v := ((255 : UInt8) - v543)) ts5 rfl rfl rfl rfl (getI_some hv544).2 rfl rfl)) rfl (ST.nil (And.intro (by decide +kernel) ?_))))))))))
            change SC _ _ _ _ _
            have q := si h3; subst q
            exact SC.region (s1 (mv rfl) (s1 (bi rfl rfl q_i64_add) (s1 (asg rfl) (SO.nil (lf (Wk.trans (wq (e' := [(1, .d (eB p1)), (5, .ref 0 0 0), (7, .d (eI (w64 (y531 + (1 : Int)))))]) rfl) (Wk.boxE (id := 0) (y := .agg [.slc 1 1 0 ((List.set y532 y531.toNat ((255 : UInt8) - v543)).length) none]) (σ' := [.box (.agg [.slc 1 1 0 ((List.set y532 y531.toNat ((255 : UInt8) - v543)).length) none]), .row 1 (List.map eU8 (List.set y532 y531.toNat ((255 : UInt8) - v543))) true]) rfl (AWs.cons (AW.slc rfl (by simp)) AWs.nil) rfl)))))))
          · have q := si h3; subst q; have q : _ = _ := hv3; subst q; have q := si h1; subst q
            exact SC.exit ((wq rfl))
      · rintro y525 h0
        have q := si h0; subst q
        exact sr (s1 (mv rfl) (s1 (nkr rfl) (s1 (far (k := 0) rfl fo127_0 ts125 rfl) (s1 (lod rfl (ld_box ts125 ta125 rfl rfl)) (s1 (asg rfl) (sn (SC.ret (finR (Wk.trans (Wk.frz (i := 4) (x := .slc 1 1 0 y525.length none) rfl rfl (fF rfl rfl rfl)) (wc (e' := [(4, .d ((eL 1 eU8) y525))]) [] [] (by kernel_rfl) rfl (by kernel_rfl))) (lresT rfl lresN) rfl))))))))

/-- granary/granaryref07.Key -/
noncomputable def ref07_Key_1 (p0 : List ApiValue) (p1 : List Bool) : Option ((List UInt8)) :=
  Option.bind (α := (List UInt8))
    (Option.bind (α := (List UInt8))
      (loop (Y := (List UInt8) × Int) (W := (List UInt8)) (fun (y77, y78) =>
        bif (decide (y78 < (p0.length : Int))) then
          Option.bind (getI p0 y78) fun v88 =>
          Option.bind (getI p1 y78) fun v89 =>
          Option.bind (ref07_part_1 v88 v89) fun r90 =>
          bif decide ((y77.length + r90.length) * 1 ≤ room) then
          some (Sum.inl ((y77 ++ r90), (w64 (y78 + (1 : Int)))))
          else none
        else
          some (Sum.inr y77)) (([] : List UInt8), (0 : Int)))
      (fun e => some e))
    fun y70 =>
  some y70
theorem ref07_Key_1_ok (p0 : List ApiValue) (p1 : List Bool) (r : (List UInt8)) (h0 : ref07_Key_1 p0 p1 = some r) : CallAt Tryz.prog 105 [.d ((eL 3 eApiValue) p0), .d ((eL 1 eB) p1)] [] (.d (eS r)) [] := by
  unfold ref07_Key_1 at h0
  refine fn0 [0, 1] Tryz.func105 rfl rfl rfl rfl rfl ?_
  refine sr (s1 (asg (v := .d (eS ([] : List UInt8))) rfl) (sn (sr (s1 (asg (v := .d .nils) rfl) (sn (SC.seqP h0 (fun y => ⟨mk 26 [(5, .slc 0 1 0 y.length none)], [.row 1 (List.map eU8 y) true]⟩) ?_ ?_))))))
  · intro u1_71 h1
    obtain ⟨u2_87, h2, h1⟩ := ob h1
    refine sr (s1 (asg rfl) (sn (SC.blk (SC.loopB h2 (fun y => ⟨mk 26 [(0, .d ((eL 3 eApiValue) p0)), (1, .d ((eL 1 eB) p1)), (5, .slc 0 1 0 y.1.length none), (6, .d (eI y.2))], [.row 1 (List.map eU8 y.1) true]⟩) (Wk.trans (Wk.pushE (σ' := [.row 1 (List.map eU8 ([] : List UInt8)) true]) (.row 1 [] true) (fun _ hh => by cases hh) rfl) (Wk.trans (Wk.env (e' := [(0, .d ((eL 3 eApiValue) p0)), (1, .d ((eL 1 eB) p1)), (5, .slc 0 1 0 (([] : List UInt8).length) none), (6, .d (eI (0 : Int)))]) (EW.cons (AW.refl _) (EW.cons (AW.refl _) (EW.cons (AW.slcn _ _ _) (EW.cons (AW.refl _) EW.nil))))) (wq rfl))) ?_))))
    intro n93
    rintro ⟨y77, y78⟩ w2_86 h3 hv3
    refine sq (sr (s1 (mv rfl) (s1 (mv rfl) (s1 (len rfl rfl rfl (len_lst un28)) (s1 (bi rfl rfl q_i64_lss) (sn (cB h3 rfl (fun h3 => ?_) (fun h3 => ?_))))))))
    · obtain ⟨v88, hv88, h3⟩ := ob h3; obtain ⟨v89, hv89, h3⟩ := ob h3; obtain ⟨r90, hq91, h3⟩ := ob h3; obtain ⟨hg92, h3⟩ := gd h3
      refine sk (sq (SC.blk (SC.draws (by kernel_rfl) (t1 ([], false) (mv rfl) rfl (t1 ([], false) (mv rfl) rfl (t1 ([], false) (mv rfl) rfl (t1 ([], false) (ial rfl rfl un28 ts68 (getI_some hv88).1 (map_get (getI_some hv88).2) rfl) rfl (t1 ([], false) (lod (v := .d (eApiValue v88)) rfl (ld_rop ts68 ta68 rfl)) rfl (t1 ([], false) (mv rfl) rfl ?_)))))))))
      refine t1 ([], false) (mv rfl) rfl (t1 ([], false) (ial rfl rfl un177 ts4 (getI_some hv89).1 (map_get (getI_some hv89).2) rfl) rfl (t1 ([], false) (lod rfl (ld_rop ts4 ta4 rfl)) rfl (tc0 (ref07_part_1_ok v88 v89 _ hq91) wf rfl rfl rfl cb123 rfl (fun _ => rfl) (fun _ => rfl) (t1 ([0, 1], true) (app rfl rfl rfl rfl bc125 (aF (f := eU8) (xs := y77) (k := 1) rfl un125 ei5 rfl el_lst hg92 rfl)) rfl (t1 ([], false) (asg rfl) rfl (ST.nil (And.intro (by decide +kernel) ?_)))))))
      change SC _ _ _ _ _
      have q := si h3; subst q
      exact SC.region (s1 (mv rfl) (s1 (bi rfl rfl q_i64_add) (s1 (asg rfl) (SO.nil (lf (wc [1] [1] (by kernel_rfl) rfl (by kernel_rfl)))))))
    · have q := si h3; subst q; have q : _ = _ := hv3; subst q; have q := si h1; subst q
      exact SC.exit ((wq rfl))
  · rintro y70 h0
    have q := si h0; subst q
    exact sr (s1 (mv rfl) (s1 (cvo (v := .d (eS y70)) rfl (cv_bytes_str un125 un9 un5 (el_full (xs := y70) rfl) (fun _ hh => by cases hh))) (s1 (asg rfl) (sn (SC.ret (finR (wc (e' := [(4, .d (eS y70))]) [] [] (by kernel_rfl) rfl (by kernel_rfl)) (lresT rfl lresN) rfl))))))

/-- granary/granaryref17.keyed -/
noncomputable def ref17_keyed (p0 : List ApiPart) (p1 : List ApiValue) : Option ((List UInt8) × Bool) :=
  Option.bind (α := (List ApiValue) × (List Bool) × Bool)
    (Option.bind (α := (List ApiValue) × (List Bool) × Bool)
      (loop (Y := (List ApiValue) × (List Bool) × Bool × Int) (W := (List ApiValue) × (List Bool) × Bool) (fun (y96, y97, y98, y99) =>
        bif (decide (y99 < (p0.length : Int))) then
          Option.bind (getI p0 y99) fun v111 =>
          Option.bind (getI p1 v111.Col) fun v112 =>
          bif decide ((y96.length + [v112].length) * 32 ≤ room) then
          Option.bind (getI p0 y99) fun v114 =>
          bif decide ((y97.length + [v114.Down].length) * 1 ≤ room) then
          bif y98 then
            some (Sum.inl ((y96 ++ [v112]), (y97 ++ [v114.Down]), true, (w64 (y99 + (1 : Int)))))
          else
            some (Sum.inl ((y96 ++ [v112]), (y97 ++ [v114.Down]), (v112.Kind == (0 : Int)), (w64 (y99 + (1 : Int)))))
          else none
          else none
        else
          some (Sum.inr (y96, y97, y98))) (([] : List ApiValue), ([] : List Bool), false, (0 : Int)))
      (fun e => some e))
    fun (y87, y88, y89) =>
  Option.bind (ref07_Key_1 y87 y88) fun r117 =>
  some (r117, y89)
theorem ref17_keyed_ok (p0 : List ApiPart) (p1 : List ApiValue) (r : (List UInt8) × Bool) (h0 : ref17_keyed p0 p1 = some r) : CallAt Tryz.prog 73 [.d ((eL 2 eApiPart) p0), .d ((eL 3 eApiValue) p1)] [] (.tuple [.d (eS r.1), .d (eB r.2)]) [] := by
  unfold ref17_keyed at h0
  refine fn0 [0, 1] Tryz.func73 rfl rfl rfl rfl rfl ?_
  refine sr (s1 (asg (v := .d (eS ([] : List UInt8))) rfl) (s1 (asg rfl) (sn (sr (s1 (asg (v := .d .nils) rfl) (sn (sr (s1 (asg (v := .d .nils) rfl) (sn ?_)))))))))
  refine sr (s1 (asg rfl) (sn (SC.seqP h0 (fun y => ⟨mk 47 [(6, .slc 0 3 0 y.1.length none), (7, .slc 1 1 0 y.2.1.length none), (8, .d (eB y.2.2))], [.row 3 (List.map eApiValue y.1) true, .row 1 (List.map eB y.2.1) true]⟩) ?_ ?_)))
  · intro u1_90 h1
    obtain ⟨u2_110, h2, h1⟩ := ob h1
    refine sr (s1 (asg rfl) (sn (SC.blk (SC.loopB h2 (fun y => ⟨mk 47 [(0, .d ((eL 2 eApiPart) p0)), (1, .d ((eL 3 eApiValue) p1)), (6, .slc 0 3 0 y.1.length none), (7, .slc 1 1 0 y.2.1.length none), (8, .d (eB y.2.2.1)), (9, .d (eI y.2.2.2))], [.row 3 (List.map eApiValue y.1) true, .row 1 (List.map eB y.2.1) true]⟩) (Wk.trans (Wk.pushE (σ' := [.row 3 (List.map eApiValue ([] : List ApiValue)) true]) (.row 3 [] true) (fun _ hh => by cases hh) rfl) (Wk.trans (Wk.env (e' := [(0, .d ((eL 2 eApiPart) p0)), (1, .d ((eL 3 eApiValue) p1)), (6, .slc 0 3 0 (([] : List ApiValue).length) none), (7, .d .nils), (8, .d (eB false)), (9, .d (eI (0 : Int)))]) (EW.cons (AW.refl _) (EW.cons (AW.refl _) (EW.cons (AW.slcn _ _ _) (EW.cons (AW.refl _) (EW.cons (AW.refl _) (EW.cons (AW.refl _) EW.nil))))))) (Wk.trans (Wk.pushE (σ' := [.row 3 (List.map eApiValue ([] : List ApiValue)) true, .row 1 (List.map eB ([] : List Bool)) true]) (.row 1 [] true) (fun _ hh => by cases hh) rfl) (Wk.trans (Wk.env (e' := [(0, .d ((eL 2 eApiPart) p0)), (1, .d ((eL 3 eApiValue) p1)), (6, .slc 0 3 0 (([] : List ApiValue).length) none), (7, .slc 1 1 0 (([] : List Bool).length) none), (8, .d (eB false)), (9, .d (eI (0 : Int)))]) (EW.cons (AW.refl _) (EW.cons (AW.refl _) (EW.cons (AW.refl _) (EW.cons (AW.slcn _ _ _) (EW.cons (AW.refl _) (EW.cons (AW.refl _) EW.nil))))))) (wq rfl))))) ?_))))
    intro n116
    rintro ⟨y96, y97, y98, y99⟩ w2_109 h3 hv3
    refine sq (sr (s1 (mv rfl) (s1 (mv rfl) (s1 (len rfl rfl rfl (len_lst un80)) (s1 (bi rfl rfl q_i64_lss) (sn (cB h3 rfl (fun h3 => ?_) (fun h3 => ?_))))))))
    · obtain ⟨v111, hv111, h3⟩ := ob h3; obtain ⟨v112, hv112, h3⟩ := ob h3; obtain ⟨hg113, h3⟩ := gd h3; obtain ⟨v114, hv114, h3⟩ := ob h3; obtain ⟨hg115, h3⟩ := gd h3
      refine sk (sq (SC.blk (sr (s1 (mv rfl) (s1 (mv rfl) (s1 (mv rfl) (s1 (ial rfl rfl un80 ts79 (getI_some hv111).1 (map_get (getI_some hv111).2) rfl) (s1 (fap rfl fo79_0 ts3 rfl) (s1 (lod rfl (ld_rop ts3 ta3 rfl)) ?_)))))))))
      refine s1 (ial rfl rfl un28 ts68 (getI_some hv112).1 (map_get (getI_some hv112).2) rfl) (s1 (lod (v := .d (eApiValue v112)) rfl (ld_rop ts68 ta68 rfl)) (s1 (alo (k := 2) zo68 rfl) (s0 (sto rfl rfl (sB (d' := .d (eApiValue v112)) ts68 rfl rfl rfl rfl rfl rfl rfl)) (sn (sr (s1 (mv rfl) (s1 (lod (v := .d (eApiValue v112)) rfl (ld_box ts68 ta68 rfl rfl)) (s1 (bsn (k := 3) (ds := List.map eApiValue [v112]) (off := 0) (l' := [v112].length) rfl un28 ei68 rfl rfl (by rfl) rfl rfl rfl) (s1 (app rfl rfl rfl rfl bc28 (aF (f := eApiValue) (xs := y96) (k := 4) rfl un28 ei68 rfl (el_full (xs := [v112]) rfl) hg113 rfl)) ?_)))))))))
      refine s1 (asg rfl) (sn (sr (s1 (mv rfl) (s1 (mv rfl) (s1 (mv rfl) (s1 (ial rfl rfl un80 ts79 (getI_some hv114).1 (map_get (getI_some hv114).2) rfl) (s1 (fap rfl fo79_1 ts4 rfl) (s1 (lod rfl (ld_rop ts4 ta4 rfl)) (s1 (bsn (k := 5) (ds := List.map eB [v114.Down]) (off := 0) (l' := [v114.Down].length) rfl un177 ei4 rfl rfl (by rfl) rfl rfl rfl) ?_)))))))))
      refine s1 (app rfl rfl rfl rfl bc177 (aF (f := eB) (xs := y97) (k := 6) rfl un177 ei4 rfl (el_full (xs := [v114.Down]) rfl) hg115 rfl)) (s1 (asg rfl) (sn (SC.region (s1 (mv rfl) (s1 (mv rfl) (sp h3 (fun h3 => ?_) (fun h3 => ?_)))))))
      · refine k1 (wb rfl rfl rfl) (k1 (wb rfl rfl rfl) (k1 (wb rfl rfl rfl) (s1 (pkt rfl rfl) (s1 (asg rfl) (SO.nil ?_)))))
        change SC _ _ _ _ _
        have q := si h3; subst q
        exact SC.region (s1 (mv rfl) (s1 (bi rfl rfl q_i64_add) (s1 (asg rfl) (SO.nil (lf (wc [4, 6] [4, 6] (by kernel_rfl) rfl (by kernel_rfl)))))))
      · refine g1 (wb rfl rfl rfl) (far (k := 0) rfl fo68_0 ts3 rfl) (g1 (wb rfl rfl rfl) (lod rfl (ld_box ts3 ta3 rfl rfl)) (g1 (wb rfl rfl rfl) (bi rfl rfl q_i64_eql) (s1 (pkf rfl rfl) (s1 (asg rfl) (SO.nil ?_)))))
        change SC _ _ _ _ _
        have q := si h3; subst q
        exact SC.region (s1 (mv rfl) (s1 (bi rfl rfl q_i64_add) (s1 (asg rfl) (SO.nil (lf (wc [4, 6] [4, 6] (by kernel_rfl) rfl (by kernel_rfl)))))))
    · have q := si h3; subst q; have q : _ = _ := hv3; subst q; have q := si h1; subst q
      exact SC.exit ((wq rfl))
  · rintro ⟨y87, y88, y89⟩ h0
    obtain ⟨r117, hq118, h0⟩ := ob h0; have q := si h0; subst q
    exact sr (s1 (mv rfl) (s1 (mv rfl) (ca (args' := [.slc 0 3 0 y87.length none, .slc 1 1 0 y88.length none]) (σc := [.row 3 (List.map eApiValue y87) true, .row 1 (List.map eB y88) true]) (σ' := [.row 3 (List.map eApiValue y87) false, .row 1 (List.map eB y88) false]) [0, 1] (CallAt.frz (ArgF.frz (fF rfl rfl rfl) (ArgF.frz (fF rfl rfl rfl) (ArgF.nil _))) (fm [] (ref07_Key_1_ok y87 y88 _ hq118) rfl rfl rfl rfl rfl rfl)) wf rfl rfl rfl cb105 rfl rfl rfl rfl rfl rfl (s1 (mv rfl) (s1 (asg rfl) (s1 (asg rfl) (sn (SC.ret (finR (wc (e' := [(4, .d (eS r117)), (5, .d (eB y89))]) [] [] (by kernel_rfl) rfl (by kernel_rfl)) (lresT rfl (lresT rfl lresN)) rfl)))))))))

/-- granary/granaryref17.Primary -/
noncomputable def ref17_Primary (p0 : ApiTable) (p1 : List ApiValue) : Option ((List UInt8)) :=
  Option.bind (ref17_Up p0.Primary) fun r7 =>
  Option.bind (ref17_keyed r7 p1) fun (r9, r10) =>
  some r9
theorem ref17_Primary_ok (p0 : ApiTable) (p1 : List ApiValue) (r : (List UInt8)) (h0 : ref17_Primary p0 p1 = some r) : CallAt Tryz.prog 37 [.d (eApiTable p0), .d ((eL 3 eApiValue) p1)] [] (.d (eS r)) [] := by
  unfold ref17_Primary at h0
  refine fn0 [0, 1] Tryz.func37 rfl rfl rfl rfl rfl ?_
  obtain ⟨r7, hq8, h0⟩ := ob h0; obtain ⟨⟨r9, r10⟩, hq11, h0⟩ := ob h0; have q := si h0; subst q
  refine sr (s1 (bxo (k := 0) rfl rfl rfl) (s1 (asg (v := .d (eS ([] : List UInt8))) rfl) (sn (sr (s1 (far (k := 2) rfl fo26_2 ts23 rfl) (s1 (lod rfl (ld_box ts23 ta23 rfl rfl)) (c0 (ref17_Up_ok p0.Primary _ hq8) wf rfl rfl rfl cb27 rfl (fun _ => rfl) (fun _ => rfl) (s1 (mv rfl) (c0 (ref17_keyed_ok r7 p1 _ hq11) wf rfl rfl rfl cb73 rfl (fun _ => rfl) (fun _ => rfl) ?_)))))))))
  refine s1 (mv rfl) (s1 (ext rfl rfl) (s1 (ext rfl rfl) (s1 (asg rfl) (s1 (asg rfl) (sn (sr (s1 (mv rfl) (s1 (asg rfl) (sn ?_)))))))))
  exact SC.ret (finR (wc (e' := [(4, .d (eS r9))]) [] [] (by kernel_rfl) rfl (by kernel_rfl)) (lresT rfl lresN) rfl)

/-- (*granary/granaryref19.Work).own -/
noncomputable def ref19_Work_own (p0 : Int) (p1 : List UInt8) : Option Unit :=
  Option.bind (ref19_Point p1) fun _ =>
  bif decide ([(ApiLock.mk p0 (ApiSpan.mk p1 (p1 ++ ([0] : List UInt8)) false) true)].length * 56 ≤ room) then
  some ()
  else none
theorem ref19_Work_own_ok (p0 : Int) (p1 : List UInt8) (r : Unit) (h0 : ref19_Work_own p0 p1 = some r) : CallAt Tryz.prog 38 [.ref 0 0 0, .d (eI p0), .d (eS p1)] [.box (.d (.agg [.nils, .nils, .nils]))] (.tuple []) [.box (.agg [.d .nils, .slc 1 5 0 ([(ApiLock.mk p0 (ApiSpan.mk p1 (p1 ++ ([0] : List UInt8)) false) true)].length) none, .d .nils]), .row 5 (List.map eApiLock [(ApiLock.mk p0 (ApiSpan.mk p1 (p1 ++ ([0] : List UInt8)) false) true)]) true] := by
  unfold ref19_Work_own at h0
  refine fn0 [0, 1, 2] Tryz.func38 rfl rfl rfl rfl rfl ?_
  obtain ⟨_, hq3, h0⟩ := ob h0; obtain ⟨hg4, h0⟩ := gd h0; have q := si h0; subst q
  refine SC.draws (by kernel_rfl) (t1 ([], false) (mv rfl) rfl (t1 ([], false) (mv rfl) rfl (t1 ([], false) (nkr rfl) rfl (t1 ([], false) (far (k := 1) rfl fo46_1 ts37 rfl) rfl (t1 ([0], false) (lod rfl (ld_box ts37 ta37 rfl rfl)) rfl (t1 ([], false) (mv rfl) rfl (t1 ([], false) (mv rfl) rfl (ta' [] ([1], true) (ref19_Point_ok p1 _ hq3) wf rfl rfl rfl cb7 rfl rfl rfl rfl rfl rfl rfl (t1 ([], false) (bld rfl (bd137_0_1_2 p0 (ApiSpan.mk p1 (p1 ++ ([0] : List UInt8)) false) true)) rfl ?_)))))))))
  refine t1 ([2], true) (bsn (k := 2) (ds := List.map eApiLock [(ApiLock.mk p0 (ApiSpan.mk p1 (p1 ++ ([0] : List UInt8)) false) true)]) (off := 0) (l' := [(ApiLock.mk p0 (ApiSpan.mk p1 (p1 ++ ([0] : List UInt8)) false) true)].length) rfl un37 ei137 rfl rfl (by rfl) rfl rfl rfl) rfl (t1 ([2, 3], true) (app rfl rfl rfl rfl bc37 (aN (f := eApiLock) (k := 3) un37 ei137 (el_full (xs := [(ApiLock.mk p0 (ApiSpan.mk p1 (p1 ++ ([0] : List UInt8)) false) true)]) rfl) hg4 rfl)) rfl (t1 ([], false) (nkr rfl) rfl (t1 ([], false) (far (k := 1) rfl fo46_1 ts37 rfl) rfl (t0 ([0, 3], true) (sto rfl rfl (sB (d' := .agg [.d .nils, .slc 3 5 0 ([(ApiLock.mk p0 (ApiSpan.mk p1 (p1 ++ ([0] : List UInt8)) false) true)].length) none, .d .nils]) ts37 rfl rfl rfl rfl rfl rfl rfl)) rfl (ST.nil (And.intro (by decide +kernel) ?_))))))
  exact finN (wc (e' := []) [0, 3] [0] (by kernel_rfl) rfl (by kernel_rfl)) lresN rfl
end Lv
