/- Part of the proof of a law: functions and their walks. -/
import Derived.Test.YtddopjhkmkoicaaGreatDoorXFn3
namespace Lv
open Go Go.Proofs
set_option linter.unusedVariables false
set_option linter.unusedSimpArgs false
set_option linter.unusedSectionVars false
set_option maxRecDepth 100000
variable [BaseTab] [TabOk]
/-- granary/granaryref17.Same -/
noncomputable def ref17_Same (p0 : ApiTable) (p1 : ApiTable) : Option Bool :=
  Option.bind (α := Bool)
    (bif (p0.Name != p1.Name) then
      some true
    else
      bif (p0.Tree != p1.Tree) then
        some true
      else
        bif ((p0.Cols.length : Int) != (p1.Cols.length : Int)) then
          some true
        else
          Option.bind (raw_Ints p0.Primary p1.Primary) fun r280 =>
          bif (!r280) then
            some true
          else
            some ((p0.Indexes.length : Int) != (p1.Indexes.length : Int)))
    fun y278 =>
  bif y278 then
    some false
  else
    bindE (Y := Unit) (E := Bool)
      (Option.bind (α := Unit ⊕ Bool)
        (loop (Y := Int) (W := Unit ⊕ Bool) (fun y296 =>
          bif (decide (y296 < (p0.Cols.length : Int))) then
            Option.bind (getI p0.Cols y296) fun v302 =>
            Option.bind (getI p1.Cols y296) fun v303 =>
            bif (!(eqApiColumn v302 v303)) then
              some (Sum.inr (Sum.inr false))
            else
              some (Sum.inl (w64 (y296 + (1 : Int))))
          else
            some (Sum.inr (Sum.inl ()))) (0 : Int))
        (Sum.elim (fun e => some (Sum.inl e)) (fun e => some (Sum.inr e))))
      (fun _ =>
        bindE (Y := Unit) (E := Bool)
          (Option.bind (α := Unit ⊕ Bool)
            (loop (Y := Int) (W := Unit ⊕ Bool) (fun y467 =>
              bif (decide (y467 < (p0.Indexes.length : Int))) then
                bindE (Y := Unit) (E := Bool)
                  (Option.bind (getI p0.Indexes y467) fun v530 =>
                  Option.bind (getI p1.Indexes y467) fun v531 =>
                  Option.bind (α := Bool)
                    (bif (v530.Name != v531.Name) then
                      some true
                    else
                      bif (v530.Unique != v531.Unique) then
                        some true
                      else
                        bif (v530.Ready != v531.Ready) then
                          some true
                        else
                          bif (v530.Tree != v531.Tree) then
                            some true
                          else
                            Option.bind (raw_Ints v530.Extra v531.Extra) fun r536 =>
                            bif (!r536) then
                              some true
                            else
                              some ((v530.Parts.length : Int) != (v531.Parts.length : Int)))
                    fun y534 =>
                  bif y534 then
                    some (Sum.inr false)
                  else
                    Option.bind (α := Unit ⊕ Bool)
                      (loop (Y := Int) (W := Unit ⊕ Bool) (fun y540 =>
                        bif (decide (y540 < (v530.Parts.length : Int))) then
                          Option.bind (getI v530.Parts y540) fun v546 =>
                          Option.bind (getI v531.Parts y540) fun v547 =>
                          bif (!(eqApiPart v546 v547)) then
                            some (Sum.inr (Sum.inr false))
                          else
                            some (Sum.inl (w64 (y540 + (1 : Int))))
                        else
                          some (Sum.inr (Sum.inl ()))) (0 : Int))
                      (Sum.elim (fun e => some (Sum.inl e)) (fun e => some (Sum.inr e))))
                  (fun _ =>
                    some (Sum.inl (w64 (y467 + (1 : Int)))))
                  (fun e => some (Sum.inr (Sum.inr e)))
              else
                some (Sum.inr (Sum.inl ()))) (0 : Int))
            (Sum.elim (fun e => some (Sum.inl e)) (fun e => some (Sum.inr e))))
          (fun _ =>
            some true)
          (fun e => some e))
      (fun e => some e)
theorem ref17_Same_ok (p0 : ApiTable) (p1 : ApiTable) (r : Bool) (h0 : ref17_Same p0 p1 = some r) : CallAt Tryz.prog 14 [.d (eApiTable p0), .d (eApiTable p1)] [] (.d (eB r)) [] := by
  unfold ref17_Same at h0
  refine fn0 [0, 1] Tryz.func14 rfl rfl rfl rfl rfl ?_
  refine sr (s1 (bxo (k := 0) rfl rfl rfl) (s1 (bxo (k := 1) rfl rfl rfl) (s1 (asg rfl) (sn (sq (SC.seqP h0 (fun y => ⟨mk 144 [(2, .ref 0 0 0), (3, .ref 1 0 0), (47, .d (eB y))], [.box (.d (eApiTable p0)), .box (.d (eApiTable p1))]⟩) ?_ ?_))))))
  · intro u1_279 h1
    refine SC.region (s1 (far (k := 0) rfl fo26_0 ts9 rfl) (s1 (lod rfl (ld_box ts9 ta9 rfl rfl)) (s1 (far (k := 0) rfl fo26_0 ts9 rfl) (s1 (lod rfl (ld_box ts9 ta9 rfl rfl)) (s1 (bi rfl rfl q_str_neq) (s1 (mv rfl) (sp h1 (fun h1 => ?_) (fun h1 => ?_))))))))
    · have q := si h1; subst q
      refine k1 (wb rfl rfl rfl) (k1 (wb rfl rfl rfl) (k1 (wb rfl rfl rfl) (k1 (wb rfl rfl rfl) (k1 (wb rfl rfl rfl) (s1 (pkt rfl rfl) (s1 (mv rfl) (k1 (wb rfl rfl rfl) (k1 (wb rfl rfl rfl) (k1 (wb rfl rfl rfl) ?_)))))))))
      refine k1 (wb rfl rfl rfl) (k1 (wb rfl rfl rfl) (k1 (wb rfl rfl rfl) (k1 (wb rfl rfl rfl) (s1 (pkt rfl rfl) (s1 (mv rfl) (k1 (wb rfl rfl rfl) (k1 (wb rfl rfl rfl) (k1 (wb rfl rfl rfl) (k1 (wb rfl rfl rfl) ?_)))))))))
      refine k1 (wb rfl rfl rfl) (k1 (wb rfl rfl rfl) (s1 (pkt rfl rfl) (s1 (mv rfl) (k1 (wb rfl rfl rfl) (k1 (wb rfl rfl rfl) (k1 (wb rfl rfl rfl) (k1 (wb rfl rfl rfl) (k1 (wb rfl rfl rfl) (k1 (wb rfl rfl rfl) ?_)))))))))
      exact k1 (wb rfl rfl rfl) (s1 (pkt rfl rfl) (SO.nil ((wq rfl))))
    · refine g1 (wb rfl rfl rfl) (far (k := 4) rfl fo26_4 ts3 rfl) (g1 (wb rfl rfl rfl) (lod rfl (ld_box ts3 ta3 rfl rfl)) (g1 (wb rfl rfl rfl) (far (k := 4) rfl fo26_4 ts3 rfl) (g1 (wb rfl rfl rfl) (lod rfl (ld_box ts3 ta3 rfl rfl)) (g1 (wb rfl rfl rfl) (bi rfl rfl q_i64_neq) (s1 (pkf rfl rfl) (s1 (mv rfl) (sp h1 (fun h1 => ?_) (fun h1 => ?_))))))))
      · have q := si h1; subst q
        refine k1 (wb rfl rfl rfl) (k1 (wb rfl rfl rfl) (k1 (wb rfl rfl rfl) (k1 (wb rfl rfl rfl) (k1 (wb rfl rfl rfl) (k1 (wb rfl rfl rfl) (k1 (wb rfl rfl rfl) (s1 (pkt rfl rfl) (s1 (mv rfl) (k1 (wb rfl rfl rfl) ?_)))))))))
        refine k1 (wb rfl rfl rfl) (k1 (wb rfl rfl rfl) (k1 (wb rfl rfl rfl) (k1 (wb rfl rfl rfl) (k1 (wb rfl rfl rfl) (s1 (pkt rfl rfl) (s1 (mv rfl) (k1 (wb rfl rfl rfl) (k1 (wb rfl rfl rfl) (k1 (wb rfl rfl rfl) ?_)))))))))
        exact k1 (wb rfl rfl rfl) (k1 (wb rfl rfl rfl) (k1 (wb rfl rfl rfl) (k1 (wb rfl rfl rfl) (s1 (pkt rfl rfl) (SO.nil ((wq rfl)))))))
      · refine g1 (wb rfl rfl rfl) (far (k := 1) rfl fo26_1 ts22 rfl) (g1 (wb rfl rfl rfl) (lod rfl (ld_box ts22 ta22 rfl rfl)) (g1 (wb rfl rfl rfl) (len rfl rfl rfl (len_lst un22)) (g1 (wb rfl rfl rfl) (far (k := 1) rfl fo26_1 ts22 rfl) (g1 (wb rfl rfl rfl) (lod rfl (ld_box ts22 ta22 rfl rfl)) (g1 (wb rfl rfl rfl) (len rfl rfl rfl (len_lst un22)) (g1 (wb rfl rfl rfl) (bi rfl rfl q_i64_neq) (s1 (pkf rfl rfl) (s1 (mv rfl) (sp h1 (fun h1 => ?_) (fun h1 => ?_))))))))))
        · have q := si h1; subst q
          refine k1 (wb rfl rfl rfl) (k1 (wb rfl rfl rfl) (k1 (wb rfl rfl rfl) (k1 (wb rfl rfl rfl) (k1 (wb rfl rfl rfl) (k1 (wb rfl rfl rfl) (s1 (pkt rfl rfl) (s1 (mv rfl) (k1 (wb rfl rfl rfl) (k1 (wb rfl rfl rfl) ?_)))))))))
          exact k1 (wb rfl rfl rfl) (k1 (wb rfl rfl rfl) (k1 (wb rfl rfl rfl) (k1 (wb rfl rfl rfl) (k1 (wb rfl rfl rfl) (s1 (pkt rfl rfl) (SO.nil ((wq rfl))))))))
        · obtain ⟨r280, hq281, h1⟩ := ob h1
          refine g1 (wb rfl rfl rfl) (far (k := 2) rfl fo26_2 ts23 rfl) (g1 (wb rfl rfl rfl) (lod rfl (ld_box ts23 ta23 rfl rfl)) (g1 (wb rfl rfl rfl) (far (k := 2) rfl fo26_2 ts23 rfl) (g1 (wb rfl rfl rfl) (lod rfl (ld_box ts23 ta23 rfl rfl)) (c0 (raw_Ints_ok p0.Primary p1.Primary _ hq281) (wb rfl rfl rfl) rfl rfl rfl cb44 rfl (fun _ => rfl) (fun _ => rfl) (g1 (wb rfl rfl rfl) (nt rfl) (s1 (pkf rfl rfl) (s1 (mv rfl) (sp h1 (fun h1 => ?_) (fun h1 => ?_)))))))))
          · have q := si h1; subst q
            exact k1 (wb rfl rfl rfl) (k1 (wb rfl rfl rfl) (k1 (wb rfl rfl rfl) (k1 (wb rfl rfl rfl) (k1 (wb rfl rfl rfl) (k1 (wb rfl rfl rfl) (k1 (wb rfl rfl rfl) (s1 (pkt rfl rfl) (SO.nil ((wq rfl))))))))))
          · have q := si h1; subst q
            exact g1 (wb rfl rfl rfl) (far (k := 3) rfl fo26_3 ts24 rfl) (g1 (wb rfl rfl rfl) (lod rfl (ld_box ts24 ta24 rfl rfl)) (g1 (wb rfl rfl rfl) (len rfl rfl rfl (len_lst un24)) (g1 (wb rfl rfl rfl) (far (k := 3) rfl fo26_3 ts24 rfl) (g1 (wb rfl rfl rfl) (lod rfl (ld_box ts24 ta24 rfl rfl)) (g1 (wb rfl rfl rfl) (len rfl rfl rfl (len_lst un24)) (g1 (wb rfl rfl rfl) (bi rfl rfl q_i64_neq) (s1 (pkf rfl rfl) (SO.nil ((wq rfl))))))))))
  · rintro y278 h0
    refine cB h0 rfl (fun h0 => ?_) (fun h0 => ?_)
    · have q := si h0; subst q
      exact sr (s1 (asg rfl) (sn (SC.ret (finR (wc (e' := [(4, .d (eB false))]) [] [] (by kernel_rfl) rfl (by kernel_rfl)) (lresT rfl lresN) rfl))))
    · refine sk (SC.seqB h0 (fun y => ⟨mk 144 [(2, .ref 0 0 0), (3, .ref 1 0 0)], [.box (.d (eApiTable p0)), .box (.d (eApiTable p1))]⟩) ?_ ?_)
      · intro u1_293 h1 h0
        obtain ⟨u2_301, h2, h1⟩ := ob h1
        refine sr (s1 (asg rfl) (sn (SC.blk (SC.loopB h2 (fun y => ⟨mk 144 [(2, .ref 0 0 0), (3, .ref 1 0 0), (5, .d (eI y))], [.box (.d (eApiTable p0)), .box (.d (eApiTable p1))]⟩) (wq rfl) ?_))))
        intro n304
        rintro y296 w2_300 h3 hv3
        refine sq (sr (s1 (mv rfl) (s1 (far (k := 1) rfl fo26_1 ts22 rfl) (s1 (lod rfl (ld_box ts22 ta22 rfl rfl)) (s1 (len rfl rfl rfl (len_lst un22)) (s1 (bi rfl rfl q_i64_lss) (sn (cB h3 rfl (fun h3 => ?_) (fun h3 => ?_)))))))))
        · obtain ⟨v302, hv302, h3⟩ := ob h3; obtain ⟨v303, hv303, h3⟩ := ob h3
          refine sk (sq (SC.blk (sd (by kernel_rfl) (t1 ([], false) (far (k := 1) rfl fo26_1 ts22 rfl) rfl (t1 ([0], false) (lod rfl (ld_box ts22 ta22 rfl rfl)) rfl (t1 ([], false) (mv rfl) rfl (t1 ([], false) (ial rfl rfl un22 ts77 (getI_some hv302).1 (map_get (getI_some hv302).2) rfl) rfl (t1 ([], false) (lod (v := .d (eApiColumn v302)) rfl (ld_rop ts77 ta77 rfl)) rfl (t1 ([], false) (far (k := 1) rfl fo26_1 ts22 rfl) rfl ?_)))))))))
          refine t1 ([1], false) (lod rfl (ld_box ts22 ta22 rfl rfl)) rfl (t1 ([], false) (mv rfl) rfl (t1 ([], false) (ial rfl rfl un22 ts77 (getI_some hv303).1 (map_get (getI_some hv303).2) rfl) rfl (t1 ([], false) (lod (v := .d (eApiColumn v303)) rfl (ld_rop ts77 ta77 rfl)) rfl (t1 ([], false) (bi (v := .d (eB (!(eqApiColumn v302 v303)))) rfl rfl (fun X Y => eqApiColumn_neq_77 X Y v302 v303)) rfl (tn (by decide +kernel) (cB h3 rfl (fun h3 => ?_) (fun h3 => ?_)))))))
          · have q := si h3; subst q; have q : _ = _ := hv3; subst q; have q := si h1; subst q; have q := si h0; subst q
            exact sr (s1 (asg rfl) (sn (SC.ret (finR (wc (e' := [(4, .d (eB false))]) [] [] (by kernel_rfl) rfl (by kernel_rfl)) (lresT rfl lresN) rfl))))
          · refine SC.skip ?_
            change SC _ _ _ _ _
            have q := si h3; subst q
            exact SC.region (s1 (mv rfl) (s1 (bi rfl rfl q_i64_add) (s1 (asg rfl) (SO.nil (lf (wq rfl))))))
        · have q := si h3; subst q; have q : _ = _ := hv3; subst q; have q := si h1; subst q
          exact SC.exit (lf (wq rfl))
      · intro _ h0
        refine SC.seqB h0 (fun y => ⟨mk 144 [], []⟩) ?_ ?_
        · intro u1_427 h1 h0
          obtain ⟨u2_509, h2, h1⟩ := ob h1
          refine sr (s1 (asg rfl) (sn (SC.blk (SC.loopB h2 (fun y => ⟨mk 144 [(2, .ref 0 0 0), (3, .ref 1 0 0), (6, .d (eI y))], [.box (.d (eApiTable p0)), .box (.d (eApiTable p1))]⟩) (wq rfl) ?_))))
          intro n549
          rintro y467 w2_508 h3 hv3
          refine sq (sr (s1 (mv rfl) (s1 (far (k := 3) rfl fo26_3 ts24 rfl) (s1 (lod rfl (ld_box ts24 ta24 rfl rfl)) (s1 (len rfl rfl rfl (len_lst un24)) (s1 (bi rfl rfl q_i64_lss) (sn (cB h3 rfl (fun h3 => ?_) (fun h3 => ?_)))))))))
          · refine sk (SC.seqB h3 (fun y => ⟨mk 144 [(2, .ref 0 0 0), (3, .ref 1 0 0), (6, .d (eI y467))], [.box (.d (eApiTable p0)), .box (.d (eApiTable p1))]⟩) ?_ ?_)
            · intro u4_529 h4 h3
              obtain ⟨v530, hv530, h4⟩ := ob h4; obtain ⟨v531, hv531, h4⟩ := ob h4
              refine SC.blk (sr (s1 (far (k := 3) rfl fo26_3 ts24 rfl) (s1 (lod rfl (ld_box ts24 ta24 rfl rfl)) (s1 (mv rfl) (s1 (ial rfl rfl un24 ts82 (getI_some hv530).1 (map_get (getI_some hv530).2) rfl) (s1 (lod (v := .d (eApiIndex v530)) rfl (ld_rop ts82 ta82 rfl)) (s1 (alo (k := 2) zo82 rfl) (s0 (sto rfl rfl (sB (d' := .d (eApiIndex v530)) ts82 rfl rfl rfl rfl rfl rfl rfl)) (sn ?_)))))))))
              refine sr (s1 (far (k := 3) rfl fo26_3 ts24 rfl) (s1 (lod rfl (ld_box ts24 ta24 rfl rfl)) (s1 (mv rfl) (s1 (ial rfl rfl un24 ts82 (getI_some hv531).1 (map_get (getI_some hv531).2) rfl) (s1 (lod (v := .d (eApiIndex v531)) rfl (ld_rop ts82 ta82 rfl)) (s1 (alo (k := 3) zo82 rfl) (s0 (sto rfl rfl (sB (d' := .d (eApiIndex v531)) ts82 rfl rfl rfl rfl rfl rfl rfl)) (sn (sq ?_)))))))))
              refine SC.seqP h4 (fun y => ⟨mk 144 [(2, .ref 0 0 0), (3, .ref 1 0 0), (6, .d (eI y467)), (7, .ref 2 0 0), (8, .ref 3 0 0), (125, .d (eB y))], [.box (.d (eApiTable p0)), .box (.d (eApiTable p1)), .box (.d (eApiIndex v530)), .box (.d (eApiIndex v531))]⟩) ?_ ?_
              · intro u5_535 h5
                refine SC.region (s1 (far (k := 0) rfl fo82_0 ts9 rfl) (s1 (lod rfl (ld_box ts9 ta9 rfl rfl)) (s1 (far (k := 0) rfl fo82_0 ts9 rfl) (s1 (lod rfl (ld_box ts9 ta9 rfl rfl)) (s1 (bi rfl rfl q_str_neq) (s1 (mv rfl) (sp h5 (fun h5 => ?_) (fun h5 => ?_))))))))
                · have q := si h5; subst q
                  refine k1 (wb rfl rfl rfl) (k1 (wb rfl rfl rfl) (k1 (wb rfl rfl rfl) (k1 (wb rfl rfl rfl) (k1 (wb rfl rfl rfl) (s1 (pkt rfl rfl) (s1 (mv rfl) (k1 (wb rfl rfl rfl) (k1 (wb rfl rfl rfl) (k1 (wb rfl rfl rfl) ?_)))))))))
                  refine k1 (wb rfl rfl rfl) (k1 (wb rfl rfl rfl) (s1 (pkt rfl rfl) (s1 (mv rfl) (k1 (wb rfl rfl rfl) (k1 (wb rfl rfl rfl) (k1 (wb rfl rfl rfl) (k1 (wb rfl rfl rfl) (k1 (wb rfl rfl rfl) (s1 (pkt rfl rfl) ?_)))))))))
                  refine s1 (mv rfl) (k1 (wb rfl rfl rfl) (k1 (wb rfl rfl rfl) (k1 (wb rfl rfl rfl) (k1 (wb rfl rfl rfl) (k1 (wb rfl rfl rfl) (k1 (wb rfl rfl rfl) (s1 (pkt rfl rfl) (s1 (mv rfl) (k1 (wb rfl rfl rfl) ?_)))))))))
                  exact k1 (wb rfl rfl rfl) (k1 (wb rfl rfl rfl) (k1 (wb rfl rfl rfl) (k1 (wb rfl rfl rfl) (k1 (wb rfl rfl rfl) (k1 (wb rfl rfl rfl) (s1 (pkt rfl rfl) (SO.nil ((wq rfl)))))))))
                · refine g1 (wb rfl rfl rfl) (far (k := 3) rfl fo82_3 ts4 rfl) (g1 (wb rfl rfl rfl) (lod rfl (ld_box ts4 ta4 rfl rfl)) (g1 (wb rfl rfl rfl) (far (k := 3) rfl fo82_3 ts4 rfl) (g1 (wb rfl rfl rfl) (lod rfl (ld_box ts4 ta4 rfl rfl)) (g1 (wb rfl rfl rfl) (bi (v := .d (eB (v530.Unique != v531.Unique))) rfl rfl (fun X Y => b_bool_neq un4 X Y v530.Unique v531.Unique)) (s1 (pkf rfl rfl) (s1 (mv rfl) (sp h5 (fun h5 => ?_) (fun h5 => ?_))))))))
                  · have q := si h5; subst q
                    refine k1 (wb rfl rfl rfl) (k1 (wb rfl rfl rfl) (k1 (wb rfl rfl rfl) (k1 (wb rfl rfl rfl) (k1 (wb rfl rfl rfl) (s1 (pkt rfl rfl) (s1 (mv rfl) (k1 (wb rfl rfl rfl) (k1 (wb rfl rfl rfl) (k1 (wb rfl rfl rfl) ?_)))))))))
                    refine k1 (wb rfl rfl rfl) (k1 (wb rfl rfl rfl) (s1 (pkt rfl rfl) (s1 (mv rfl) (k1 (wb rfl rfl rfl) (k1 (wb rfl rfl rfl) (k1 (wb rfl rfl rfl) (k1 (wb rfl rfl rfl) (k1 (wb rfl rfl rfl) (k1 (wb rfl rfl rfl) ?_)))))))))
                    refine s1 (pkt rfl rfl) (s1 (mv rfl) (k1 (wb rfl rfl rfl) (k1 (wb rfl rfl rfl) (k1 (wb rfl rfl rfl) (k1 (wb rfl rfl rfl) (k1 (wb rfl rfl rfl) (k1 (wb rfl rfl rfl) (k1 (wb rfl rfl rfl) (s1 (pkt rfl rfl) ?_)))))))))
                    exact SO.nil ((wq rfl))
                  · refine g1 (wb rfl rfl rfl) (far (k := 4) rfl fo82_4 ts4 rfl) (g1 (wb rfl rfl rfl) (lod rfl (ld_box ts4 ta4 rfl rfl)) (g1 (wb rfl rfl rfl) (far (k := 4) rfl fo82_4 ts4 rfl) (g1 (wb rfl rfl rfl) (lod rfl (ld_box ts4 ta4 rfl rfl)) (g1 (wb rfl rfl rfl) (bi (v := .d (eB (v530.Ready != v531.Ready))) rfl rfl (fun X Y => b_bool_neq un4 X Y v530.Ready v531.Ready)) (s1 (pkf rfl rfl) (s1 (mv rfl) (sp h5 (fun h5 => ?_) (fun h5 => ?_))))))))
                    · have q := si h5; subst q
                      refine k1 (wb rfl rfl rfl) (k1 (wb rfl rfl rfl) (k1 (wb rfl rfl rfl) (k1 (wb rfl rfl rfl) (k1 (wb rfl rfl rfl) (s1 (pkt rfl rfl) (s1 (mv rfl) (k1 (wb rfl rfl rfl) (k1 (wb rfl rfl rfl) (k1 (wb rfl rfl rfl) ?_)))))))))
                      refine k1 (wb rfl rfl rfl) (k1 (wb rfl rfl rfl) (k1 (wb rfl rfl rfl) (s1 (pkt rfl rfl) (s1 (mv rfl) (k1 (wb rfl rfl rfl) (k1 (wb rfl rfl rfl) (k1 (wb rfl rfl rfl) (k1 (wb rfl rfl rfl) (k1 (wb rfl rfl rfl) ?_)))))))))
                      exact k1 (wb rfl rfl rfl) (k1 (wb rfl rfl rfl) (s1 (pkt rfl rfl) (SO.nil ((wq rfl)))))
                    · refine g1 (wb rfl rfl rfl) (far (k := 5) rfl fo82_5 ts3 rfl) (g1 (wb rfl rfl rfl) (lod rfl (ld_box ts3 ta3 rfl rfl)) (g1 (wb rfl rfl rfl) (far (k := 5) rfl fo82_5 ts3 rfl) (g1 (wb rfl rfl rfl) (lod rfl (ld_box ts3 ta3 rfl rfl)) (g1 (wb rfl rfl rfl) (bi rfl rfl q_i64_neq) (s1 (pkf rfl rfl) (s1 (mv rfl) (sp h5 (fun h5 => ?_) (fun h5 => ?_))))))))
                      · have q := si h5; subst q
                        refine k1 (wb rfl rfl rfl) (k1 (wb rfl rfl rfl) (k1 (wb rfl rfl rfl) (k1 (wb rfl rfl rfl) (k1 (wb rfl rfl rfl) (k1 (wb rfl rfl rfl) (s1 (pkt rfl rfl) (s1 (mv rfl) (k1 (wb rfl rfl rfl) (k1 (wb rfl rfl rfl) ?_)))))))))
                        exact k1 (wb rfl rfl rfl) (k1 (wb rfl rfl rfl) (k1 (wb rfl rfl rfl) (k1 (wb rfl rfl rfl) (k1 (wb rfl rfl rfl) (s1 (pkt rfl rfl) (SO.nil ((wq rfl))))))))
                      · obtain ⟨r536, hq537, h5⟩ := ob h5
                        refine g1 (wb rfl rfl rfl) (far (k := 2) rfl fo82_2 ts23 rfl) (g1 (wb rfl rfl rfl) (lod rfl (ld_box ts23 ta23 rfl rfl)) (g1 (wb rfl rfl rfl) (far (k := 2) rfl fo82_2 ts23 rfl) (g1 (wb rfl rfl rfl) (lod rfl (ld_box ts23 ta23 rfl rfl)) (c0 (raw_Ints_ok v530.Extra v531.Extra _ hq537) (wb rfl rfl rfl) rfl rfl rfl cb44 rfl (fun _ => rfl) (fun _ => rfl) (g1 (wb rfl rfl rfl) (nt rfl) (s1 (pkf rfl rfl) (s1 (mv rfl) (sp h5 (fun h5 => ?_) (fun h5 => ?_)))))))))
                        · have q := si h5; subst q
                          exact k1 (wb rfl rfl rfl) (k1 (wb rfl rfl rfl) (k1 (wb rfl rfl rfl) (k1 (wb rfl rfl rfl) (k1 (wb rfl rfl rfl) (k1 (wb rfl rfl rfl) (k1 (wb rfl rfl rfl) (s1 (pkt rfl rfl) (SO.nil ((wq rfl))))))))))
                        · have q := si h5; subst q
                          exact g1 (wb rfl rfl rfl) (far (k := 1) rfl fo82_1 ts80 rfl) (g1 (wb rfl rfl rfl) (lod rfl (ld_box ts80 ta80 rfl rfl)) (g1 (wb rfl rfl rfl) (len rfl rfl rfl (len_lst un80)) (g1 (wb rfl rfl rfl) (far (k := 1) rfl fo82_1 ts80 rfl) (g1 (wb rfl rfl rfl) (lod rfl (ld_box ts80 ta80 rfl rfl)) (g1 (wb rfl rfl rfl) (len rfl rfl rfl (len_lst un80)) (g1 (wb rfl rfl rfl) (bi rfl rfl q_i64_neq) (s1 (pkf rfl rfl) (SO.nil ((wq rfl))))))))))
              · rintro y534 h4
                refine cB h4 rfl (fun h4 => ?_) (fun h4 => ?_)
                · have q := si h4; subst q; have q := si h3; subst q; have q : _ = _ := hv3; subst q; have q := si h1; subst q; have q := si h0; subst q
                  exact sr (s1 (asg rfl) (sn (SC.ret (finR (wc (e' := [(4, .d (eB false))]) [] [] (by kernel_rfl) rfl (by kernel_rfl)) (lresT rfl lresN) rfl))))
                · obtain ⟨u5_545, h5, h4⟩ := ob h4
                  refine sk (sr (s1 (asg rfl) (sn (SC.blk (SC.loopB h5 (fun y => ⟨mk 144 [(2, .ref 0 0 0), (3, .ref 1 0 0), (6, .d (eI y467)), (7, .ref 2 0 0), (8, .ref 3 0 0), (9, .d (eI y))], [.box (.d (eApiTable p0)), .box (.d (eApiTable p1)), .box (.d (eApiIndex v530)), .box (.d (eApiIndex v531))]⟩) (wq rfl) ?_)))))
                  intro n548
                  rintro y540 w5_544 h6 hv6
                  refine sq (sr (s1 (mv rfl) (s1 (far (k := 1) rfl fo82_1 ts80 rfl) (s1 (lod rfl (ld_box ts80 ta80 rfl rfl)) (s1 (len rfl rfl rfl (len_lst un80)) (s1 (bi rfl rfl q_i64_lss) (sn (cB h6 rfl (fun h6 => ?_) (fun h6 => ?_)))))))))
                  · obtain ⟨v546, hv546, h6⟩ := ob h6; obtain ⟨v547, hv547, h6⟩ := ob h6
                    refine sk (sq (SC.blk (sd (by kernel_rfl) (t1 ([], false) (far (k := 1) rfl fo82_1 ts80 rfl) rfl (t1 ([2], false) (lod rfl (ld_box ts80 ta80 rfl rfl)) rfl (t1 ([], false) (mv rfl) rfl (t1 ([], false) (ial rfl rfl un80 ts79 (getI_some hv546).1 (map_get (getI_some hv546).2) rfl) rfl (t1 ([], false) (lod (v := .d (eApiPart v546)) rfl (ld_rop ts79 ta79 rfl)) rfl (t1 ([], false) (far (k := 1) rfl fo82_1 ts80 rfl) rfl ?_)))))))))
                    refine t1 ([3], false) (lod rfl (ld_box ts80 ta80 rfl rfl)) rfl (t1 ([], false) (mv rfl) rfl (t1 ([], false) (ial rfl rfl un80 ts79 (getI_some hv547).1 (map_get (getI_some hv547).2) rfl) rfl (t1 ([], false) (lod (v := .d (eApiPart v547)) rfl (ld_rop ts79 ta79 rfl)) rfl (t1 ([], false) (bi (v := .d (eB (!(eqApiPart v546 v547)))) rfl rfl (fun X Y => eqApiPart_neq_79 X Y v546 v547)) rfl (tn (by decide +kernel) (cB h6 rfl (fun h6 => ?_) (fun h6 => ?_)))))))
                    · have q := si h6; subst q; have q : _ = _ := hv6; subst q; have q := si h4; subst q; have q := si h3; subst q; have q : _ = _ := hv3; subst q; have q := si h1; subst q; have q := si h0; subst q
                      exact sr (s1 (asg rfl) (sn (SC.ret (finR (wc (e' := [(4, .d (eB false))]) [] [] (by kernel_rfl) rfl (by kernel_rfl)) (lresT rfl lresN) rfl))))
                    · refine SC.skip ?_
                      change SC _ _ _ _ _
                      have q := si h6; subst q
                      exact SC.region (s1 (mv rfl) (s1 (bi rfl rfl q_i64_add) (s1 (asg rfl) (SO.nil (lf (wq rfl))))))
                  · have q := si h6; subst q; have q : _ = _ := hv6; subst q; have q := si h4; subst q
                    exact SC.exit (lf (wc [0, 1] [0, 1] (by kernel_rfl) rfl (by kernel_rfl)))
            · intro _ h3
              have q := si h3; subst q
              exact SC.region (s1 (mv rfl) (s1 (bi rfl rfl q_i64_add) (s1 (asg rfl) (SO.nil (lf (wq rfl))))))
          · have q := si h3; subst q; have q : _ = _ := hv3; subst q; have q := si h1; subst q
            exact SC.exit (lf (wc [] [] (by kernel_rfl) rfl (by kernel_rfl)))
        · intro _ h0
          have q := si h0; subst q
          exact sr (s1 (asg rfl) (sn (SC.ret (finR (Wk.refl _) (lresT rfl lresN) rfl))))

/-- granary/granarylaw19.FanChanges -/
noncomputable def law19_FanChanges (p0 : ApiTable) (p1 : List FanBuilt) (p2 : List ApiValue) (p3 : List ApiValue) (p4 : List UInt8) : Option Bool :=
  Option.bind (α := Bool)
    (Option.bind law19_awake fun r47 =>
    bif (!r47) then
      some true
    else
      Option.bind (fan_Point p4) fun _ =>
      Option.bind (ref19_Point p4) fun _ =>
      some (!(eqApiSpan (ApiSpan.mk p4 (p4 ++ ([0] : List UInt8)) false) (ApiSpan.mk p4 (p4 ++ ([0] : List UInt8)) false))))
    fun y45 =>
  bif y45 then
    some false
  else
    Option.bind (ref17_Check p0) fun r51 =>
    bif (r51 != (0 : Int)) then
      some true
    else
      Option.bind (ref17_Copy p0) fun r53 =>
      bif decide ((([] : List FanBuilt).length + p1.length) * 24 ≤ room) then
      bif decide ((([] : List ApiValue).length + p2.length) * 32 ≤ room) then
      bif decide ((([] : List ApiValue).length + p3.length) * 32 ≤ room) then
      Option.bind (fan_Change (ApiTable.mk p0.Name (([] : List ApiColumn) ++ p0.Cols) (([] : List Int) ++ p0.Primary) r53 p0.Tree) (([] : List FanBuilt) ++ p1) (([] : List ApiValue) ++ p2) (([] : List ApiValue) ++ p3)) fun (r58, r59, r60, r61) =>
      Option.bind (law19_built p1) fun r63 =>
      Option.bind (ref19_Change p0 r63 p2 p3) fun (r65, r66, r67, r68) =>
      Option.bind (α := Bool)
        (bif (r58 == r65) then
          Option.bind (law19_same (FanWork.mk r59 r60 r61) (Granaryref19Work.mk r66 r67 r68)) fun r76 =>
          bif r76 then
            Option.bind (ref17_Same (ApiTable.mk p0.Name (([] : List ApiColumn) ++ p0.Cols) (([] : List Int) ++ p0.Primary) r53 p0.Tree) p0) fun r78 =>
            some r78
          else
            some false
        else
          some false)
        fun y74 =>
      some y74
      else none
      else none
      else none
theorem law19_FanChanges_ok (p0 : ApiTable) (p1 : List FanBuilt) (p2 : List ApiValue) (p3 : List ApiValue) (p4 : List UInt8) (r : Bool) (h0 : law19_FanChanges p0 p1 p2 p3 p4 = some r) : CallAt Tryz.prog 3 [.d (eApiTable p0), .d ((eL 2 eFanBuilt) p1), .d ((eL 3 eApiValue) p2), .d ((eL 3 eApiValue) p3), .d (eS p4)] [] (.d (eB r)) [] := by
  unfold law19_FanChanges at h0
  refine fn0 [0, 1, 2, 3, 4] Tryz.func3 rfl rfl rfl rfl rfl ?_
  refine sr (s1 (bxo (k := 0) rfl rfl rfl) (s1 (asg rfl) (sn (sq (SC.seqP h0 (fun y => ⟨mk 66 [(1, .d ((eL 2 eFanBuilt) p1)), (2, .d ((eL 3 eApiValue) p2)), (3, .d ((eL 3 eApiValue) p3)), (5, .ref 0 0 0), (24, .d (eB y))], [.box (.d (eApiTable p0))]⟩) ?_ ?_)))))
  · intro u1_46 h1
    obtain ⟨r47, hq48, h1⟩ := ob h1
    refine SC.region (c0 (law19_awake_ok _ hq48) wf rfl rfl rfl cb5 rfl (fun _ => rfl) (fun _ => rfl) (s1 (nt rfl) (s1 (mv rfl) (sp h1 (fun h1 => ?_) (fun h1 => ?_)))))
    · have q := si h1; subst q
      exact k1 (wb rfl rfl rfl) (k1 (wb rfl rfl rfl) (k1 (wb rfl rfl rfl) (k1 (wb rfl rfl rfl) (k1 (wb rfl rfl rfl) (s1 (pkt rfl rfl) (SO.nil ((wq rfl))))))))
    · obtain ⟨_, hq49, h1⟩ := ob h1; obtain ⟨_, hq50, h1⟩ := ob h1; have q := si h1; subst q
      exact g1 (wb rfl rfl rfl) (mv rfl) (ca [] (fan_Point_ok p4 _ hq49) (wb rfl rfl rfl) rfl rfl rfl cb6 rfl rfl rfl rfl rfl rfl (g1 (wb rfl rfl rfl) (mv rfl) (ca [] (ref19_Point_ok p4 _ hq50) (wb rfl rfl rfl) rfl rfl rfl cb7 rfl rfl rfl rfl rfl rfl (g1 (wb rfl rfl rfl) (bi (v := .d (eB (!(eqApiSpan (ApiSpan.mk p4 (p4 ++ ([0] : List UInt8)) false) (ApiSpan.mk p4 (p4 ++ ([0] : List UInt8)) false))))) rfl rfl (fun X Y => eqApiSpan_neq_31 X Y (ApiSpan.mk p4 (p4 ++ ([0] : List UInt8)) false) (ApiSpan.mk p4 (p4 ++ ([0] : List UInt8)) false))) (s1 (pkf rfl rfl) (SO.nil ((wc [0] [0] (by kernel_rfl) rfl (by kernel_rfl)))))))))
  · rintro y45 h0
    refine cB h0 rfl (fun h0 => ?_) (fun h0 => ?_)
    · have q := si h0; subst q
      exact sr (s1 (asg rfl) (sn (SC.ret (finR (wc (e' := [(10, .d (eB false))]) [] [] (by kernel_rfl) rfl (by kernel_rfl)) (lresT rfl lresN) rfl))))
    · obtain ⟨r51, hq52, h0⟩ := ob h0
      refine sk (sq (sr (s1 (lod (v := .d (eApiTable p0)) rfl (ld_box ts26 ta26 rfl rfl)) (c0 (ref17_Check_ok p0 _ hq52) wf rfl rfl rfl cb8 rfl (fun _ => rfl) (fun _ => rfl) (s1 (bi rfl rfl q_i64_neq) (sn (cB h0 rfl (fun h0 => ?_) (fun h0 => ?_))))))))
      · have q := si h0; subst q
        exact sr (s1 (asg rfl) (sn (SC.ret (finR (wc (e' := [(10, .d (eB true))]) [] [] (by kernel_rfl) rfl (by kernel_rfl)) (lresT rfl lresN) rfl))))
      · obtain ⟨r53, hq54, h0⟩ := ob h0; obtain ⟨hg55, h0⟩ := gd h0; obtain ⟨hg56, h0⟩ := gd h0; obtain ⟨hg57, h0⟩ := gd h0; obtain ⟨⟨r58, r59, r60, r61⟩, hq62, h0⟩ := ob h0; obtain ⟨r63, hq64, h0⟩ := ob h0; obtain ⟨⟨r65, r66, r67, r68⟩, hq69, h0⟩ := ob h0
        refine sk (sr (s1 (lod (v := .d (eApiTable p0)) rfl (ld_box ts26 ta26 rfl rfl)) (ca (r := .agg [.d (eS p0.Name), .slc 2 7 0 ((([] : List ApiColumn) ++ p0.Cols).length) none, .slc 3 1 0 ((([] : List Int) ++ p0.Primary).length) none, .slc 4 6 0 r53.length none, .d (eI p0.Tree)]) [] (ref17_Copy_ok p0 _ hq54) wf rfl rfl rfl cb9 rfl rfl rfl rfl rfl rfl (s1 (alo (k := 5) zo26 rfl) (s0 (sto rfl rfl (sB (d' := .agg [.d (eS p0.Name), .slc 2 7 0 ((([] : List ApiColumn) ++ p0.Cols).length) none, .slc 3 1 0 ((([] : List Int) ++ p0.Primary).length) none, .slc 4 6 0 r53.length none, .d (eI p0.Tree)]) ts26 rfl rfl rfl rfl rfl rfl rfl)) (sn (sd (by kernel_rfl) (t1 ([5], false) (lod (v := .agg [.d (eS p0.Name), .slc 2 7 0 ((([] : List ApiColumn) ++ p0.Cols).length) none, .slc 3 1 0 ((([] : List Int) ++ p0.Primary).length) none, .slc 4 6 0 r53.length none, .d (eI p0.Tree)]) rfl (ld_box ts26 ta26 rfl rfl)) rfl (t1 ([6], true) (bsn (k := 6) (ds := List.map eFanBuilt ([] : List FanBuilt)) (off := 0) (l' := ([] : List FanBuilt).length) rfl un27 ei99 rfl rfl rfl rfl rfl rfl) rfl ?_)))))))))
        refine t1 ([], false) (mv rfl) rfl (t1 ([6, 7], true) (app rfl rfl rfl rfl bc27 (aF (f := eFanBuilt) (xs := ([] : List FanBuilt)) (k := 7) rfl un27 ei99 rfl el_lst hg55 rfl)) rfl (t1 ([8], true) (bsn (k := 8) (ds := List.map eApiValue ([] : List ApiValue)) (off := 0) (l' := ([] : List ApiValue).length) rfl un28 ei68 rfl rfl rfl rfl rfl rfl) rfl (t1 ([], false) (mv rfl) rfl (t1 ([8, 9], true) (app rfl rfl rfl rfl bc28 (aF (f := eApiValue) (xs := ([] : List ApiValue)) (k := 9) rfl un28 ei68 rfl el_lst hg56 rfl)) rfl (t1 ([10], true) (bsn (k := 10) (ds := List.map eApiValue ([] : List ApiValue)) (off := 0) (l' := ([] : List ApiValue).length) rfl un28 ei68 rfl rfl rfl rfl rfl rfl) rfl (t1 ([], false) (mv rfl) rfl (t1 ([10, 11], true) (app rfl rfl rfl rfl bc28 (aF (f := eApiValue) (xs := ([] : List ApiValue)) (k := 11) rfl un28 ei68 rfl el_lst hg57 rfl)) rfl (ta' (r := .tuple [.agg [.slc 13 9 0 r59.length none, .slc 14 5 0 r60.length none, .slc 15 4 0 r61.length none], .d (eI r58)]) (args' := [.agg [.d (eS p0.Name), .slc 0 7 0 ((([] : List ApiColumn) ++ p0.Cols).length) none, .slc 1 1 0 ((([] : List Int) ++ p0.Primary).length) none, .slc 2 6 0 r53.length none, .d (eI p0.Tree)], .slc 3 2 0 ((([] : List FanBuilt) ++ p1).length) none, .slc 4 3 0 ((([] : List ApiValue) ++ p2).length) none, .slc 5 3 0 ((([] : List ApiValue) ++ p3).length) none]) (σc := [.row 7 (List.map eApiColumn (([] : List ApiColumn) ++ p0.Cols)) true, .row 1 (List.map eI (([] : List Int) ++ p0.Primary)) true, .row 6 (List.map eApiIndex r53) true, .row 2 (List.map eFanBuilt (([] : List FanBuilt) ++ p1)) true, .row 3 (List.map eApiValue (([] : List ApiValue) ++ p2)) true, .row 3 (List.map eApiValue (([] : List ApiValue) ++ p3)) true]) (σ' := [.box (.d (eApiTable p0)), .box (.agg [.d (eS p0.Name), .slc 2 7 0 ((([] : List ApiColumn) ++ p0.Cols).length) none, .slc 3 1 0 ((([] : List Int) ++ p0.Primary).length) none, .slc 4 6 0 r53.length none, .d (eI p0.Tree)]), .row 7 (List.map eApiColumn (([] : List ApiColumn) ++ p0.Cols)) false, .row 1 (List.map eI (([] : List Int) ++ p0.Primary)) false, .row 6 (List.map eApiIndex r53) false, .box (.agg [.d (eS p0.Name), .slc 2 7 0 ((([] : List ApiColumn) ++ p0.Cols).length) none, .slc 3 1 0 ((([] : List Int) ++ p0.Primary).length) none, .slc 4 6 0 r53.length none, .d (eI p0.Tree)]), .dead, .row 2 (List.map eFanBuilt (([] : List FanBuilt) ++ p1)) false, .dead, .row 3 (List.map eApiValue (([] : List ApiValue) ++ p2)) false, .dead, .row 3 (List.map eApiValue (([] : List ApiValue) ++ p3)) false, .box (.agg [.slc 13 9 0 r59.length none, .slc 14 5 0 r60.length none, .slc 15 4 0 r61.length none]), .row 9 (List.map eForestOp r59) true, .row 5 (List.map eApiLock r60) true, .row 4 (List.map eFanProbe r61) true]) [2, 3, 4, 7, 9, 11] ([2, 3, 4, 7, 9, 11, 12, 13, 14, 15], true) (CallAt.frz (ArgF.frzw (y := .d (eApiTable (ApiTable.mk p0.Name (([] : List ApiColumn) ++ p0.Cols) (([] : List Int) ++ p0.Primary) r53 p0.Tree))) rfl (frzs_d rfl (frzs_slc (fF rfl rfl rfl) (frzs_slc (fF rfl rfl rfl) (frzs_slc (fF rfl rfl rfl) (frzs_d rfl frzs_nil))))) (AW.aggd rfl (AWs.cons (AW.refl _) (AWs.cons (AW.refl _) (AWs.cons (AW.refl _) (AWs.cons (AW.refl _) (AWs.cons (AW.refl _) AWs.nil)))))) (ArgF.frz (fF rfl rfl rfl) (ArgF.frz (fF rfl rfl rfl) (ArgF.frz (fF rfl rfl rfl) (ArgF.nil _))))) (fm (r := .tuple [.agg [.slc 7 9 0 r59.length none, .slc 8 5 0 r60.length none, .slc 9 4 0 r61.length none], .d (eI r58)]) [] (fan_Change_ok (ApiTable.mk p0.Name (([] : List ApiColumn) ++ p0.Cols) (([] : List Int) ++ p0.Primary) r53 p0.Tree) (([] : List FanBuilt) ++ p1) (([] : List ApiValue) ++ p2) (([] : List ApiValue) ++ p3) _ hq62) rfl rfl rfl rfl rfl rfl)) wf rfl rfl rfl cb10 rfl rfl rfl rfl rfl rfl rfl ?_))))))))
        refine t1 ([], false) (mv rfl) rfl (t1 ([], false) (ext rfl rfl) rfl (t1 ([], false) (ext rfl rfl) rfl (t1 ([16], true) (alo (k := 16) zo40 rfl) rfl (t0 ([16, 13, 14, 15], true) (sto rfl rfl (sB (d' := .agg [.slc 13 9 0 r59.length none, .slc 14 5 0 r60.length none, .slc 15 4 0 r61.length none]) ts40 rfl rfl rfl rfl rfl rfl rfl)) rfl (t1 ([], false) (asg rfl) rfl (tn (by decide +kernel) (sd (by kernel_rfl) (t1 ([0], false) (lod (v := .d (eApiTable p0)) rfl (ld_box ts26 ta26 rfl rfl)) rfl (t1 ([], false) (mv rfl) rfl ?_)))))))))
        refine tc0 (law19_built_ok p1 _ hq64) wf rfl rfl rfl cb12 rfl (fun _ => rfl) (fun _ => rfl) (t1 ([], false) (mv rfl) rfl (t1 ([], false) (mv rfl) rfl (ta' (r := .tuple [.agg [.slc 18 9 0 r66.length none, .slc 19 5 0 r67.length none, .slc 20 4 0 r68.length none], .d (eI r65)]) [] ([17, 18, 19, 20], true) (ref19_Change_ok p0 r63 p2 p3 _ hq69) wf rfl rfl rfl cb11 rfl rfl rfl rfl rfl rfl rfl (t1 ([], false) (mv rfl) rfl (t1 ([], false) (ext rfl rfl) rfl (t1 ([], false) (ext rfl rfl) rfl (t1 ([21], true) (alo (k := 21) zo46 rfl) rfl (t0 ([21, 18, 19, 20], true) (sto rfl rfl (sB (d' := .agg [.slc 18 9 0 r66.length none, .slc 19 5 0 r67.length none, .slc 20 4 0 r68.length none]) ts46 rfl rfl rfl rfl rfl rfl rfl)) rfl (t1 ([], false) (asg rfl) rfl ?_)))))))))
        refine tn (by decide +kernel) (SC.seqP h0 (fun y => ⟨mk 66 [(10, .d (eB y))], []⟩) ?_ ?_)
        · intro u1_75 h1
          refine SC.region (s1 (mv rfl) (s1 (mv rfl) (s1 (bi rfl rfl q_i64_eql) (s1 (mv rfl) (sp h1 (fun h1 => ?_) (fun h1 => ?_))))))
          · obtain ⟨r76, hq77, h1⟩ := ob h1
            refine g1 (wb rfl rfl rfl) (lod (v := .agg [.slc 13 9 0 r59.length none, .slc 14 5 0 r60.length none, .slc 15 4 0 r61.length none]) rfl (ld_box ts40 ta40 rfl rfl)) (g1 (wb rfl rfl rfl) (lod (v := .agg [.slc 18 9 0 r66.length none, .slc 19 5 0 r67.length none, .slc 20 4 0 r68.length none]) rfl (ld_box ts46 ta46 rfl rfl)) (ca (args' := [.agg [.slc 0 9 0 r59.length none, .slc 1 5 0 r60.length none, .slc 2 4 0 r61.length none], .agg [.slc 3 9 0 r66.length none, .slc 4 5 0 r67.length none, .slc 5 4 0 r68.length none]]) (σc := [.row 9 (List.map eForestOp r59) true, .row 5 (List.map eApiLock r60) true, .row 4 (List.map eFanProbe r61) true, .row 9 (List.map eGranaryref14Op r66) true, .row 5 (List.map eApiLock r67) true, .row 4 (List.map eGranaryref19Probe r68) true]) (σ' := [.box (.d (eApiTable p0)), .box (.agg [.d (eS p0.Name), .slc 2 7 0 ((([] : List ApiColumn) ++ p0.Cols).length) none, .slc 3 1 0 ((([] : List Int) ++ p0.Primary).length) none, .slc 4 6 0 r53.length none, .d (eI p0.Tree)]), .row 7 (List.map eApiColumn (([] : List ApiColumn) ++ p0.Cols)) false, .row 1 (List.map eI (([] : List Int) ++ p0.Primary)) false, .row 6 (List.map eApiIndex r53) false, .box (.agg [.d (eS p0.Name), .slc 2 7 0 ((([] : List ApiColumn) ++ p0.Cols).length) none, .slc 3 1 0 ((([] : List Int) ++ p0.Primary).length) none, .slc 4 6 0 r53.length none, .d (eI p0.Tree)]), .dead, .row 2 (List.map eFanBuilt (([] : List FanBuilt) ++ p1)) false, .dead, .row 3 (List.map eApiValue (([] : List ApiValue) ++ p2)) false, .dead, .row 3 (List.map eApiValue (([] : List ApiValue) ++ p3)) false, .box (.agg [.slc 13 9 0 r59.length none, .slc 14 5 0 r60.length none, .slc 15 4 0 r61.length none]), .row 9 (List.map eForestOp r59) false, .row 5 (List.map eApiLock r60) false, .row 4 (List.map eFanProbe r61) false, .box (.agg [.slc 13 9 0 r59.length none, .slc 14 5 0 r60.length none, .slc 15 4 0 r61.length none]), .box (.agg [.slc 18 9 0 r66.length none, .slc 19 5 0 r67.length none, .slc 20 4 0 r68.length none]), .row 9 (List.map eGranaryref14Op r66) false, .row 5 (List.map eApiLock r67) false, .row 4 (List.map eGranaryref19Probe r68) false, .box (.agg [.slc 18 9 0 r66.length none, .slc 19 5 0 r67.length none, .slc 20 4 0 r68.length none])]) [13, 14, 15, 18, 19, 20] (CallAt.frz (ArgF.frzw (y := .d (eFanWork (FanWork.mk r59 r60 r61))) rfl (frzs_slc (fF rfl rfl rfl) (frzs_slc (fF rfl rfl rfl) (frzs_slc (fF rfl rfl rfl) frzs_nil))) (AW.aggd rfl (AWs.cons (AW.refl _) (AWs.cons (AW.refl _) (AWs.cons (AW.refl _) AWs.nil)))) (ArgF.frzw (y := .d (eGranaryref19Work (Granaryref19Work.mk r66 r67 r68))) rfl (frzs_slc (fF rfl rfl rfl) (frzs_slc (fF rfl rfl rfl) (frzs_slc (fF rfl rfl rfl) frzs_nil))) (AW.aggd rfl (AWs.cons (AW.refl _) (AWs.cons (AW.refl _) (AWs.cons (AW.refl _) AWs.nil)))) (ArgF.nil _))) (fm [] (law19_same_ok (FanWork.mk r59 r60 r61) (Granaryref19Work.mk r66 r67 r68) _ hq77) rfl rfl rfl rfl rfl rfl)) (wb rfl rfl rfl) rfl rfl rfl cb13 rfl rfl rfl rfl rfl rfl ?_))
            refine s1 (pkt rfl rfl) (s1 (mv rfl) (sp h1 (fun h1 => ?_) (fun h1 => ?_)))
            · obtain ⟨r78, hq79, h1⟩ := ob h1; have q := si h1; subst q
              refine g1 (wb rfl rfl rfl) (lod (v := .agg [.d (eS p0.Name), .slc 2 7 0 ((([] : List ApiColumn) ++ p0.Cols).length) none, .slc 3 1 0 ((([] : List Int) ++ p0.Primary).length) none, .slc 4 6 0 r53.length none, .d (eI p0.Tree)]) rfl (ld_box ts26 ta26 rfl rfl)) (g1 (wb rfl rfl rfl) (lod (v := .d (eApiTable p0)) rfl (ld_box ts26 ta26 rfl rfl)) (ca (args' := [.agg [.d (eS p0.Name), .slc 0 7 0 ((([] : List ApiColumn) ++ p0.Cols).length) none, .slc 1 1 0 ((([] : List Int) ++ p0.Primary).length) none, .slc 2 6 0 r53.length none, .d (eI p0.Tree)], .d (eApiTable p0)]) (σc := [.row 7 (List.map eApiColumn (([] : List ApiColumn) ++ p0.Cols)) false, .row 1 (List.map eI (([] : List Int) ++ p0.Primary)) false, .row 6 (List.map eApiIndex r53) false]) (σ' := [.box (.d (eApiTable p0)), .box (.agg [.d (eS p0.Name), .slc 2 7 0 ((([] : List ApiColumn) ++ p0.Cols).length) none, .slc 3 1 0 ((([] : List Int) ++ p0.Primary).length) none, .slc 4 6 0 r53.length none, .d (eI p0.Tree)]), .row 7 (List.map eApiColumn (([] : List ApiColumn) ++ p0.Cols)) false, .row 1 (List.map eI (([] : List Int) ++ p0.Primary)) false, .row 6 (List.map eApiIndex r53) false, .box (.agg [.d (eS p0.Name), .slc 2 7 0 ((([] : List ApiColumn) ++ p0.Cols).length) none, .slc 3 1 0 ((([] : List Int) ++ p0.Primary).length) none, .slc 4 6 0 r53.length none, .d (eI p0.Tree)]), .dead, .row 2 (List.map eFanBuilt (([] : List FanBuilt) ++ p1)) false, .dead, .row 3 (List.map eApiValue (([] : List ApiValue) ++ p2)) false, .dead, .row 3 (List.map eApiValue (([] : List ApiValue) ++ p3)) false, .box (.agg [.slc 13 9 0 r59.length none, .slc 14 5 0 r60.length none, .slc 15 4 0 r61.length none]), .row 9 (List.map eForestOp r59) false, .row 5 (List.map eApiLock r60) false, .row 4 (List.map eFanProbe r61) false, .box (.agg [.slc 13 9 0 r59.length none, .slc 14 5 0 r60.length none, .slc 15 4 0 r61.length none]), .box (.agg [.slc 18 9 0 r66.length none, .slc 19 5 0 r67.length none, .slc 20 4 0 r68.length none]), .row 9 (List.map eGranaryref14Op r66) false, .row 5 (List.map eApiLock r67) false, .row 4 (List.map eGranaryref19Probe r68) false, .box (.agg [.slc 18 9 0 r66.length none, .slc 19 5 0 r67.length none, .slc 20 4 0 r68.length none])]) [2, 3, 4] (CallAt.frz (ArgF.frzw (y := .d (eApiTable (ApiTable.mk p0.Name (([] : List ApiColumn) ++ p0.Cols) (([] : List Int) ++ p0.Primary) r53 p0.Tree))) rfl (frzs_d rfl (frzs_slc (fF rfl rfl rfl) (frzs_slc (fF rfl rfl rfl) (frzs_slc (fF rfl rfl rfl) (frzs_d rfl frzs_nil))))) (AW.aggd rfl (AWs.cons (AW.refl _) (AWs.cons (AW.refl _) (AWs.cons (AW.refl _) (AWs.cons (AW.refl _) (AWs.cons (AW.refl _) AWs.nil)))))) (ArgF.keep (ArgF.nil _))) (fm [] (ref17_Same_ok (ApiTable.mk p0.Name (([] : List ApiColumn) ++ p0.Cols) (([] : List Int) ++ p0.Primary) r53 p0.Tree) p0 _ hq79) rfl rfl rfl rfl rfl rfl)) (wb rfl rfl rfl) rfl rfl rfl cb14 rfl rfl rfl rfl rfl rfl ?_))
              exact s1 (pkt rfl rfl) (s1 (asg rfl) (SO.nil ((wc [] [] (by kernel_rfl) rfl (by kernel_rfl)))))
            · have q := si h1; subst q
              exact k1 (wb rfl rfl rfl) (k1 (wb rfl rfl rfl) (k1 (wb rfl rfl rfl) (s1 (pkf rfl rfl) (s1 (asg rfl) (SO.nil ((wc [] [] (by kernel_rfl) rfl (by kernel_rfl))))))))
          · have q := si h1; subst q
            refine k1 (wb rfl rfl rfl) (k1 (wb rfl rfl rfl) (k1 (wb rfl rfl rfl) (s1 (pkf rfl rfl) (s1 (mv rfl) (k1 (wb rfl rfl rfl) (k1 (wb rfl rfl rfl) (k1 (wb rfl rfl rfl) (s1 (pkf rfl rfl) (s1 (asg rfl) ?_)))))))))
            exact SO.nil ((wc [] [] (by kernel_rfl) rfl (by kernel_rfl)))
        · rintro y74 h0
          have q := si h0; subst q
          exact SC.ret (finR (Wk.refl _) (lresT rfl lresN) rfl)
end Lv
