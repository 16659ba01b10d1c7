/- Part of the proof of a law: functions and their walks. -/
import Derived.Test.YtddopjhkmkoicaaDoorXFn0
namespace Lv
open Go Go.Proofs
set_option linter.unusedVariables false
set_option linter.unusedSimpArgs false
set_option linter.unusedSectionVars false
set_option maxRecDepth 100000
variable [BaseTab] [TabOk]
/-- (*granary/fan.Work).do -/
noncomputable def fan_Work_do_1 (p0 : Int) (p1 : ApiMsg) (p2 : List ForestOp) (p3 : List ApiLock) : Option Unit :=
  bif decide ((p2.length + [(ForestOp.mk (1 : Int) p0 p1)].length) * 88 ≤ room) then
  some ()
  else none
theorem fan_Work_do_1_ok (p0 : Int) (p1 : ApiMsg) (p2 : List ForestOp) (p3 : List ApiLock) (r : Unit) (h0 : fan_Work_do_1 p0 p1 p2 p3 = some r) : CallAt Tryd.prog 29 [.ref 0 0 0, .d (eI p0), .d (eApiMsg p1)] [.box (.agg [.slc 1 9 0 p2.length none, .slc 2 5 0 p3.length none, .d .nils]), .row 9 (List.map eForestOp p2) true, .row 5 (List.map eApiLock p3) true] (.tuple []) [.box (.agg [.slc 3 9 0 ((p2 ++ [(ForestOp.mk (1 : Int) p0 p1)]).length) none, .slc 2 5 0 p3.length none, .d .nils]), .dead, .row 5 (List.map eApiLock p3) true, .row 9 (List.map eForestOp (p2 ++ [(ForestOp.mk (1 : Int) p0 p1)])) true] := by
  unfold fan_Work_do_1 at h0
  refine fn0 [0, 1, 2] Tryd.func29 rfl rfl rfl rfl rfl ?_
  obtain ⟨hg2, h0⟩ := gd h0; have q := si h0; subst q
  refine sr (s1 (bxo (k := 3) rfl rfl rfl) (sn (SC.draws (by kernel_rfl) (t1 ([], false) (mv rfl) rfl (t1 ([], false) (mv rfl) rfl (t1 ([], false) (nkr rfl) rfl (t1 ([], false) (far (k := 0) rfl fo50_0 ts46 rfl) rfl (t1 ([0], false) (lod rfl (ld_box ts46 ta46 rfl rfl)) rfl (t1 ([], false) (mv rfl) rfl ?_)))))))))
  refine t1 ([3], false) (lod (v := .d (eApiMsg p1)) rfl (ld_box ts61 ta61 rfl rfl)) rfl (t1 ([], false) (bld rfl (bd63_0_1_2 (1 : Int) p0 p1)) rfl (t1 ([4], true) (bsn (k := 4) (ds := List.map eForestOp [(ForestOp.mk (1 : Int) p0 p1)]) (off := 0) (l' := [(ForestOp.mk (1 : Int) p0 p1)].length) rfl un46 ei63 rfl rfl (by rfl) rfl rfl rfl) rfl (t1 ([1, 4, 5], true) (app rfl rfl rfl rfl bc46 (aF (f := eForestOp) (xs := p2) (k := 5) rfl un46 ei63 rfl (el_full (xs := [(ForestOp.mk (1 : Int) p0 p1)]) rfl) hg2 rfl)) rfl (t1 ([], false) (nkr rfl) rfl (t1 ([], false) (far (k := 0) rfl fo50_0 ts46 rfl) rfl (t0 ([0, 5], true) (sto rfl rfl (sB (d' := .agg [.slc 5 9 0 ((p2 ++ [(ForestOp.mk (1 : Int) p0 p1)]).length) none, .slc 2 5 0 p3.length none, .d .nils]) ts46 rfl rfl rfl rfl rfl rfl rfl)) rfl (ST.nil (And.intro (by decide +kernel) ?_))))))))
  exact finN (wc (e' := []) [0, 1, 2, 5] [0, 1, 2] (by kernel_rfl) rfl (by kernel_rfl)) lresN rfl

/-- (*granary/fan.Work).own -/
noncomputable def fan_Work_own_1 (p0 : Int) (p1 : List UInt8) (p2 : List ForestOp) (p3 : List ApiLock) : Option Unit :=
  Option.bind (fan_Point p1) fun _ =>
  bif decide ((p3.length + [(ApiLock.mk p0 (ApiSpan.mk p1 (p1 ++ ([0] : List UInt8)) false) true)].length) * 56 ≤ room) then
  some ()
  else none
theorem fan_Work_own_1_ok (p0 : Int) (p1 : List UInt8) (p2 : List ForestOp) (p3 : List ApiLock) (r : Unit) (h0 : fan_Work_own_1 p0 p1 p2 p3 = some r) : CallAt Tryd.prog 26 [.ref 0 0 0, .d (eI p0), .d (eS p1)] [.box (.agg [.slc 1 9 0 p2.length none, .slc 2 5 0 p3.length none, .d .nils]), .row 9 (List.map eForestOp p2) true, .row 5 (List.map eApiLock p3) true] (.tuple []) [.box (.agg [.slc 1 9 0 p2.length none, .slc 3 5 0 ((p3 ++ [(ApiLock.mk p0 (ApiSpan.mk p1 (p1 ++ ([0] : List UInt8)) false) true)]).length) none, .d .nils]), .row 9 (List.map eForestOp p2) true, .dead, .row 5 (List.map eApiLock (p3 ++ [(ApiLock.mk p0 (ApiSpan.mk p1 (p1 ++ ([0] : List UInt8)) false) true)])) true] := by
  unfold fan_Work_own_1 at h0
  refine fn0 [0, 1, 2] Tryd.func26 rfl rfl rfl rfl rfl ?_
  obtain ⟨_, hq3, h0⟩ := ob h0; obtain ⟨hg4, h0⟩ := gd h0; have q := si h0; subst q
  refine SC.draws (by kernel_rfl) (t1 ([], false) (mv rfl) rfl (t1 ([], false) (mv rfl) rfl (t1 ([], false) (nkr rfl) rfl (t1 ([], false) (far (k := 1) rfl fo50_1 ts47 rfl) rfl (t1 ([0], false) (lod rfl (ld_box ts47 ta47 rfl rfl)) rfl (t1 ([], false) (mv rfl) rfl (t1 ([], false) (mv rfl) rfl (ta' [] ([3], true) (fan_Point_ok p1 _ hq3) wf rfl rfl rfl cb14 rfl rfl rfl rfl rfl rfl rfl (t1 ([], false) (bld rfl (bd67_0_1_2 p0 (ApiSpan.mk p1 (p1 ++ ([0] : List UInt8)) false) true)) rfl ?_)))))))))
  refine t1 ([4], true) (bsn (k := 4) (ds := List.map eApiLock [(ApiLock.mk p0 (ApiSpan.mk p1 (p1 ++ ([0] : List UInt8)) false) true)]) (off := 0) (l' := [(ApiLock.mk p0 (ApiSpan.mk p1 (p1 ++ ([0] : List UInt8)) false) true)].length) rfl un47 ei67 rfl rfl (by rfl) rfl rfl rfl) rfl (t1 ([2, 4, 5], true) (app rfl rfl rfl rfl bc47 (aF (f := eApiLock) (xs := p3) (k := 5) rfl un47 ei67 rfl (el_full (xs := [(ApiLock.mk p0 (ApiSpan.mk p1 (p1 ++ ([0] : List UInt8)) false) true)]) rfl) hg4 rfl)) rfl (t1 ([], false) (nkr rfl) rfl (t1 ([], false) (far (k := 1) rfl fo50_1 ts47 rfl) rfl (t0 ([0, 5], true) (sto rfl rfl (sB (d' := .agg [.slc 1 9 0 p2.length none, .slc 5 5 0 ((p3 ++ [(ApiLock.mk p0 (ApiSpan.mk p1 (p1 ++ ([0] : List UInt8)) false) true)]).length) none, .d .nils]) ts47 rfl rfl rfl rfl rfl rfl rfl)) rfl (ST.nil (And.intro (by decide +kernel) ?_))))))
  exact finN (wc (e' := []) [0, 1, 2, 5] [0, 1, 2] (by kernel_rfl) rfl (by kernel_rfl)) lresN rfl

/-- (*granary/fan.Work).index$1 -/
noncomputable def fan_Work_index_1 (p0 : ApiMsg) (p1 : ApiIndex) (p2 : List ForestOp) (p3 : List ApiLock) : Option ((List ApiLock)) :=
  Option.bind (fan_Work_do_1 p1.Tree p0 p2 p3) fun _ =>
  bif p1.Ready then
    Option.bind (fan_Work_own_1 p1.Tree p0.Key (p2 ++ [(ForestOp.mk (1 : Int) p1.Tree p0)]) p3) fun _ =>
    some (p3 ++ [(ApiLock.mk p1.Tree (ApiSpan.mk p0.Key (p0.Key ++ ([0] : List UInt8)) false) true)])
  else
    some p3
theorem fan_Work_index_1_ok (p0 : ApiMsg) (p1 : ApiIndex) (p2 : List ForestOp) (p3 : List ApiLock) (r : (List ApiLock)) (h0 : fan_Work_index_1 p0 p1 p2 p3 = some r) : CallAt Tryd.prog 43 [.d (eApiMsg p0), .ref 0 0 0, .ref 1 0 0] [.box (.ref 2 0 0), .box (.d (eApiIndex p1)), .box (.agg [.slc 3 9 0 p2.length none, .slc 4 5 0 p3.length none, .d .nils]), .row 9 (List.map eForestOp p2) true, .row 5 (List.map eApiLock p3) true] (.tuple []) [.box (.ref 2 0 0), .box (.d (eApiIndex p1)), .box (.agg [.slc 5 9 0 ((p2 ++ [(ForestOp.mk (1 : Int) p1.Tree p0)]).length) none, .slc 6 5 0 r.length none, .d .nils]), .dead, .dead, .row 9 (List.map eForestOp (p2 ++ [(ForestOp.mk (1 : Int) p1.Tree p0)])) true, .row 5 (List.map eApiLock r) true] := by
  unfold fan_Work_index_1 at h0
  refine fn0 [0, 1, 2] Tryd.func43 rfl rfl rfl rfl rfl ?_
  obtain ⟨_, hq4, h0⟩ := ob h0
  refine sr (s1 (bxo (k := 5) rfl rfl rfl) (sn (sr (s1 (lod rfl (ld_box ts111 ta111 rfl rfl)) (s1 (far (k := 5) rfl fo42_5 ts3 rfl) (s1 (lod rfl (ld_box ts3 ta3 rfl rfl)) (s1 (lod (v := .d (eApiMsg p0)) rfl (ld_box ts61 ta61 rfl rfl)) (ca (σ' := [.box (.ref 2 0 0), .box (.d (eApiIndex p1)), .box (.agg [.slc 6 9 0 ((p2 ++ [(ForestOp.mk (1 : Int) p1.Tree p0)]).length) none, .slc 4 5 0 p3.length none, .d .nils]), .dead, .row 5 (List.map eApiLock p3) true, .box (.d (eApiMsg p0)), .row 9 (List.map eForestOp (p2 ++ [(ForestOp.mk (1 : Int) p1.Tree p0)])) true]) [2, 3, 4] (fan_Work_do_1_ok p1.Tree p0 p2 p3 _ hq4) wf rfl rfl rfl cb29 rfl rfl rfl rfl rfl rfl (sn ?_)))))))))
  refine sr (s1 (far (k := 4) rfl fo42_4 ts4 rfl) (s1 (lod rfl (ld_box ts4 ta4 rfl rfl)) (sn (cB h0 rfl (fun h0 => ?_) (fun h0 => ?_)))))
  · obtain ⟨_, hq5, h0⟩ := ob h0; have q := si h0; subst q
    exact SC.region (s1 (lod rfl (ld_box ts111 ta111 rfl rfl)) (s1 (far (k := 5) rfl fo42_5 ts3 rfl) (s1 (lod rfl (ld_box ts3 ta3 rfl rfl)) (s1 (far (k := 2) rfl fo61_2 ts9 rfl) (s1 (lod rfl (ld_box ts9 ta9 rfl rfl)) (ca (σ' := [.box (.ref 2 0 0), .box (.d (eApiIndex p1)), .box (.agg [.slc 6 9 0 ((p2 ++ [(ForestOp.mk (1 : Int) p1.Tree p0)]).length) none, .slc 7 5 0 ((p3 ++ [(ApiLock.mk p1.Tree (ApiSpan.mk p0.Key (p0.Key ++ ([0] : List UInt8)) false) true)]).length) none, .d .nils]), .dead, .dead, .box (.d (eApiMsg p0)), .row 9 (List.map eForestOp (p2 ++ [(ForestOp.mk (1 : Int) p1.Tree p0)])) true, .row 5 (List.map eApiLock (p3 ++ [(ApiLock.mk p1.Tree (ApiSpan.mk p0.Key (p0.Key ++ ([0] : List UInt8)) false) true)])) true]) [2, 6, 4] (fan_Work_own_1_ok p1.Tree p0.Key (p2 ++ [(ForestOp.mk (1 : Int) p1.Tree p0)]) p3 _ hq5) wf rfl rfl rfl cb26 rfl rfl rfl rfl rfl rfl (SO.nil (finN (Wk.trans (wq (e' := []) rfl) (wc (e' := []) [0, 1, 2, 3, 4, 6, 7] [0, 1, 2, 3, 4] (by kernel_rfl) rfl (by kernel_rfl))) lresN rfl))))))))
  · have q := si h0; subst q
    exact SC.skip (finN (Wk.trans (wq (e' := []) rfl) (Wk.trans (Wk.move (e' := []) (os := [.box (.ref 2 0 0), .box (.d (eApiIndex p1)), .box (.agg [.slc 6 9 0 ((p2 ++ [(ForestOp.mk (1 : Int) p1.Tree p0)]).length) none, .slc 7 5 0 p3.length none, .d .nils]), .dead, .row 5 (List.map eApiLock p3) true, .box (.d (eApiMsg p0)), .row 9 (List.map eForestOp (p2 ++ [(ForestOp.mk (1 : Int) p1.Tree p0)])) true]) (o := .row 5 (List.map eApiLock p3) true) (σ' := [.box (.ref 2 0 0), .box (.d (eApiIndex p1)), .box (.agg [.slc 6 9 0 ((p2 ++ [(ForestOp.mk (1 : Int) p1.Tree p0)]).length) none, .slc 7 5 0 p3.length none, .d .nils]), .dead, .dead, .box (.d (eApiMsg p0)), .row 9 (List.map eForestOp (p2 ++ [(ForestOp.mk (1 : Int) p1.Tree p0)])) true, .row 5 (List.map eApiLock p3) true]) 4 (Nat.le_of_ble_eq_true rfl) rfl rfl rfl rfl) (wc (e' := []) [0, 1, 2, 3, 4, 6, 7] [0, 1, 2, 3, 4] (by kernel_rfl) rfl (by kernel_rfl)))) lresN rfl)

/-- granary/key.After -/
noncomputable def key_After (p0 : List UInt8) : Option ((List UInt8) × Bool) :=
  Option.bind (α := Nat)
    (Option.bind (α := Nat)
      (loop (Y := Nat) (W := Nat) (fun y75 =>
        Option.bind (α := Bool)
          (bif (decide ((y75 : Int) > (0 : Int))) then
            Option.bind (getS p0 0 y75 (w64 ((y75 : Int) - (1 : Int)))) fun v87 =>
            some (v87 == (255 : UInt8))
          else
            some false)
          fun y85 =>
        bif y85 then
          bif decide (0 ≤ (w64 ((y75 : Int) - (1 : Int))) ∧ (w64 ((y75 : Int) - (1 : Int))) ≤ (y75 : Int)) then
          some (Sum.inl ((w64 ((y75 : Int) - (1 : Int))).toNat))
          else none
        else
          some (Sum.inr y75)) p0.length)
      (fun e => some e))
    fun y68 =>
  bif ((y68 : Int) == (0 : Int)) then
    some (([] : List UInt8), false)
  else
    Option.bind (getS p0 0 y68 (w64 ((y68 : Int) - (1 : Int)))) fun v90 =>
    Option.bind (getS p0 0 y68 (w64 ((y68 : Int) - (1 : Int)))) fun v91 =>
    bif decide (0 + y68 ≤ (List.set p0 ((w64 ((y68 : Int) - (1 : Int))).toNat) (v90 + (1 : UInt8))).length) then
    some ((List.take y68 (List.drop 0 (List.set p0 ((w64 ((y68 : Int) - (1 : Int))).toNat) (v90 + (1 : UInt8))))), true)
    else none
theorem key_After_ok (p0 : List UInt8) (r : (List UInt8) × Bool) (h0 : key_After p0 = some r) : CallAt Tryd.prog 59 [.d (eS p0)] [] (.tuple [.d (eS r.1), .d (eB r.2)]) [] := by
  unfold key_After at h0
  refine fn0 [0] Tryd.func59 rfl rfl rfl rfl rfl ?_
  refine sr (s1 (asg (v := .d (eS ([] : List UInt8))) rfl) (s1 (asg rfl) (sn (sr (s1 (mv rfl) (s1 (cvs (s := p0) (k := 0) rfl un9 un112 un5 ts5 rfl) (s1 (asg rfl) (sn (SC.seqP h0 (fun y => ⟨mk 37 [(4, .slc 0 1 0 y none)], [.row 1 (List.map eU8 p0) true]⟩) ?_ ?_)))))))))
  · intro u1_69 h1
    obtain ⟨u2_83, h2, h1⟩ := ob h1
    refine SC.blk (SC.loopB h2 (fun y => ⟨mk 37 [(4, .slc 0 1 0 y none)], [.row 1 (List.map eU8 p0) true]⟩) (wq rfl) ?_)
    intro n89
    rintro y75 w2_82 h3 hv3
    refine sq (SC.seqP h3 (fun y => ⟨mk 37 [(4, .slc 0 1 0 y75 none), (18, .d (eB y))], [.row 1 (List.map eU8 p0) true]⟩) ?_ ?_)
    · intro u4_86 h4
      refine SC.region (s1 (mv rfl) (s1 (len rfl rfl rfl (len_slc un112)) (s1 (bi rfl rfl q_i64_gtr) (s1 (mv rfl) (sp h4 (fun h4 => ?_) (fun h4 => ?_))))))
      · obtain ⟨v87, hv87, h4⟩ := ob h4; have q := si h4; subst q
        exact g1 (wb rfl rfl rfl) (mv rfl) (g1 (wb rfl rfl rfl) (mv rfl) (g1 (wb rfl rfl rfl) (len rfl rfl rfl (len_slc un112)) (g1 (wb rfl rfl rfl) (bi rfl rfl q_i64_sub) (g1 (wb rfl rfl rfl) (iaz rfl rfl un112 ts5 (getS_some hv87).1) (g1 (wb rfl rfl rfl) (lod rfl (ld_row ts5 ta5 rfl (map_get (by have q := (getS_some hv87).2; simpa using q)) rfl)) (g1 (wb rfl rfl rfl) (bi rfl rfl (q_u8_eql (b := (255 : UInt8)))) (s1 (pkt rfl rfl) (SO.nil ((wq rfl))))))))))
      · have q := si h4; subst q
        exact k1 (wb rfl rfl rfl) (k1 (wb rfl rfl rfl) (k1 (wb rfl rfl rfl) (k1 (wb rfl rfl rfl) (k1 (wb rfl rfl rfl) (k1 (wb rfl rfl rfl) (k1 (wb rfl rfl rfl) (s1 (pkf rfl rfl) (SO.nil ((wq rfl))))))))))
    · rintro y85 h3
      refine cB h3 rfl (fun h3 => ?_) (fun h3 => ?_)
      · obtain ⟨hg88, h3⟩ := gd h3; have q := si h3; subst q
        refine sk (SC.blk (SC.region (s1 (mv rfl) (s1 (mv rfl) (s1 (len rfl rfl rfl (len_slc un112)) (s1 (bi rfl rfl q_i64_sub) (s1 (slo rfl rfl rfl rfl (sl_slc_hi un112 ts5 hg88)) (s1 (asg rfl) (SO.nil ?_)))))))))
        exact lf (wq rfl)
      · have q := si h3; subst q; have q : _ = _ := hv3; subst q; have q := si h1; subst q
        exact SC.exit ((wq rfl))
  · rintro y68 h0
    refine sq (sr (s1 (mv rfl) (s1 (len rfl rfl rfl (len_slc un112)) (s1 (bi rfl rfl q_i64_eql) (sn (cB h0 rfl (fun h0 => ?_) (fun h0 => ?_)))))))
    · have q := si h0; subst q
      exact sr (s1 (asg (v := .d (eS ([] : List UInt8))) rfl) (s1 (asg rfl) (sn (SC.ret (finR (wc (e' := [(2, .d (eS ([] : List UInt8))), (3, .d (eB false))]) [] [] (by kernel_rfl) rfl (by kernel_rfl)) (lresT rfl (lresT rfl lresN)) rfl)))))
    · obtain ⟨v90, hv90, h0⟩ := ob h0; obtain ⟨v91, hv91, h0⟩ := ob h0; obtain ⟨hg92, h0⟩ := gd h0; have q := si h0; subst q
      refine sk (sr (s1 (mv rfl) (s1 (mv rfl) (s1 (len rfl rfl rfl (len_slc un112)) (s1 (bi rfl rfl q_i64_sub) (s1 (iaz rfl rfl un112 ts5 (getS_some hv90).1) (s1 (lod rfl (ld_row ts5 ta5 rfl (map_get (by have q := (getS_some hv90).2; simpa using q)) rfl)) (s1 (bi rfl rfl (q_u8_add (b := (1 : UInt8)))) (s1 (iaz rfl rfl un112 ts5 (getS_some hv91).1) ?_)))))))))
      exact s0 (sto (b := .d (eU8 (v90 + (1 : UInt8)))) rfl rfl (sR (f := eU8) (v := (v90 + (1 : UInt8))) ts5 rfl rfl rfl rfl (by have q := (getS_some hv91).2; simpa using q) rfl rfl)) (sn (sr (s1 (mv rfl) (s1 (cvo (v := .d (eS (List.take y68 (List.drop 0 (List.set p0 ((w64 ((y68 : Int) - (1 : Int))).toNat) (v90 + (1 : UInt8))))))) rfl (cv_bytes_str un112 un9 un5 (el_slc (xs := (List.set p0 ((w64 ((y68 : Int) - (1 : Int))).toNat) (v90 + (1 : UInt8)))) rfl hg92) (fun _ hh => by cases hh))) (s1 (asg rfl) (s1 (asg rfl) (sn (SC.ret (finR (wc (e' := [(2, .d (eS (List.take y68 (List.drop 0 (List.set p0 ((w64 ((y68 : Int) - (1 : Int))).toNat) (v90 + (1 : UInt8))))))), (3, .d (eB true))]) [] [] (by kernel_rfl) rfl (by kernel_rfl)) (lresT rfl (lresT rfl lresN)) rfl)))))))))

/-- granary/key.Under -/
noncomputable def key_Under (p0 : List UInt8) : Option ApiSpan :=
  Option.bind (key_After p0) fun (r5, r6) =>
  some (ApiSpan.mk p0 r5 (!r6))
theorem key_Under_ok (p0 : List UInt8) (r : ApiSpan) (h0 : key_Under p0 = some r) : CallAt Tryd.prog 44 [.d (eS p0)] [] (.d (eApiSpan r)) [.box (.d (eApiSpan r))] := by
  unfold key_Under at h0
  refine fn0 [0] Tryd.func44 rfl rfl rfl rfl rfl ?_
  obtain ⟨⟨r5, r6⟩, hq7, h0⟩ := ob h0; have q := si h0; subst q
  refine sr (s1 (alo (k := 0) zo65 rfl) (sn (sr (s1 (mv rfl) (c0 (key_After_ok p0 _ hq7) wf rfl rfl rfl cb59 rfl (fun _ => rfl) (fun _ => rfl) (s1 (mv rfl) (s1 (ext rfl rfl) (s1 (ext rfl rfl) (s1 (asg rfl) ?_)))))))))
  refine s1 (asg rfl) (sn (sr (s1 (mv rfl) (s1 (mv rfl) (s1 (mv rfl) (s1 (nt rfl) (s1 (bld rfl (bd65_0_1_2 p0 r5 (!r6))) (s0 (sto rfl rfl (sB (d' := .d (eApiSpan (ApiSpan.mk p0 r5 (!r6)))) ts65 rfl rfl rfl rfl rfl rfl rfl)) (sn ?_)))))))))
  exact SC.ret (finR (Wk.refl _) (lresC rfl (ld_box ts65 ta65 rfl rfl) lresN) rfl)

/-- (*granary/fan.Work).index -/
noncomputable def fan_Work_index (p0 : ApiTable) (p1 : ApiIndex) (p2 : FanSide) (p3 : FanSide) (p4 : List ForestOp) (p5 : List ApiLock) : Option ((List ForestOp) × (List ApiLock) × (List FanProbe)) :=
  Option.bind (α := (List UInt8) × ApiPair)
    (Option.bind (fan_side_there p2) fun _ =>
    bif (decide ((p2.row.length : Int) > (0 : Int))) then
      Option.bind (schema_Entry p0 p1 p2.row) fun (r81, r82) =>
      Option.bind (schema_Front p0 p1 p2.row) fun (r84, r85, r86) =>
      some (r84, r82)
    else
      some (([] : List UInt8), (ApiPair.mk ([] : List UInt8) ([] : List UInt8))))
    fun (y77, y78) =>
  Option.bind (α := (List UInt8) × Bool × ApiPair)
    (Option.bind (fan_side_there p3) fun _ =>
    bif (decide ((p3.row.length : Int) > (0 : Int))) then
      Option.bind (schema_Entry p0 p1 p3.row) fun (r101, r102) =>
      Option.bind (schema_Front p0 p1 p3.row) fun (r104, r105, r106) =>
      some (r104, r105, r102)
    else
      some (([] : List UInt8), false, (ApiPair.mk ([] : List UInt8) ([] : List UInt8))))
    fun (y96, y97, y98) =>
  bif (eqApiPair y78 y98) then
    some (p4, p5, ([] : List FanProbe))
  else
    Option.bind (α := (List ForestOp) × (List ApiLock))
      (Option.bind (α := Bool)
        (Option.bind (fan_side_there p2) fun _ =>
        bif (decide ((p2.row.length : Int) > (0 : Int))) then
          some (y78.Key != y98.Key)
        else
          some false)
        fun y118 =>
      bif y118 then
        Option.bind (fan_Work_index_1 (ApiMsg.mk (0 : UInt64) (2 : Int) y78.Key (0 : UInt64) ([] : List UInt8) (0 : Int) (0 : UInt64)) p1 p4 p5) fun r121 =>
        some ((p4 ++ [(ForestOp.mk (1 : Int) p1.Tree (ApiMsg.mk (0 : UInt64) (2 : Int) y78.Key (0 : UInt64) ([] : List UInt8) (0 : Int) (0 : UInt64)))]), r121)
      else
        some (p4, p5))
      fun (y114, y115) =>
    Option.bind (fan_side_there p3) fun _ =>
    bif (!(decide ((p3.row.length : Int) > (0 : Int)))) then
      some (y114, y115, ([] : List FanProbe))
    else
      Option.bind (fan_Work_index_1 (ApiMsg.mk (0 : UInt64) (1 : Int) y98.Key (0 : UInt64) y98.Val (0 : Int) (0 : UInt64)) p1 y114 y115) fun r124 =>
      Option.bind (α := Bool)
        (bif p1.Ready then
          bif p1.Unique then
            bif (!y97) then
              Option.bind (fan_side_there p2) fun _ =>
              bif (decide ((p2.row.length : Int) > (0 : Int))) then
                some (!(y77 == y96))
              else
                some true
            else
              some false
          else
            some false
        else
          some false)
        fun y127 =>
      bif y127 then
        Option.bind (key_Under y96) fun r130 =>
        bif decide ((r124.length + [(ApiLock.mk p1.Tree r130 false)].length) * 56 ≤ room) then
        bif decide ([(FanProbe.mk p1.Tree r130)].length * 48 ≤ room) then
        some ((y114 ++ [(ForestOp.mk (1 : Int) p1.Tree (ApiMsg.mk (0 : UInt64) (1 : Int) y98.Key (0 : UInt64) y98.Val (0 : Int) (0 : UInt64)))]), (r124 ++ [(ApiLock.mk p1.Tree r130 false)]), [(FanProbe.mk p1.Tree r130)])
        else none
        else none
      else
        some ((y114 ++ [(ForestOp.mk (1 : Int) p1.Tree (ApiMsg.mk (0 : UInt64) (1 : Int) y98.Key (0 : UInt64) y98.Val (0 : Int) (0 : UInt64)))]), r124, ([] : List FanProbe))
theorem fan_Work_index_ok (p0 : ApiTable) (p1 : ApiIndex) (p2 : FanSide) (p3 : FanSide) (p4 : List ForestOp) (p5 : List ApiLock) (r : (List ForestOp) × (List ApiLock) × (List FanProbe)) (h0 : fan_Work_index p0 p1 p2 p3 p4 p5 = some r) : CallAt Tryd.prog 30 [.ref 0 0 0, .d (eApiTable p0), .d (eApiIndex p1), .d (eFanSide p2), .d (eFanSide p3)] [.box (.agg [.slc 1 9 0 p4.length none, .slc 2 5 0 p5.length none, .d .nils]), .row 9 (List.map eForestOp p4) true, .row 5 (List.map eApiLock p5) true] (.tuple []) [.box (.agg [.slc 3 9 0 r.1.length none, .slc 4 5 0 r.2.1.length none, .slc 5 4 0 r.2.2.length none]), .dead, .dead, .row 9 (List.map eForestOp r.1) true, .row 5 (List.map eApiLock r.2.1) true, .row 4 (List.map eFanProbe r.2.2) true] := by
  unfold fan_Work_index at h0
  refine fn0 [0, 1, 2, 3, 4] Tryd.func30 rfl rfl rfl rfl rfl ?_
  refine sr (s1 (bxo (k := 3) rfl rfl rfl) (s1 (bxo (k := 4) rfl rfl rfl) (s1 (bxo (k := 5) rfl rfl rfl) (s1 (bxo (k := 6) rfl rfl rfl) (s1 (bxo (k := 7) rfl rfl rfl) (sn (sr (s1 (alo (k := 8) zo99 rfl) (s1 (alo (k := 9) zo99 rfl) ?_)))))))))
  refine sn (sr (s1 (asg (v := .d (eS ([] : List UInt8))) rfl) (s1 (asg (v := .d (eS ([] : List UInt8))) rfl) (sn (sr (s1 (asg rfl) (sn (SC.seqP h0 (fun y => ⟨mk 131 [(5, .ref 3 0 0), (6, .ref 4 0 0), (7, .ref 5 0 0), (8, .ref 6 0 0), (9, .ref 7 0 0), (10, .ref 8 0 0), (11, .ref 9 0 0), (12, .d (eS y.1)), (13, .d (eS ([] : List UInt8))), (14, .d (eB false))], [.box (.agg [.slc 1 9 0 p4.length none, .slc 2 5 0 p5.length none, .d .nils]), .row 9 (List.map eForestOp p4) true, .row 5 (List.map eApiLock p5) true, .box (.ref 0 0 0), .box (.d (eApiTable p0)), .box (.d (eApiIndex p1)), .box (.d (eFanSide p2)), .box (.d (eFanSide p3)), .box (.d (eApiPair y.2)), .box (.d (eApiPair (ApiPair.mk ([] : List UInt8) ([] : List UInt8))))]⟩) ?_ ?_))))))))
  · intro u1_79 h1
    obtain ⟨_, hq80, h1⟩ := ob h1
    refine sr (s1 (lod (v := .d (eFanSide p2)) rfl (ld_box ts87 ta87 rfl rfl)) (c0 (fan_side_there_ok p2 _ hq80) wf rfl rfl rfl cb25 rfl (fun _ => rfl) (fun _ => rfl) (sn (cB h1 rfl (fun h1 => ?_) (fun h1 => ?_)))))
    · obtain ⟨⟨r81, r82⟩, hq83, h1⟩ := ob h1; obtain ⟨⟨r84, r85, r86⟩, hq87, h1⟩ := ob h1; have q := si h1; subst q
      refine sr (s1 (lod (v := .d (eApiTable p0)) rfl (ld_box ts26 ta26 rfl rfl)) (s1 (lod (v := .d (eApiIndex p1)) rfl (ld_box ts42 ta42 rfl rfl)) (s1 (far (k := 0) rfl fo87_0 ts43 rfl) (s1 (lod rfl (ld_box ts43 ta43 rfl rfl)) (ca [] (schema_Entry_ok p0 p1 p2.row _ hq83) wf rfl rfl rfl cb32 rfl rfl rfl rfl rfl rfl (s1 (mv rfl) (s1 (ext rfl rfl) (s1 (ext rfl rfl) (s0 (sto rfl rfl (sB (d' := .d (eApiPair r82)) ts99 rfl rfl rfl rfl rfl rfl rfl)) ?_)))))))))
      refine sn (SC.region (s1 (lod (v := .d (eApiTable p0)) rfl (ld_box ts26 ta26 rfl rfl)) (s1 (lod (v := .d (eApiIndex p1)) rfl (ld_box ts42 ta42 rfl rfl)) (s1 (far (k := 0) rfl fo87_0 ts43 rfl) (s1 (lod rfl (ld_box ts43 ta43 rfl rfl)) (c0 (schema_Front_ok p0 p1 p2.row _ hq87) wf rfl rfl rfl cb42 rfl (fun _ => rfl) (fun _ => rfl) (s1 (mv rfl) (s1 (ext rfl rfl) (s1 (ext rfl rfl) ?_)))))))))
      exact s1 (ext rfl rfl) (s1 (asg rfl) (SO.nil ((wc [0, 1, 2, 3, 4, 5, 6, 7, 8, 9] [0, 1, 2, 3, 4, 5, 6, 7, 8, 9] (by kernel_rfl) rfl (by kernel_rfl)))))
    · have q := si h1; subst q
      exact SC.skip ((wq rfl))
  · rintro ⟨y77, y78⟩ h0
    refine SC.seqP h0 (fun y => ⟨mk 131 [(5, .ref 3 0 0), (7, .ref 4 0 0), (8, .ref 5 0 0), (9, .ref 6 0 0), (10, .ref 7 0 0), (11, .ref 8 0 0), (12, .d (eS y77)), (13, .d (eS y.1)), (14, .d (eB y.2.1))], [.box (.agg [.slc 1 9 0 p4.length none, .slc 2 5 0 p5.length none, .d .nils]), .row 9 (List.map eForestOp p4) true, .row 5 (List.map eApiLock p5) true, .box (.ref 0 0 0), .box (.d (eApiIndex p1)), .box (.d (eFanSide p2)), .box (.d (eFanSide p3)), .box (.d (eApiPair y78)), .box (.d (eApiPair y.2.2))]⟩) ?_ ?_
    · intro u1_99 h1
      obtain ⟨_, hq100, h1⟩ := ob h1
      refine sr (s1 (lod (v := .d (eFanSide p3)) rfl (ld_box ts87 ta87 rfl rfl)) (c0 (fan_side_there_ok p3 _ hq100) wf rfl rfl rfl cb25 rfl (fun _ => rfl) (fun _ => rfl) (sn (cB h1 rfl (fun h1 => ?_) (fun h1 => ?_)))))
      · obtain ⟨⟨r101, r102⟩, hq103, h1⟩ := ob h1; obtain ⟨⟨r104, r105, r106⟩, hq107, h1⟩ := ob h1; have q := si h1; subst q
        refine sr (s1 (lod (v := .d (eApiTable p0)) rfl (ld_box ts26 ta26 rfl rfl)) (s1 (lod (v := .d (eApiIndex p1)) rfl (ld_box ts42 ta42 rfl rfl)) (s1 (far (k := 0) rfl fo87_0 ts43 rfl) (s1 (lod rfl (ld_box ts43 ta43 rfl rfl)) (ca [] (schema_Entry_ok p0 p1 p3.row _ hq103) wf rfl rfl rfl cb32 rfl rfl rfl rfl rfl rfl (s1 (mv rfl) (s1 (ext rfl rfl) (s1 (ext rfl rfl) (s0 (sto rfl rfl (sB (d' := .d (eApiPair r102)) ts99 rfl rfl rfl rfl rfl rfl rfl)) ?_)))))))))
        refine sn (SC.region (s1 (lod (v := .d (eApiTable p0)) rfl (ld_box ts26 ta26 rfl rfl)) (s1 (lod (v := .d (eApiIndex p1)) rfl (ld_box ts42 ta42 rfl rfl)) (s1 (far (k := 0) rfl fo87_0 ts43 rfl) (s1 (lod rfl (ld_box ts43 ta43 rfl rfl)) (c0 (schema_Front_ok p0 p1 p3.row _ hq107) wf rfl rfl rfl cb42 rfl (fun _ => rfl) (fun _ => rfl) (s1 (mv rfl) (s1 (ext rfl rfl) (s1 (ext rfl rfl) ?_)))))))))
        exact s1 (ext rfl rfl) (s1 (asg rfl) (s1 (asg rfl) (SO.nil ((wc [0, 1, 2, 3, 5, 6, 7, 8, 9] [0, 1, 2, 3, 5, 6, 7, 8, 9] (by kernel_rfl) rfl (by kernel_rfl))))))
      · have q := si h1; subst q
        exact SC.skip ((wc [0, 1, 2, 3, 5, 6, 7, 8, 9] [0, 1, 2, 3, 5, 6, 7, 8, 9] (by kernel_rfl) rfl (by kernel_rfl)))
    · rintro ⟨y96, y97, y98⟩ h0
      refine sr (s1 (mkf rfl rfl) (s1 (asg rfl) (sn (sq (sr (s1 (lod (v := .d (eApiPair y78)) rfl (ld_box ts99 ta99 rfl rfl)) (s1 (lod (v := .d (eApiPair y98)) rfl (ld_box ts99 ta99 rfl rfl)) (s1 (bi (v := .d (eB (eqApiPair y78 y98))) rfl rfl (fun X Y => eqApiPair_eql_99 X Y y78 y98)) (sn ?_)))))))))
      refine cB h0 rfl (fun h0 => ?_) (fun h0 => ?_)
      · have q := si h0; subst q
        exact SC.ret (finR (Wk.trans (wq (e' := []) rfl) (Wk.trans (Wk.pushE (σ' := [.box (.agg [.slc 1 9 0 p4.length none, .slc 2 5 0 p5.length none, .d .nils]), .row 9 (List.map eForestOp p4) true, .row 5 (List.map eApiLock p5) true, .box (.ref 0 0 0), .box (.d (eApiIndex p1)), .box (.d (eFanSide p2)), .box (.d (eFanSide p3)), .box (.d (eApiPair y78)), .box (.d (eApiPair y98)), .row 4 (List.map eFanProbe ([] : List FanProbe)) true]) (.row 4 [] true) (fun _ hh => by cases hh) rfl) (Wk.trans (Wk.boxE (id := 0) (y := .agg [.slc 1 9 0 p4.length none, .slc 2 5 0 p5.length none, .slc 9 4 0 (([] : List FanProbe).length) none]) (σ' := [.box (.agg [.slc 1 9 0 p4.length none, .slc 2 5 0 p5.length none, .slc 9 4 0 (([] : List FanProbe).length) none]), .row 9 (List.map eForestOp p4) true, .row 5 (List.map eApiLock p5) true, .box (.ref 0 0 0), .box (.d (eApiIndex p1)), .box (.d (eFanSide p2)), .box (.d (eFanSide p3)), .box (.d (eApiPair y78)), .box (.d (eApiPair y98)), .row 4 (List.map eFanProbe ([] : List FanProbe)) true]) rfl (AWs.cons (AW.refl _) (AWs.cons (AW.refl _) (AWs.cons (AW.slcn _ _ _) AWs.nil))) rfl) (Wk.trans (Wk.move (e' := []) (os := [.box (.agg [.slc 10 9 0 p4.length none, .slc 2 5 0 p5.length none, .slc 9 4 0 (([] : List FanProbe).length) none]), .row 9 (List.map eForestOp p4) true, .row 5 (List.map eApiLock p5) true, .box (.ref 0 0 0), .box (.d (eApiIndex p1)), .box (.d (eFanSide p2)), .box (.d (eFanSide p3)), .box (.d (eApiPair y78)), .box (.d (eApiPair y98)), .row 4 (List.map eFanProbe ([] : List FanProbe)) true]) (o := .row 9 (List.map eForestOp p4) true) (σ' := [.box (.agg [.slc 10 9 0 p4.length none, .slc 2 5 0 p5.length none, .slc 9 4 0 (([] : List FanProbe).length) none]), .dead, .row 5 (List.map eApiLock p5) true, .box (.ref 0 0 0), .box (.d (eApiIndex p1)), .box (.d (eFanSide p2)), .box (.d (eFanSide p3)), .box (.d (eApiPair y78)), .box (.d (eApiPair y98)), .row 4 (List.map eFanProbe ([] : List FanProbe)) true, .row 9 (List.map eForestOp p4) true]) 1 (Nat.le_of_ble_eq_true rfl) rfl rfl rfl rfl) (Wk.trans (Wk.move (e' := []) (os := [.box (.agg [.slc 10 9 0 p4.length none, .slc 11 5 0 p5.length none, .slc 9 4 0 (([] : List FanProbe).length) none]), .dead, .row 5 (List.map eApiLock p5) true, .box (.ref 0 0 0), .box (.d (eApiIndex p1)), .box (.d (eFanSide p2)), .box (.d (eFanSide p3)), .box (.d (eApiPair y78)), .box (.d (eApiPair y98)), .row 4 (List.map eFanProbe ([] : List FanProbe)) true, .row 9 (List.map eForestOp p4) true]) (o := .row 5 (List.map eApiLock p5) true) (σ' := [.box (.agg [.slc 10 9 0 p4.length none, .slc 11 5 0 p5.length none, .slc 9 4 0 (([] : List FanProbe).length) none]), .dead, .dead, .box (.ref 0 0 0), .box (.d (eApiIndex p1)), .box (.d (eFanSide p2)), .box (.d (eFanSide p3)), .box (.d (eApiPair y78)), .box (.d (eApiPair y98)), .row 4 (List.map eFanProbe ([] : List FanProbe)) true, .row 9 (List.map eForestOp p4) true, .row 5 (List.map eApiLock p5) true]) 2 (Nat.le_of_ble_eq_true rfl) rfl rfl rfl rfl) (wc (e' := []) [0, 1, 2, 10, 11, 9] [0, 1, 2] (by kernel_rfl) rfl (by kernel_rfl))))))) lresN rfl)
      · refine sk (SC.seqP h0 (fun y => ⟨mk 131 [(5, .ref 3 0 0), (7, .ref 4 0 0), (8, .ref 5 0 0), (9, .ref 6 0 0), (11, .ref 7 0 0), (12, .d (eS y77)), (13, .d (eS y96)), (14, .d (eB y97)), (15, .fn (.func 43) [] [.ref 3 0 0, .ref 4 0 0])], [.box (.agg [.slc 8 9 0 y.1.length none, .slc 9 5 0 y.2.length none, .d .nils]), .dead, .dead, .box (.ref 0 0 0), .box (.d (eApiIndex p1)), .box (.d (eFanSide p2)), .box (.d (eFanSide p3)), .box (.d (eApiPair y98)), .row 9 (List.map eForestOp y.1) true, .row 5 (List.map eApiLock y.2) true]⟩) ?_ ?_)
        · intro u1_116 h1
          refine SC.seqP h1 (fun y => ⟨mk 131 [(5, .ref 3 0 0), (7, .ref 4 0 0), (8, .ref 5 0 0), (9, .ref 6 0 0), (10, .ref 7 0 0), (11, .ref 8 0 0), (12, .d (eS y77)), (13, .d (eS y96)), (14, .d (eB y97)), (15, .fn (.func 43) [] [.ref 3 0 0, .ref 4 0 0]), (67, .d (eB y))], [.box (.agg [.slc 1 9 0 p4.length none, .slc 2 5 0 p5.length none, .d .nils]), .row 9 (List.map eForestOp p4) true, .row 5 (List.map eApiLock p5) true, .box (.ref 0 0 0), .box (.d (eApiIndex p1)), .box (.d (eFanSide p2)), .box (.d (eFanSide p3)), .box (.d (eApiPair y78)), .box (.d (eApiPair y98))]⟩) ?_ ?_
          · intro u2_119 h2
            obtain ⟨_, hq120, h2⟩ := ob h2
            refine SC.region (s1 (lod (v := .d (eFanSide p2)) rfl (ld_box ts87 ta87 rfl rfl)) (c0 (fan_side_there_ok p2 _ hq120) wf rfl rfl rfl cb25 rfl (fun _ => rfl) (fun _ => rfl) (s1 (mv rfl) (sp h2 (fun h2 => ?_) (fun h2 => ?_)))))
            · have q := si h2; subst q
              exact g1 (wb rfl rfl rfl) (far (k := 0) rfl fo99_0 ts9 rfl) (g1 (wb rfl rfl rfl) (lod rfl (ld_box ts9 ta9 rfl rfl)) (g1 (wb rfl rfl rfl) (far (k := 0) rfl fo99_0 ts9 rfl) (g1 (wb rfl rfl rfl) (lod rfl (ld_box ts9 ta9 rfl rfl)) (g1 (wb rfl rfl rfl) (bi rfl rfl q_str_neq) (s1 (pkt rfl rfl) (SO.nil ((wq rfl))))))))
            · have q := si h2; subst q
              exact k1 (wb rfl rfl rfl) (k1 (wb rfl rfl rfl) (k1 (wb rfl rfl rfl) (k1 (wb rfl rfl rfl) (k1 (wb rfl rfl rfl) (s1 (pkf rfl rfl) (SO.nil ((wq rfl))))))))
          · rintro y118 h1
            refine cB h1 rfl (fun h1 => ?_) (fun h1 => ?_)
            · obtain ⟨r121, hq122, h1⟩ := ob h1; have q := si h1; subst q
              exact SC.region (s1 (mv rfl) (s1 (far (k := 0) rfl fo99_0 ts9 rfl) (s1 (lod rfl (ld_box ts9 ta9 rfl rfl)) (s1 (bld rfl (bd61_1_2 (2 : Int) y78.Key)) (ca (σ' := [.box (.agg [.slc 9 9 0 ((p4 ++ [(ForestOp.mk (1 : Int) p1.Tree (ApiMsg.mk (0 : UInt64) (2 : Int) y78.Key (0 : UInt64) ([] : List UInt8) (0 : Int) (0 : UInt64)))]).length) none, .slc 10 5 0 r121.length none, .d .nils]), .dead, .dead, .box (.ref 0 0 0), .box (.d (eApiIndex p1)), .box (.d (eFanSide p2)), .box (.d (eFanSide p3)), .box (.d (eApiPair y78)), .box (.d (eApiPair y98)), .row 9 (List.map eForestOp (p4 ++ [(ForestOp.mk (1 : Int) p1.Tree (ApiMsg.mk (0 : UInt64) (2 : Int) y78.Key (0 : UInt64) ([] : List UInt8) (0 : Int) (0 : UInt64)))])) true, .row 5 (List.map eApiLock r121) true]) [3, 4, 0, 1, 2] (fan_Work_index_1_ok (ApiMsg.mk (0 : UInt64) (2 : Int) y78.Key (0 : UInt64) ([] : List UInt8) (0 : Int) (0 : UInt64)) p1 p4 p5 _ hq122) wf rfl rfl rfl cb43 rfl rfl rfl rfl rfl rfl (SO.nil ((Wk.trans (wq (e' := [(5, .ref 3 0 0), (7, .ref 4 0 0), (8, .ref 5 0 0), (9, .ref 6 0 0), (11, .ref 8 0 0), (12, .d (eS y77)), (13, .d (eS y96)), (14, .d (eB y97)), (15, .fn (.func 43) [] [.ref 3 0 0, .ref 4 0 0])]) rfl) (wc [0, 1, 2, 3, 4, 5, 6, 8, 9, 10] [0, 1, 2, 3, 4, 5, 6, 8, 3, 4] (by kernel_rfl) rfl (by kernel_rfl))))))))))
            · have q := si h1; subst q
              exact SC.skip ((Wk.trans (wq (e' := [(5, .ref 3 0 0), (7, .ref 4 0 0), (8, .ref 5 0 0), (9, .ref 6 0 0), (11, .ref 8 0 0), (12, .d (eS y77)), (13, .d (eS y96)), (14, .d (eB y97)), (15, .fn (.func 43) [] [.ref 3 0 0, .ref 4 0 0])]) rfl) (Wk.trans (Wk.move (e' := [(5, .ref 3 0 0), (7, .ref 4 0 0), (8, .ref 5 0 0), (9, .ref 6 0 0), (11, .ref 8 0 0), (12, .d (eS y77)), (13, .d (eS y96)), (14, .d (eB y97)), (15, .fn (.func 43) [] [.ref 3 0 0, .ref 4 0 0])]) (os := [.box (.agg [.slc 9 9 0 p4.length none, .slc 2 5 0 p5.length none, .d .nils]), .row 9 (List.map eForestOp p4) true, .row 5 (List.map eApiLock p5) true, .box (.ref 0 0 0), .box (.d (eApiIndex p1)), .box (.d (eFanSide p2)), .box (.d (eFanSide p3)), .box (.d (eApiPair y78)), .box (.d (eApiPair y98))]) (o := .row 9 (List.map eForestOp p4) true) (σ' := [.box (.agg [.slc 9 9 0 p4.length none, .slc 2 5 0 p5.length none, .d .nils]), .dead, .row 5 (List.map eApiLock p5) true, .box (.ref 0 0 0), .box (.d (eApiIndex p1)), .box (.d (eFanSide p2)), .box (.d (eFanSide p3)), .box (.d (eApiPair y78)), .box (.d (eApiPair y98)), .row 9 (List.map eForestOp p4) true]) 1 (Nat.le_of_ble_eq_true rfl) rfl rfl rfl rfl) (Wk.trans (Wk.move (e' := [(5, .ref 3 0 0), (7, .ref 4 0 0), (8, .ref 5 0 0), (9, .ref 6 0 0), (11, .ref 8 0 0), (12, .d (eS y77)), (13, .d (eS y96)), (14, .d (eB y97)), (15, .fn (.func 43) [] [.ref 3 0 0, .ref 4 0 0])]) (os := [.box (.agg [.slc 9 9 0 p4.length none, .slc 10 5 0 p5.length none, .d .nils]), .dead, .row 5 (List.map eApiLock p5) true, .box (.ref 0 0 0), .box (.d (eApiIndex p1)), .box (.d (eFanSide p2)), .box (.d (eFanSide p3)), .box (.d (eApiPair y78)), .box (.d (eApiPair y98)), .row 9 (List.map eForestOp p4) true]) (o := .row 5 (List.map eApiLock p5) true) (σ' := [.box (.agg [.slc 9 9 0 p4.length none, .slc 10 5 0 p5.length none, .d .nils]), .dead, .dead, .box (.ref 0 0 0), .box (.d (eApiIndex p1)), .box (.d (eFanSide p2)), .box (.d (eFanSide p3)), .box (.d (eApiPair y78)), .box (.d (eApiPair y98)), .row 9 (List.map eForestOp p4) true, .row 5 (List.map eApiLock p5) true]) 2 (Nat.le_of_ble_eq_true rfl) rfl rfl rfl rfl) (wc [0, 1, 2, 3, 4, 5, 6, 8, 9, 10] [0, 1, 2, 3, 4, 5, 6, 8, 3, 4] (by kernel_rfl) rfl (by kernel_rfl))))))
        · rintro ⟨y114, y115⟩ h0
          obtain ⟨_, hq123, h0⟩ := ob h0
          refine sq (sr (s1 (lod (v := .d (eFanSide p3)) rfl (ld_box ts87 ta87 rfl rfl)) (c0 (fan_side_there_ok p3 _ hq123) wf rfl rfl rfl cb25 rfl (fun _ => rfl) (fun _ => rfl) (s1 (nt rfl) (sn (cB h0 rfl (fun h0 => ?_) (fun h0 => ?_)))))))
          · have q := si h0; subst q
            exact SC.ret (finR (Wk.trans (wq (e' := []) rfl) (Wk.trans (Wk.pushE (σ' := [.box (.agg [.slc 8 9 0 y114.length none, .slc 9 5 0 y115.length none, .d .nils]), .dead, .dead, .box (.ref 0 0 0), .box (.d (eApiIndex p1)), .box (.d (eFanSide p2)), .box (.d (eFanSide p3)), .box (.d (eApiPair y98)), .row 9 (List.map eForestOp y114) true, .row 5 (List.map eApiLock y115) true, .row 4 (List.map eFanProbe ([] : List FanProbe)) true]) (.row 4 [] true) (fun _ hh => by cases hh) rfl) (Wk.trans (Wk.boxE (id := 0) (y := .agg [.slc 8 9 0 y114.length none, .slc 9 5 0 y115.length none, .slc 10 4 0 (([] : List FanProbe).length) none]) (σ' := [.box (.agg [.slc 8 9 0 y114.length none, .slc 9 5 0 y115.length none, .slc 10 4 0 (([] : List FanProbe).length) none]), .dead, .dead, .box (.ref 0 0 0), .box (.d (eApiIndex p1)), .box (.d (eFanSide p2)), .box (.d (eFanSide p3)), .box (.d (eApiPair y98)), .row 9 (List.map eForestOp y114) true, .row 5 (List.map eApiLock y115) true, .row 4 (List.map eFanProbe ([] : List FanProbe)) true]) rfl (AWs.cons (AW.refl _) (AWs.cons (AW.refl _) (AWs.cons (AW.slcn _ _ _) AWs.nil))) rfl) (wc (e' := []) [0, 1, 2, 8, 9, 10] [0, 1, 2] (by kernel_rfl) rfl (by kernel_rfl))))) lresN rfl)
          · obtain ⟨r124, hq125, h0⟩ := ob h0
            refine sk (sr (s1 (mv rfl) (s1 (far (k := 0) rfl fo99_0 ts9 rfl) (s1 (lod rfl (ld_box ts9 ta9 rfl rfl)) (s1 (far (k := 1) rfl fo99_1 ts9 rfl) (s1 (lod rfl (ld_box ts9 ta9 rfl rfl)) (s1 (bld rfl (bd61_1_2_4 (1 : Int) y98.Key y98.Val)) (ca (σ' := [.box (.agg [.slc 10 9 0 ((y114 ++ [(ForestOp.mk (1 : Int) p1.Tree (ApiMsg.mk (0 : UInt64) (1 : Int) y98.Key (0 : UInt64) y98.Val (0 : Int) (0 : UInt64)))]).length) none, .slc 11 5 0 r124.length none, .d .nils]), .dead, .dead, .box (.ref 0 0 0), .box (.d (eApiIndex p1)), .box (.d (eFanSide p2)), .box (.d (eFanSide p3)), .box (.d (eApiPair y98)), .dead, .dead, .row 9 (List.map eForestOp (y114 ++ [(ForestOp.mk (1 : Int) p1.Tree (ApiMsg.mk (0 : UInt64) (1 : Int) y98.Key (0 : UInt64) y98.Val (0 : Int) (0 : UInt64)))])) true, .row 5 (List.map eApiLock r124) true]) [3, 4, 0, 8, 9] (fan_Work_index_1_ok (ApiMsg.mk (0 : UInt64) (1 : Int) y98.Key (0 : UInt64) y98.Val (0 : Int) (0 : UInt64)) p1 y114 y115 _ hq125) wf rfl rfl rfl cb43 rfl rfl rfl rfl rfl rfl (sn ?_)))))))))
            refine SC.seqP h0 (fun y => ⟨mk 131 [(5, .ref 3 0 0), (7, .ref 4 0 0), (13, .d (eS y96)), (102, .d (eB y))], [.box (.agg [.slc 5 9 0 ((y114 ++ [(ForestOp.mk (1 : Int) p1.Tree (ApiMsg.mk (0 : UInt64) (1 : Int) y98.Key (0 : UInt64) y98.Val (0 : Int) (0 : UInt64)))]).length) none, .slc 6 5 0 r124.length none, .d .nils]), .dead, .dead, .box (.ref 0 0 0), .box (.d (eApiIndex p1)), .row 9 (List.map eForestOp (y114 ++ [(ForestOp.mk (1 : Int) p1.Tree (ApiMsg.mk (0 : UInt64) (1 : Int) y98.Key (0 : UInt64) y98.Val (0 : Int) (0 : UInt64)))])) true, .row 5 (List.map eApiLock r124) true]⟩) ?_ ?_
            · intro u1_128 h1
              refine SC.region (s1 (far (k := 4) rfl fo42_4 ts4 rfl) (s1 (lod rfl (ld_box ts4 ta4 rfl rfl)) (s1 (mv rfl) (sp h1 (fun h1 => ?_) (fun h1 => ?_)))))
              · refine g1 (wb rfl rfl rfl) (far (k := 3) rfl fo42_3 ts4 rfl) (g1 (wb rfl rfl rfl) (lod rfl (ld_box ts4 ta4 rfl rfl)) (s1 (pkt rfl rfl) (s1 (mv rfl) (sp h1 (fun h1 => ?_) (fun h1 => ?_)))))
                · refine g1 (wb rfl rfl rfl) (mv rfl) (g1 (wb rfl rfl rfl) (nt rfl) (s1 (pkt rfl rfl) (s1 (mv rfl) (sp h1 (fun h1 => ?_) (fun h1 => ?_)))))
                  · obtain ⟨_, hq129, h1⟩ := ob h1
                    refine g1 (wb rfl rfl rfl) (lod (v := .d (eFanSide p2)) rfl (ld_box ts87 ta87 rfl rfl)) (c0 (fan_side_there_ok p2 _ hq129) (wb rfl rfl rfl) rfl rfl rfl cb25 rfl (fun _ => rfl) (fun _ => rfl) (g1 (wb rfl rfl rfl) (mv rfl) (sp h1 (fun h1 => ?_) (fun h1 => ?_))))
                    · have q := si h1; subst q
                      exact g1 (wb rfl rfl rfl) (mv rfl) (g1 (wb rfl rfl rfl) (mv rfl) (g1 (wb rfl rfl rfl) (bi rfl rfl q_str_eql) (g1 (wb rfl rfl rfl) (pkt rfl rfl) (g1 (wb rfl rfl rfl) (nt rfl) (s1 (pkt rfl rfl) (SO.nil ((wc [0, 1, 2, 3, 4, 10, 11] [0, 1, 2, 3, 4] (by kernel_rfl) rfl (by kernel_rfl)))))))))
                    · have q := si h1; subst q
                      exact k1 (wb rfl rfl rfl) (k1 (wb rfl rfl rfl) (k1 (wb rfl rfl rfl) (g1 (wb rfl rfl rfl) (pkf rfl rfl) (g1 (wb rfl rfl rfl) (uo (v := .d (eB true)) rfl rfl rfl) (s1 (pkt rfl rfl) (SO.nil ((wc [0, 1, 2, 3, 4, 10, 11] [0, 1, 2, 3, 4] (by kernel_rfl) rfl (by kernel_rfl)))))))))
                  · have q := si h1; subst q
                    refine k1 (wb rfl rfl rfl) (k1 (wb rfl rfl rfl) (k1 (wb rfl rfl rfl) (k1 (wo rfl rfl) (k1 (wo rfl rfl) (k1 (wo rfl rfl) (k1 (wb rfl rfl rfl) (k1 (wb rfl rfl rfl) (s1 (pkf rfl rfl) (SO.nil ?_)))))))))
                    exact (wc [0, 1, 2, 3, 4, 10, 11] [0, 1, 2, 3, 4] (by kernel_rfl) rfl (by kernel_rfl))
                · have q := si h1; subst q
                  refine k1 (wb rfl rfl rfl) (k1 (wb rfl rfl rfl) (s1 (pkf rfl rfl) (s1 (mv rfl) (k1 (wb rfl rfl rfl) (k1 (wb rfl rfl rfl) (k1 (wb rfl rfl rfl) (k1 (wo rfl rfl) (k1 (wo rfl rfl) (k1 (wo rfl rfl) ?_)))))))))
                  exact k1 (wb rfl rfl rfl) (k1 (wb rfl rfl rfl) (s1 (pkf rfl rfl) (SO.nil ((wc [0, 1, 2, 3, 4, 10, 11] [0, 1, 2, 3, 4] (by kernel_rfl) rfl (by kernel_rfl))))))
              · have q := si h1; subst q
                refine k1 (wb rfl rfl rfl) (k1 (wb rfl rfl rfl) (s1 (pkf rfl rfl) (s1 (mv rfl) (k1 (wb rfl rfl rfl) (k1 (wb rfl rfl rfl) (s1 (pkf rfl rfl) (s1 (mv rfl) (k1 (wb rfl rfl rfl) (k1 (wb rfl rfl rfl) ?_)))))))))
                exact k1 (wb rfl rfl rfl) (k1 (wo rfl rfl) (k1 (wo rfl rfl) (k1 (wo rfl rfl) (k1 (wb rfl rfl rfl) (k1 (wb rfl rfl rfl) (s1 (pkf rfl rfl) (SO.nil ((wc [0, 1, 2, 3, 4, 10, 11] [0, 1, 2, 3, 4] (by kernel_rfl) rfl (by kernel_rfl))))))))))
            · rintro y127 h0
              refine cB h0 rfl (fun h0 => ?_) (fun h0 => ?_)
              · obtain ⟨r130, hq131, h0⟩ := ob h0; obtain ⟨hg132, h0⟩ := gd h0; obtain ⟨hg133, h0⟩ := gd h0; have q := si h0; subst q
                refine sr (s1 (mv rfl) (ca [] (key_Under_ok y96 _ hq131) wf rfl rfl rfl cb44 rfl rfl rfl rfl rfl rfl (s1 (alo (k := 8) zo65 rfl) (s0 (sto rfl rfl (sB (d' := .d (eApiSpan r130)) ts65 rfl rfl rfl rfl rfl rfl rfl)) (sn (sd (by kernel_rfl) (t1 ([3], false) (lod rfl (ld_box ts111 ta111 rfl rfl)) rfl (t1 ([3], false) (lod rfl (ld_box ts111 ta111 rfl rfl)) rfl (t1 ([], false) (nkr rfl) rfl ?_)))))))))
                refine t1 ([], false) (far (k := 1) rfl fo50_1 ts47 rfl) rfl (t1 ([0], false) (lod rfl (ld_box ts47 ta47 rfl rfl)) rfl (t1 ([], false) (far (k := 5) rfl fo42_5 ts3 rfl) rfl (t1 ([4], false) (lod rfl (ld_box ts3 ta3 rfl rfl)) rfl (t1 ([8], false) (lod (v := .d (eApiSpan r130)) rfl (ld_box ts65 ta65 rfl rfl)) rfl (t1 ([], false) (bld rfl (bd67_0_1 p1.Tree r130)) rfl (t1 ([9], true) (bsn (k := 9) (ds := List.map eApiLock [(ApiLock.mk p1.Tree r130 false)]) (off := 0) (l' := [(ApiLock.mk p1.Tree r130 false)].length) rfl un47 ei67 rfl rfl (by rfl) rfl rfl rfl) rfl (t1 ([6, 9, 10], true) (app rfl rfl rfl rfl bc47 (aF (f := eApiLock) (xs := r124) (k := 10) rfl un47 ei67 rfl (el_full (xs := [(ApiLock.mk p1.Tree r130 false)]) rfl) hg132 rfl)) rfl (t1 ([], false) (nkr rfl) rfl (t1 ([], false) (far (k := 1) rfl fo50_1 ts47 rfl) rfl ?_)))))))))
                refine t0 ([0, 10], true) (sto rfl rfl (sB (d' := .agg [.slc 5 9 0 ((y114 ++ [(ForestOp.mk (1 : Int) p1.Tree (ApiMsg.mk (0 : UInt64) (1 : Int) y98.Key (0 : UInt64) y98.Val (0 : Int) (0 : UInt64)))]).length) none, .slc 10 5 0 ((r124 ++ [(ApiLock.mk p1.Tree r130 false)]).length) none, .d .nils]) ts47 rfl rfl rfl rfl rfl rfl rfl)) rfl (tn (by decide +kernel) (SC.draws (by kernel_rfl) (t1 ([3], false) (lod rfl (ld_box ts111 ta111 rfl rfl)) rfl (t1 ([3], false) (lod rfl (ld_box ts111 ta111 rfl rfl)) rfl (t1 ([], false) (nkr rfl) rfl (t1 ([], false) (far (k := 2) rfl fo50_2 ts48 rfl) rfl (t1 ([0], false) (lod rfl (ld_box ts48 ta48 rfl rfl)) rfl (t1 ([], false) (far (k := 5) rfl fo42_5 ts3 rfl) rfl (t1 ([4], false) (lod rfl (ld_box ts3 ta3 rfl rfl)) rfl ?_)))))))))
                refine t1 ([8], false) (lod (v := .d (eApiSpan r130)) rfl (ld_box ts65 ta65 rfl rfl)) rfl (t1 ([], false) (bld rfl (bd70_0_1 p1.Tree r130)) rfl (t1 ([11], true) (bsn (k := 11) (ds := List.map eFanProbe [(FanProbe.mk p1.Tree r130)]) (off := 0) (l' := [(FanProbe.mk p1.Tree r130)].length) rfl un48 ei70 rfl rfl (by rfl) rfl rfl rfl) rfl (t1 ([11, 12], true) (app rfl rfl rfl rfl bc48 (aN (f := eFanProbe) (k := 12) un48 ei70 (el_full (xs := [(FanProbe.mk p1.Tree r130)]) rfl) hg133 rfl)) rfl (t1 ([], false) (nkr rfl) rfl (t1 ([], false) (far (k := 2) rfl fo50_2 ts48 rfl) rfl (t0 ([0, 12], true) (sto rfl rfl (sB (d' := .agg [.slc 5 9 0 ((y114 ++ [(ForestOp.mk (1 : Int) p1.Tree (ApiMsg.mk (0 : UInt64) (1 : Int) y98.Key (0 : UInt64) y98.Val (0 : Int) (0 : UInt64)))]).length) none, .slc 10 5 0 ((r124 ++ [(ApiLock.mk p1.Tree r130 false)]).length) none, .slc 12 4 0 ([(FanProbe.mk p1.Tree r130)].length) none]) ts48 rfl rfl rfl rfl rfl rfl rfl)) rfl (ST.nil (And.intro (by decide +kernel) ?_))))))))
                exact finN (Wk.trans (wq (e' := []) rfl) (wc (e' := []) [0, 1, 2, 5, 10, 12] [0, 1, 2] (by kernel_rfl) rfl (by kernel_rfl))) lresN rfl
              · have q := si h0; subst q
                exact SC.skip (finN (Wk.trans (wq (e' := []) rfl) (Wk.trans (Wk.pushE (σ' := [.box (.agg [.slc 5 9 0 ((y114 ++ [(ForestOp.mk (1 : Int) p1.Tree (ApiMsg.mk (0 : UInt64) (1 : Int) y98.Key (0 : UInt64) y98.Val (0 : Int) (0 : UInt64)))]).length) none, .slc 6 5 0 r124.length none, .d .nils]), .dead, .dead, .box (.ref 0 0 0), .box (.d (eApiIndex p1)), .row 9 (List.map eForestOp (y114 ++ [(ForestOp.mk (1 : Int) p1.Tree (ApiMsg.mk (0 : UInt64) (1 : Int) y98.Key (0 : UInt64) y98.Val (0 : Int) (0 : UInt64)))])) true, .row 5 (List.map eApiLock r124) true, .row 4 (List.map eFanProbe ([] : List FanProbe)) true]) (.row 4 [] true) (fun _ hh => by cases hh) rfl) (Wk.trans (Wk.boxE (id := 0) (y := .agg [.slc 5 9 0 ((y114 ++ [(ForestOp.mk (1 : Int) p1.Tree (ApiMsg.mk (0 : UInt64) (1 : Int) y98.Key (0 : UInt64) y98.Val (0 : Int) (0 : UInt64)))]).length) none, .slc 6 5 0 r124.length none, .slc 7 4 0 (([] : List FanProbe).length) none]) (σ' := [.box (.agg [.slc 5 9 0 ((y114 ++ [(ForestOp.mk (1 : Int) p1.Tree (ApiMsg.mk (0 : UInt64) (1 : Int) y98.Key (0 : UInt64) y98.Val (0 : Int) (0 : UInt64)))]).length) none, .slc 6 5 0 r124.length none, .slc 7 4 0 (([] : List FanProbe).length) none]), .dead, .dead, .box (.ref 0 0 0), .box (.d (eApiIndex p1)), .row 9 (List.map eForestOp (y114 ++ [(ForestOp.mk (1 : Int) p1.Tree (ApiMsg.mk (0 : UInt64) (1 : Int) y98.Key (0 : UInt64) y98.Val (0 : Int) (0 : UInt64)))])) true, .row 5 (List.map eApiLock r124) true, .row 4 (List.map eFanProbe ([] : List FanProbe)) true]) rfl (AWs.cons (AW.refl _) (AWs.cons (AW.refl _) (AWs.cons (AW.slcn _ _ _) AWs.nil))) rfl) (wc (e' := []) [0, 1, 2, 5, 6, 7] [0, 1, 2] (by kernel_rfl) rfl (by kernel_rfl))))) lresN rfl)

/-- (*granary/fan.Work).do -/
noncomputable def fan_Work_do_2 (p0 : Int) (p1 : ApiMsg) (p2 : List ForestOp) (p3 : List ApiLock) (p4 : List FanProbe) : Option Unit :=
  bif decide ((p2.length + [(ForestOp.mk (1 : Int) p0 p1)].length) * 88 ≤ room) then
  some ()
  else none
theorem fan_Work_do_2_ok (p0 : Int) (p1 : ApiMsg) (p2 : List ForestOp) (p3 : List ApiLock) (p4 : List FanProbe) (r : Unit) (h0 : fan_Work_do_2 p0 p1 p2 p3 p4 = some r) : CallAt Tryd.prog 29 [.ref 0 0 0, .d (eI p0), .d (eApiMsg p1)] [.box (.agg [.slc 1 9 0 p2.length none, .slc 2 5 0 p3.length none, .slc 3 4 0 p4.length none]), .row 9 (List.map eForestOp p2) true, .row 5 (List.map eApiLock p3) true, .row 4 (List.map eFanProbe p4) true] (.tuple []) [.box (.agg [.slc 4 9 0 ((p2 ++ [(ForestOp.mk (1 : Int) p0 p1)]).length) none, .slc 2 5 0 p3.length none, .slc 3 4 0 p4.length none]), .dead, .row 5 (List.map eApiLock p3) true, .row 4 (List.map eFanProbe p4) true, .row 9 (List.map eForestOp (p2 ++ [(ForestOp.mk (1 : Int) p0 p1)])) true] := by
  unfold fan_Work_do_2 at h0
  refine fn0 [0, 1, 2] Tryd.func29 rfl rfl rfl rfl rfl ?_
  obtain ⟨hg2, h0⟩ := gd h0; have q := si h0; subst q
  refine sr (s1 (bxo (k := 4) rfl rfl rfl) (sn (SC.draws (by kernel_rfl) (t1 ([], false) (mv rfl) rfl (t1 ([], false) (mv rfl) rfl (t1 ([], false) (nkr rfl) rfl (t1 ([], false) (far (k := 0) rfl fo50_0 ts46 rfl) rfl (t1 ([0], false) (lod rfl (ld_box ts46 ta46 rfl rfl)) rfl (t1 ([], false) (mv rfl) rfl ?_)))))))))
  refine t1 ([4], false) (lod (v := .d (eApiMsg p1)) rfl (ld_box ts61 ta61 rfl rfl)) rfl (t1 ([], false) (bld rfl (bd63_0_1_2 (1 : Int) p0 p1)) rfl (t1 ([5], true) (bsn (k := 5) (ds := List.map eForestOp [(ForestOp.mk (1 : Int) p0 p1)]) (off := 0) (l' := [(ForestOp.mk (1 : Int) p0 p1)].length) rfl un46 ei63 rfl rfl (by rfl) rfl rfl rfl) rfl (t1 ([1, 5, 6], true) (app rfl rfl rfl rfl bc46 (aF (f := eForestOp) (xs := p2) (k := 6) rfl un46 ei63 rfl (el_full (xs := [(ForestOp.mk (1 : Int) p0 p1)]) rfl) hg2 rfl)) rfl (t1 ([], false) (nkr rfl) rfl (t1 ([], false) (far (k := 0) rfl fo50_0 ts46 rfl) rfl (t0 ([0, 6], true) (sto rfl rfl (sB (d' := .agg [.slc 6 9 0 ((p2 ++ [(ForestOp.mk (1 : Int) p0 p1)]).length) none, .slc 2 5 0 p3.length none, .slc 3 4 0 p4.length none]) ts46 rfl rfl rfl rfl rfl rfl rfl)) rfl (ST.nil (And.intro (by decide +kernel) ?_))))))))
  exact finN (wc (e' := []) [0, 1, 2, 3, 6] [0, 1, 2, 3] (by kernel_rfl) rfl (by kernel_rfl)) lresN rfl

/-- (*granary/fan.Work).own -/
noncomputable def fan_Work_own_2 (p0 : Int) (p1 : List UInt8) (p2 : List ForestOp) (p3 : List ApiLock) (p4 : List FanProbe) : Option Unit :=
  Option.bind (fan_Point p1) fun _ =>
  bif decide ((p3.length + [(ApiLock.mk p0 (ApiSpan.mk p1 (p1 ++ ([0] : List UInt8)) false) true)].length) * 56 ≤ room) then
  some ()
  else none
theorem fan_Work_own_2_ok (p0 : Int) (p1 : List UInt8) (p2 : List ForestOp) (p3 : List ApiLock) (p4 : List FanProbe) (r : Unit) (h0 : fan_Work_own_2 p0 p1 p2 p3 p4 = some r) : CallAt Tryd.prog 26 [.ref 0 0 0, .d (eI p0), .d (eS p1)] [.box (.agg [.slc 1 9 0 p2.length none, .slc 2 5 0 p3.length none, .slc 3 4 0 p4.length none]), .row 9 (List.map eForestOp p2) true, .row 5 (List.map eApiLock p3) true, .row 4 (List.map eFanProbe p4) true] (.tuple []) [.box (.agg [.slc 1 9 0 p2.length none, .slc 4 5 0 ((p3 ++ [(ApiLock.mk p0 (ApiSpan.mk p1 (p1 ++ ([0] : List UInt8)) false) true)]).length) none, .slc 3 4 0 p4.length none]), .row 9 (List.map eForestOp p2) true, .dead, .row 4 (List.map eFanProbe p4) true, .row 5 (List.map eApiLock (p3 ++ [(ApiLock.mk p0 (ApiSpan.mk p1 (p1 ++ ([0] : List UInt8)) false) true)])) true] := by
  unfold fan_Work_own_2 at h0
  refine fn0 [0, 1, 2] Tryd.func26 rfl rfl rfl rfl rfl ?_
  obtain ⟨_, hq3, h0⟩ := ob h0; obtain ⟨hg4, h0⟩ := gd h0; have q := si h0; subst q
  refine SC.draws (by kernel_rfl) (t1 ([], false) (mv rfl) rfl (t1 ([], false) (mv rfl) rfl (t1 ([], false) (nkr rfl) rfl (t1 ([], false) (far (k := 1) rfl fo50_1 ts47 rfl) rfl (t1 ([0], false) (lod rfl (ld_box ts47 ta47 rfl rfl)) rfl (t1 ([], false) (mv rfl) rfl (t1 ([], false) (mv rfl) rfl (ta' [] ([4], true) (fan_Point_ok p1 _ hq3) wf rfl rfl rfl cb14 rfl rfl rfl rfl rfl rfl rfl (t1 ([], false) (bld rfl (bd67_0_1_2 p0 (ApiSpan.mk p1 (p1 ++ ([0] : List UInt8)) false) true)) rfl ?_)))))))))
  refine t1 ([5], true) (bsn (k := 5) (ds := List.map eApiLock [(ApiLock.mk p0 (ApiSpan.mk p1 (p1 ++ ([0] : List UInt8)) false) true)]) (off := 0) (l' := [(ApiLock.mk p0 (ApiSpan.mk p1 (p1 ++ ([0] : List UInt8)) false) true)].length) rfl un47 ei67 rfl rfl (by rfl) rfl rfl rfl) rfl (t1 ([2, 5, 6], true) (app rfl rfl rfl rfl bc47 (aF (f := eApiLock) (xs := p3) (k := 6) rfl un47 ei67 rfl (el_full (xs := [(ApiLock.mk p0 (ApiSpan.mk p1 (p1 ++ ([0] : List UInt8)) false) true)]) rfl) hg4 rfl)) rfl (t1 ([], false) (nkr rfl) rfl (t1 ([], false) (far (k := 1) rfl fo50_1 ts47 rfl) rfl (t0 ([0, 6], true) (sto rfl rfl (sB (d' := .agg [.slc 1 9 0 p2.length none, .slc 6 5 0 ((p3 ++ [(ApiLock.mk p0 (ApiSpan.mk p1 (p1 ++ ([0] : List UInt8)) false) true)]).length) none, .slc 3 4 0 p4.length none]) ts47 rfl rfl rfl rfl rfl rfl rfl)) rfl (ST.nil (And.intro (by decide +kernel) ?_))))))
  exact finN (wc (e' := []) [0, 1, 2, 3, 6] [0, 1, 2, 3] (by kernel_rfl) rfl (by kernel_rfl)) lresN rfl

/-- (*granary/fan.Work).index$1 -/
noncomputable def fan_Work_index_1_1 (p0 : ApiMsg) (p1 : ApiIndex) (p2 : List ForestOp) (p3 : List ApiLock) (p4 : List FanProbe) : Option ((List ApiLock)) :=
  Option.bind (fan_Work_do_2 p1.Tree p0 p2 p3 p4) fun _ =>
  bif p1.Ready then
    Option.bind (fan_Work_own_2 p1.Tree p0.Key (p2 ++ [(ForestOp.mk (1 : Int) p1.Tree p0)]) p3 p4) fun _ =>
    some (p3 ++ [(ApiLock.mk p1.Tree (ApiSpan.mk p0.Key (p0.Key ++ ([0] : List UInt8)) false) true)])
  else
    some p3
theorem fan_Work_index_1_1_ok (p0 : ApiMsg) (p1 : ApiIndex) (p2 : List ForestOp) (p3 : List ApiLock) (p4 : List FanProbe) (r : (List ApiLock)) (h0 : fan_Work_index_1_1 p0 p1 p2 p3 p4 = some r) : CallAt Tryd.prog 43 [.d (eApiMsg p0), .ref 0 0 0, .ref 1 0 0] [.box (.ref 2 0 0), .box (.d (eApiIndex p1)), .box (.agg [.slc 3 9 0 p2.length none, .slc 4 5 0 p3.length none, .slc 5 4 0 p4.length none]), .row 9 (List.map eForestOp p2) true, .row 5 (List.map eApiLock p3) true, .row 4 (List.map eFanProbe p4) true] (.tuple []) [.box (.ref 2 0 0), .box (.d (eApiIndex p1)), .box (.agg [.slc 6 9 0 ((p2 ++ [(ForestOp.mk (1 : Int) p1.Tree p0)]).length) none, .slc 7 5 0 r.length none, .slc 5 4 0 p4.length none]), .dead, .dead, .row 4 (List.map eFanProbe p4) true, .row 9 (List.map eForestOp (p2 ++ [(ForestOp.mk (1 : Int) p1.Tree p0)])) true, .row 5 (List.map eApiLock r) true] := by
  unfold fan_Work_index_1_1 at h0
  refine fn0 [0, 1, 2] Tryd.func43 rfl rfl rfl rfl rfl ?_
  obtain ⟨_, hq4, h0⟩ := ob h0
  refine sr (s1 (bxo (k := 6) rfl rfl rfl) (sn (sr (s1 (lod rfl (ld_box ts111 ta111 rfl rfl)) (s1 (far (k := 5) rfl fo42_5 ts3 rfl) (s1 (lod rfl (ld_box ts3 ta3 rfl rfl)) (s1 (lod (v := .d (eApiMsg p0)) rfl (ld_box ts61 ta61 rfl rfl)) (ca (σ' := [.box (.ref 2 0 0), .box (.d (eApiIndex p1)), .box (.agg [.slc 7 9 0 ((p2 ++ [(ForestOp.mk (1 : Int) p1.Tree p0)]).length) none, .slc 4 5 0 p3.length none, .slc 5 4 0 p4.length none]), .dead, .row 5 (List.map eApiLock p3) true, .row 4 (List.map eFanProbe p4) true, .box (.d (eApiMsg p0)), .row 9 (List.map eForestOp (p2 ++ [(ForestOp.mk (1 : Int) p1.Tree p0)])) true]) [2, 3, 4, 5] (fan_Work_do_2_ok p1.Tree p0 p2 p3 p4 _ hq4) wf rfl rfl rfl cb29 rfl rfl rfl rfl rfl rfl (sn ?_)))))))))
  refine sr (s1 (far (k := 4) rfl fo42_4 ts4 rfl) (s1 (lod rfl (ld_box ts4 ta4 rfl rfl)) (sn (cB h0 rfl (fun h0 => ?_) (fun h0 => ?_)))))
  · obtain ⟨_, hq5, h0⟩ := ob h0; have q := si h0; subst q
    exact SC.region (s1 (lod rfl (ld_box ts111 ta111 rfl rfl)) (s1 (far (k := 5) rfl fo42_5 ts3 rfl) (s1 (lod rfl (ld_box ts3 ta3 rfl rfl)) (s1 (far (k := 2) rfl fo61_2 ts9 rfl) (s1 (lod rfl (ld_box ts9 ta9 rfl rfl)) (ca (σ' := [.box (.ref 2 0 0), .box (.d (eApiIndex p1)), .box (.agg [.slc 7 9 0 ((p2 ++ [(ForestOp.mk (1 : Int) p1.Tree p0)]).length) none, .slc 8 5 0 ((p3 ++ [(ApiLock.mk p1.Tree (ApiSpan.mk p0.Key (p0.Key ++ ([0] : List UInt8)) false) true)]).length) none, .slc 5 4 0 p4.length none]), .dead, .dead, .row 4 (List.map eFanProbe p4) true, .box (.d (eApiMsg p0)), .row 9 (List.map eForestOp (p2 ++ [(ForestOp.mk (1 : Int) p1.Tree p0)])) true, .row 5 (List.map eApiLock (p3 ++ [(ApiLock.mk p1.Tree (ApiSpan.mk p0.Key (p0.Key ++ ([0] : List UInt8)) false) true)])) true]) [2, 7, 4, 5] (fan_Work_own_2_ok p1.Tree p0.Key (p2 ++ [(ForestOp.mk (1 : Int) p1.Tree p0)]) p3 p4 _ hq5) wf rfl rfl rfl cb26 rfl rfl rfl rfl rfl rfl (SO.nil (finN (Wk.trans (wq (e' := []) rfl) (wc (e' := []) [0, 1, 2, 3, 4, 5, 7, 8] [0, 1, 2, 3, 4, 5] (by kernel_rfl) rfl (by kernel_rfl))) lresN rfl))))))))
  · have q := si h0; subst q
    exact SC.skip (finN (Wk.trans (wq (e' := []) rfl) (Wk.trans (Wk.move (e' := []) (os := [.box (.ref 2 0 0), .box (.d (eApiIndex p1)), .box (.agg [.slc 7 9 0 ((p2 ++ [(ForestOp.mk (1 : Int) p1.Tree p0)]).length) none, .slc 8 5 0 p3.length none, .slc 5 4 0 p4.length none]), .dead, .row 5 (List.map eApiLock p3) true, .row 4 (List.map eFanProbe p4) true, .box (.d (eApiMsg p0)), .row 9 (List.map eForestOp (p2 ++ [(ForestOp.mk (1 : Int) p1.Tree p0)])) true]) (o := .row 5 (List.map eApiLock p3) true) (σ' := [.box (.ref 2 0 0), .box (.d (eApiIndex p1)), .box (.agg [.slc 7 9 0 ((p2 ++ [(ForestOp.mk (1 : Int) p1.Tree p0)]).length) none, .slc 8 5 0 p3.length none, .slc 5 4 0 p4.length none]), .dead, .dead, .row 4 (List.map eFanProbe p4) true, .box (.d (eApiMsg p0)), .row 9 (List.map eForestOp (p2 ++ [(ForestOp.mk (1 : Int) p1.Tree p0)])) true, .row 5 (List.map eApiLock p3) true]) 4 (Nat.le_of_ble_eq_true rfl) rfl rfl rfl rfl) (wc (e' := []) [0, 1, 2, 3, 4, 5, 7, 8] [0, 1, 2, 3, 4, 5] (by kernel_rfl) rfl (by kernel_rfl)))) lresN rfl)

/-- (*granary/fan.Work).index -/
noncomputable def fan_Work_index_2 (p0 : ApiTable) (p1 : ApiIndex) (p2 : FanSide) (p3 : FanSide) (p4 : List ForestOp) (p5 : List ApiLock) (p6 : List FanProbe) : Option ((List ForestOp) × (List ApiLock) × (List FanProbe)) :=
  Option.bind (α := (List UInt8) × ApiPair)
    (Option.bind (fan_side_there p2) fun _ =>
    bif (decide ((p2.row.length : Int) > (0 : Int))) then
      Option.bind (schema_Entry p0 p1 p2.row) fun (r81, r82) =>
      Option.bind (schema_Front p0 p1 p2.row) fun (r84, r85, r86) =>
      some (r84, r82)
    else
      some (([] : List UInt8), (ApiPair.mk ([] : List UInt8) ([] : List UInt8))))
    fun (y77, y78) =>
  Option.bind (α := (List UInt8) × Bool × ApiPair)
    (Option.bind (fan_side_there p3) fun _ =>
    bif (decide ((p3.row.length : Int) > (0 : Int))) then
      Option.bind (schema_Entry p0 p1 p3.row) fun (r101, r102) =>
      Option.bind (schema_Front p0 p1 p3.row) fun (r104, r105, r106) =>
      some (r104, r105, r102)
    else
      some (([] : List UInt8), false, (ApiPair.mk ([] : List UInt8) ([] : List UInt8))))
    fun (y96, y97, y98) =>
  bif (eqApiPair y78 y98) then
    some (p4, p5, p6)
  else
    Option.bind (α := (List ForestOp) × (List ApiLock))
      (Option.bind (α := Bool)
        (Option.bind (fan_side_there p2) fun _ =>
        bif (decide ((p2.row.length : Int) > (0 : Int))) then
          some (y78.Key != y98.Key)
        else
          some false)
        fun y118 =>
      bif y118 then
        Option.bind (fan_Work_index_1_1 (ApiMsg.mk (0 : UInt64) (2 : Int) y78.Key (0 : UInt64) ([] : List UInt8) (0 : Int) (0 : UInt64)) p1 p4 p5 p6) fun r121 =>
        some ((p4 ++ [(ForestOp.mk (1 : Int) p1.Tree (ApiMsg.mk (0 : UInt64) (2 : Int) y78.Key (0 : UInt64) ([] : List UInt8) (0 : Int) (0 : UInt64)))]), r121)
      else
        some (p4, p5))
      fun (y114, y115) =>
    Option.bind (fan_side_there p3) fun _ =>
    bif (!(decide ((p3.row.length : Int) > (0 : Int)))) then
      some (y114, y115, p6)
    else
      Option.bind (fan_Work_index_1_1 (ApiMsg.mk (0 : UInt64) (1 : Int) y98.Key (0 : UInt64) y98.Val (0 : Int) (0 : UInt64)) p1 y114 y115 p6) fun r124 =>
      Option.bind (α := Bool)
        (bif p1.Ready then
          bif p1.Unique then
            bif (!y97) then
              Option.bind (fan_side_there p2) fun _ =>
              bif (decide ((p2.row.length : Int) > (0 : Int))) then
                some (!(y77 == y96))
              else
                some true
            else
              some false
          else
            some false
        else
          some false)
        fun y127 =>
      bif y127 then
        Option.bind (key_Under y96) fun r130 =>
        bif decide ((r124.length + [(ApiLock.mk p1.Tree r130 false)].length) * 56 ≤ room) then
        bif decide ((p6.length + [(FanProbe.mk p1.Tree r130)].length) * 48 ≤ room) then
        some ((y114 ++ [(ForestOp.mk (1 : Int) p1.Tree (ApiMsg.mk (0 : UInt64) (1 : Int) y98.Key (0 : UInt64) y98.Val (0 : Int) (0 : UInt64)))]), (r124 ++ [(ApiLock.mk p1.Tree r130 false)]), (p6 ++ [(FanProbe.mk p1.Tree r130)]))
        else none
        else none
      else
        some ((y114 ++ [(ForestOp.mk (1 : Int) p1.Tree (ApiMsg.mk (0 : UInt64) (1 : Int) y98.Key (0 : UInt64) y98.Val (0 : Int) (0 : UInt64)))]), r124, p6)
theorem fan_Work_index_2_ok (p0 : ApiTable) (p1 : ApiIndex) (p2 : FanSide) (p3 : FanSide) (p4 : List ForestOp) (p5 : List ApiLock) (p6 : List FanProbe) (r : (List ForestOp) × (List ApiLock) × (List FanProbe)) (h0 : fan_Work_index_2 p0 p1 p2 p3 p4 p5 p6 = some r) : CallAt Tryd.prog 30 [.ref 0 0 0, .d (eApiTable p0), .d (eApiIndex p1), .d (eFanSide p2), .d (eFanSide p3)] [.box (.agg [.slc 1 9 0 p4.length none, .slc 2 5 0 p5.length none, .slc 3 4 0 p6.length none]), .row 9 (List.map eForestOp p4) true, .row 5 (List.map eApiLock p5) true, .row 4 (List.map eFanProbe p6) true] (.tuple []) [.box (.agg [.slc 4 9 0 r.1.length none, .slc 5 5 0 r.2.1.length none, .slc 6 4 0 r.2.2.length none]), .dead, .dead, .dead, .row 9 (List.map eForestOp r.1) true, .row 5 (List.map eApiLock r.2.1) true, .row 4 (List.map eFanProbe r.2.2) true] := by
  unfold fan_Work_index_2 at h0
  refine fn0 [0, 1, 2, 3, 4] Tryd.func30 rfl rfl rfl rfl rfl ?_
  refine sr (s1 (bxo (k := 4) rfl rfl rfl) (s1 (bxo (k := 5) rfl rfl rfl) (s1 (bxo (k := 6) rfl rfl rfl) (s1 (bxo (k := 7) rfl rfl rfl) (s1 (bxo (k := 8) rfl rfl rfl) (sn (sr (s1 (alo (k := 9) zo99 rfl) (s1 (alo (k := 10) zo99 rfl) ?_)))))))))
  refine sn (sr (s1 (asg (v := .d (eS ([] : List UInt8))) rfl) (s1 (asg (v := .d (eS ([] : List UInt8))) rfl) (sn (sr (s1 (asg rfl) (sn (SC.seqP h0 (fun y => ⟨mk 131 [(5, .ref 4 0 0), (6, .ref 5 0 0), (7, .ref 6 0 0), (8, .ref 7 0 0), (9, .ref 8 0 0), (10, .ref 9 0 0), (11, .ref 10 0 0), (12, .d (eS y.1)), (13, .d (eS ([] : List UInt8))), (14, .d (eB false))], [.box (.agg [.slc 1 9 0 p4.length none, .slc 2 5 0 p5.length none, .slc 3 4 0 p6.length none]), .row 9 (List.map eForestOp p4) true, .row 5 (List.map eApiLock p5) true, .row 4 (List.map eFanProbe p6) true, .box (.ref 0 0 0), .box (.d (eApiTable p0)), .box (.d (eApiIndex p1)), .box (.d (eFanSide p2)), .box (.d (eFanSide p3)), .box (.d (eApiPair y.2)), .box (.d (eApiPair (ApiPair.mk ([] : List UInt8) ([] : List UInt8))))]⟩) ?_ ?_))))))))
  · intro u1_79 h1
    obtain ⟨_, hq80, h1⟩ := ob h1
    refine sr (s1 (lod (v := .d (eFanSide p2)) rfl (ld_box ts87 ta87 rfl rfl)) (c0 (fan_side_there_ok p2 _ hq80) wf rfl rfl rfl cb25 rfl (fun _ => rfl) (fun _ => rfl) (sn (cB h1 rfl (fun h1 => ?_) (fun h1 => ?_)))))
    · obtain ⟨⟨r81, r82⟩, hq83, h1⟩ := ob h1; obtain ⟨⟨r84, r85, r86⟩, hq87, h1⟩ := ob h1; have q := si h1; subst q
      refine sr (s1 (lod (v := .d (eApiTable p0)) rfl (ld_box ts26 ta26 rfl rfl)) (s1 (lod (v := .d (eApiIndex p1)) rfl (ld_box ts42 ta42 rfl rfl)) (s1 (far (k := 0) rfl fo87_0 ts43 rfl) (s1 (lod rfl (ld_box ts43 ta43 rfl rfl)) (ca [] (schema_Entry_ok p0 p1 p2.row _ hq83) wf rfl rfl rfl cb32 rfl rfl rfl rfl rfl rfl (s1 (mv rfl) (s1 (ext rfl rfl) (s1 (ext rfl rfl) (s0 (sto rfl rfl (sB (d' := .d (eApiPair r82)) ts99 rfl rfl rfl rfl rfl rfl rfl)) ?_)))))))))
      refine sn (SC.region (s1 (lod (v := .d (eApiTable p0)) rfl (ld_box ts26 ta26 rfl rfl)) (s1 (lod (v := .d (eApiIndex p1)) rfl (ld_box ts42 ta42 rfl rfl)) (s1 (far (k := 0) rfl fo87_0 ts43 rfl) (s1 (lod rfl (ld_box ts43 ta43 rfl rfl)) (c0 (schema_Front_ok p0 p1 p2.row _ hq87) wf rfl rfl rfl cb42 rfl (fun _ => rfl) (fun _ => rfl) (s1 (mv rfl) (s1 (ext rfl rfl) (s1 (ext rfl rfl) ?_)))))))))
      exact s1 (ext rfl rfl) (s1 (asg rfl) (SO.nil ((wc [0, 1, 2, 3, 4, 5, 6, 7, 8, 9, 10] [0, 1, 2, 3, 4, 5, 6, 7, 8, 9, 10] (by kernel_rfl) rfl (by kernel_rfl)))))
    · have q := si h1; subst q
      exact SC.skip ((wq rfl))
  · rintro ⟨y77, y78⟩ h0
    refine SC.seqP h0 (fun y => ⟨mk 131 [(5, .ref 4 0 0), (7, .ref 5 0 0), (8, .ref 6 0 0), (9, .ref 7 0 0), (10, .ref 8 0 0), (11, .ref 9 0 0), (12, .d (eS y77)), (13, .d (eS y.1)), (14, .d (eB y.2.1))], [.box (.agg [.slc 1 9 0 p4.length none, .slc 2 5 0 p5.length none, .slc 3 4 0 p6.length none]), .row 9 (List.map eForestOp p4) true, .row 5 (List.map eApiLock p5) true, .row 4 (List.map eFanProbe p6) true, .box (.ref 0 0 0), .box (.d (eApiIndex p1)), .box (.d (eFanSide p2)), .box (.d (eFanSide p3)), .box (.d (eApiPair y78)), .box (.d (eApiPair y.2.2))]⟩) ?_ ?_
    · intro u1_99 h1
      obtain ⟨_, hq100, h1⟩ := ob h1
      refine sr (s1 (lod (v := .d (eFanSide p3)) rfl (ld_box ts87 ta87 rfl rfl)) (c0 (fan_side_there_ok p3 _ hq100) wf rfl rfl rfl cb25 rfl (fun _ => rfl) (fun _ => rfl) (sn (cB h1 rfl (fun h1 => ?_) (fun h1 => ?_)))))
      · obtain ⟨⟨r101, r102⟩, hq103, h1⟩ := ob h1; obtain ⟨⟨r104, r105, r106⟩, hq107, h1⟩ := ob h1; have q := si h1; subst q
        refine sr (s1 (lod (v := .d (eApiTable p0)) rfl (ld_box ts26 ta26 rfl rfl)) (s1 (lod (v := .d (eApiIndex p1)) rfl (ld_box ts42 ta42 rfl rfl)) (s1 (far (k := 0) rfl fo87_0 ts43 rfl) (s1 (lod rfl (ld_box ts43 ta43 rfl rfl)) (ca [] (schema_Entry_ok p0 p1 p3.row _ hq103) wf rfl rfl rfl cb32 rfl rfl rfl rfl rfl rfl (s1 (mv rfl) (s1 (ext rfl rfl) (s1 (ext rfl rfl) (s0 (sto rfl rfl (sB (d' := .d (eApiPair r102)) ts99 rfl rfl rfl rfl rfl rfl rfl)) ?_)))))))))
        refine sn (SC.region (s1 (lod (v := .d (eApiTable p0)) rfl (ld_box ts26 ta26 rfl rfl)) (s1 (lod (v := .d (eApiIndex p1)) rfl (ld_box ts42 ta42 rfl rfl)) (s1 (far (k := 0) rfl fo87_0 ts43 rfl) (s1 (lod rfl (ld_box ts43 ta43 rfl rfl)) (c0 (schema_Front_ok p0 p1 p3.row _ hq107) wf rfl rfl rfl cb42 rfl (fun _ => rfl) (fun _ => rfl) (s1 (mv rfl) (s1 (ext rfl rfl) (s1 (ext rfl rfl) ?_)))))))))
        exact s1 (ext rfl rfl) (s1 (asg rfl) (s1 (asg rfl) (SO.nil ((wc [0, 1, 2, 3, 4, 6, 7, 8, 9, 10] [0, 1, 2, 3, 4, 6, 7, 8, 9, 10] (by kernel_rfl) rfl (by kernel_rfl))))))
      · have q := si h1; subst q
        exact SC.skip ((wc [0, 1, 2, 3, 4, 6, 7, 8, 9, 10] [0, 1, 2, 3, 4, 6, 7, 8, 9, 10] (by kernel_rfl) rfl (by kernel_rfl)))
    · rintro ⟨y96, y97, y98⟩ h0
      refine sr (s1 (mkf rfl rfl) (s1 (asg rfl) (sn (sq (sr (s1 (lod (v := .d (eApiPair y78)) rfl (ld_box ts99 ta99 rfl rfl)) (s1 (lod (v := .d (eApiPair y98)) rfl (ld_box ts99 ta99 rfl rfl)) (s1 (bi (v := .d (eB (eqApiPair y78 y98))) rfl rfl (fun X Y => eqApiPair_eql_99 X Y y78 y98)) (sn ?_)))))))))
      refine cB h0 rfl (fun h0 => ?_) (fun h0 => ?_)
      · have q := si h0; subst q
        exact SC.ret (finR (Wk.trans (wq (e' := []) rfl) (Wk.trans (Wk.move (e' := []) (os := [.box (.agg [.slc 10 9 0 p4.length none, .slc 2 5 0 p5.length none, .slc 3 4 0 p6.length none]), .row 9 (List.map eForestOp p4) true, .row 5 (List.map eApiLock p5) true, .row 4 (List.map eFanProbe p6) true, .box (.ref 0 0 0), .box (.d (eApiIndex p1)), .box (.d (eFanSide p2)), .box (.d (eFanSide p3)), .box (.d (eApiPair y78)), .box (.d (eApiPair y98))]) (o := .row 9 (List.map eForestOp p4) true) (σ' := [.box (.agg [.slc 10 9 0 p4.length none, .slc 2 5 0 p5.length none, .slc 3 4 0 p6.length none]), .dead, .row 5 (List.map eApiLock p5) true, .row 4 (List.map eFanProbe p6) true, .box (.ref 0 0 0), .box (.d (eApiIndex p1)), .box (.d (eFanSide p2)), .box (.d (eFanSide p3)), .box (.d (eApiPair y78)), .box (.d (eApiPair y98)), .row 9 (List.map eForestOp p4) true]) 1 (Nat.le_of_ble_eq_true rfl) rfl rfl rfl rfl) (Wk.trans (Wk.move (e' := []) (os := [.box (.agg [.slc 10 9 0 p4.length none, .slc 11 5 0 p5.length none, .slc 3 4 0 p6.length none]), .dead, .row 5 (List.map eApiLock p5) true, .row 4 (List.map eFanProbe p6) true, .box (.ref 0 0 0), .box (.d (eApiIndex p1)), .box (.d (eFanSide p2)), .box (.d (eFanSide p3)), .box (.d (eApiPair y78)), .box (.d (eApiPair y98)), .row 9 (List.map eForestOp p4) true]) (o := .row 5 (List.map eApiLock p5) true) (σ' := [.box (.agg [.slc 10 9 0 p4.length none, .slc 11 5 0 p5.length none, .slc 3 4 0 p6.length none]), .dead, .dead, .row 4 (List.map eFanProbe p6) true, .box (.ref 0 0 0), .box (.d (eApiIndex p1)), .box (.d (eFanSide p2)), .box (.d (eFanSide p3)), .box (.d (eApiPair y78)), .box (.d (eApiPair y98)), .row 9 (List.map eForestOp p4) true, .row 5 (List.map eApiLock p5) true]) 2 (Nat.le_of_ble_eq_true rfl) rfl rfl rfl rfl) (Wk.trans (Wk.move (e' := []) (os := [.box (.agg [.slc 10 9 0 p4.length none, .slc 11 5 0 p5.length none, .slc 12 4 0 p6.length none]), .dead, .dead, .row 4 (List.map eFanProbe p6) true, .box (.ref 0 0 0), .box (.d (eApiIndex p1)), .box (.d (eFanSide p2)), .box (.d (eFanSide p3)), .box (.d (eApiPair y78)), .box (.d (eApiPair y98)), .row 9 (List.map eForestOp p4) true, .row 5 (List.map eApiLock p5) true]) (o := .row 4 (List.map eFanProbe p6) true) (σ' := [.box (.agg [.slc 10 9 0 p4.length none, .slc 11 5 0 p5.length none, .slc 12 4 0 p6.length none]), .dead, .dead, .dead, .box (.ref 0 0 0), .box (.d (eApiIndex p1)), .box (.d (eFanSide p2)), .box (.d (eFanSide p3)), .box (.d (eApiPair y78)), .box (.d (eApiPair y98)), .row 9 (List.map eForestOp p4) true, .row 5 (List.map eApiLock p5) true, .row 4 (List.map eFanProbe p6) true]) 3 (Nat.le_of_ble_eq_true rfl) rfl rfl rfl rfl) (wc (e' := []) [0, 1, 2, 3, 10, 11, 12] [0, 1, 2, 3] (by kernel_rfl) rfl (by kernel_rfl)))))) lresN rfl)
      · refine sk (SC.seqP h0 (fun y => ⟨mk 131 [(5, .ref 4 0 0), (7, .ref 5 0 0), (8, .ref 6 0 0), (9, .ref 7 0 0), (11, .ref 8 0 0), (12, .d (eS y77)), (13, .d (eS y96)), (14, .d (eB y97)), (15, .fn (.func 43) [] [.ref 4 0 0, .ref 5 0 0])], [.box (.agg [.slc 9 9 0 y.1.length none, .slc 10 5 0 y.2.length none, .slc 3 4 0 p6.length none]), .dead, .dead, .row 4 (List.map eFanProbe p6) true, .box (.ref 0 0 0), .box (.d (eApiIndex p1)), .box (.d (eFanSide p2)), .box (.d (eFanSide p3)), .box (.d (eApiPair y98)), .row 9 (List.map eForestOp y.1) true, .row 5 (List.map eApiLock y.2) true]⟩) ?_ ?_)
        · intro u1_116 h1
          refine SC.seqP h1 (fun y => ⟨mk 131 [(5, .ref 4 0 0), (7, .ref 5 0 0), (8, .ref 6 0 0), (9, .ref 7 0 0), (10, .ref 8 0 0), (11, .ref 9 0 0), (12, .d (eS y77)), (13, .d (eS y96)), (14, .d (eB y97)), (15, .fn (.func 43) [] [.ref 4 0 0, .ref 5 0 0]), (67, .d (eB y))], [.box (.agg [.slc 1 9 0 p4.length none, .slc 2 5 0 p5.length none, .slc 3 4 0 p6.length none]), .row 9 (List.map eForestOp p4) true, .row 5 (List.map eApiLock p5) true, .row 4 (List.map eFanProbe p6) true, .box (.ref 0 0 0), .box (.d (eApiIndex p1)), .box (.d (eFanSide p2)), .box (.d (eFanSide p3)), .box (.d (eApiPair y78)), .box (.d (eApiPair y98))]⟩) ?_ ?_
          · intro u2_119 h2
            obtain ⟨_, hq120, h2⟩ := ob h2
            refine SC.region (s1 (lod (v := .d (eFanSide p2)) rfl (ld_box ts87 ta87 rfl rfl)) (c0 (fan_side_there_ok p2 _ hq120) wf rfl rfl rfl cb25 rfl (fun _ => rfl) (fun _ => rfl) (s1 (mv rfl) (sp h2 (fun h2 => ?_) (fun h2 => ?_)))))
            · have q := si h2; subst q
              exact g1 (wb rfl rfl rfl) (far (k := 0) rfl fo99_0 ts9 rfl) (g1 (wb rfl rfl rfl) (lod rfl (ld_box ts9 ta9 rfl rfl)) (g1 (wb rfl rfl rfl) (far (k := 0) rfl fo99_0 ts9 rfl) (g1 (wb rfl rfl rfl) (lod rfl (ld_box ts9 ta9 rfl rfl)) (g1 (wb rfl rfl rfl) (bi rfl rfl q_str_neq) (s1 (pkt rfl rfl) (SO.nil ((wq rfl))))))))
            · have q := si h2; subst q
              exact k1 (wb rfl rfl rfl) (k1 (wb rfl rfl rfl) (k1 (wb rfl rfl rfl) (k1 (wb rfl rfl rfl) (k1 (wb rfl rfl rfl) (s1 (pkf rfl rfl) (SO.nil ((wq rfl))))))))
          · rintro y118 h1
            refine cB h1 rfl (fun h1 => ?_) (fun h1 => ?_)
            · obtain ⟨r121, hq122, h1⟩ := ob h1; have q := si h1; subst q
              exact SC.region (s1 (mv rfl) (s1 (far (k := 0) rfl fo99_0 ts9 rfl) (s1 (lod rfl (ld_box ts9 ta9 rfl rfl)) (s1 (bld rfl (bd61_1_2 (2 : Int) y78.Key)) (ca (σ' := [.box (.agg [.slc 10 9 0 ((p4 ++ [(ForestOp.mk (1 : Int) p1.Tree (ApiMsg.mk (0 : UInt64) (2 : Int) y78.Key (0 : UInt64) ([] : List UInt8) (0 : Int) (0 : UInt64)))]).length) none, .slc 11 5 0 r121.length none, .slc 3 4 0 p6.length none]), .dead, .dead, .row 4 (List.map eFanProbe p6) true, .box (.ref 0 0 0), .box (.d (eApiIndex p1)), .box (.d (eFanSide p2)), .box (.d (eFanSide p3)), .box (.d (eApiPair y78)), .box (.d (eApiPair y98)), .row 9 (List.map eForestOp (p4 ++ [(ForestOp.mk (1 : Int) p1.Tree (ApiMsg.mk (0 : UInt64) (2 : Int) y78.Key (0 : UInt64) ([] : List UInt8) (0 : Int) (0 : UInt64)))])) true, .row 5 (List.map eApiLock r121) true]) [4, 5, 0, 1, 2, 3] (fan_Work_index_1_1_ok (ApiMsg.mk (0 : UInt64) (2 : Int) y78.Key (0 : UInt64) ([] : List UInt8) (0 : Int) (0 : UInt64)) p1 p4 p5 p6 _ hq122) wf rfl rfl rfl cb43 rfl rfl rfl rfl rfl rfl (SO.nil ((Wk.trans (wq (e' := [(5, .ref 4 0 0), (7, .ref 5 0 0), (8, .ref 6 0 0), (9, .ref 7 0 0), (11, .ref 9 0 0), (12, .d (eS y77)), (13, .d (eS y96)), (14, .d (eB y97)), (15, .fn (.func 43) [] [.ref 4 0 0, .ref 5 0 0])]) rfl) (wc [0, 1, 2, 3, 4, 5, 6, 7, 9, 10, 11] [0, 1, 2, 3, 4, 5, 6, 7, 9, 4, 5] (by kernel_rfl) rfl (by kernel_rfl))))))))))
            · have q := si h1; subst q
              exact SC.skip ((Wk.trans (wq (e' := [(5, .ref 4 0 0), (7, .ref 5 0 0), (8, .ref 6 0 0), (9, .ref 7 0 0), (11, .ref 9 0 0), (12, .d (eS y77)), (13, .d (eS y96)), (14, .d (eB y97)), (15, .fn (.func 43) [] [.ref 4 0 0, .ref 5 0 0])]) rfl) (Wk.trans (Wk.move (e' := [(5, .ref 4 0 0), (7, .ref 5 0 0), (8, .ref 6 0 0), (9, .ref 7 0 0), (11, .ref 9 0 0), (12, .d (eS y77)), (13, .d (eS y96)), (14, .d (eB y97)), (15, .fn (.func 43) [] [.ref 4 0 0, .ref 5 0 0])]) (os := [.box (.agg [.slc 10 9 0 p4.length none, .slc 2 5 0 p5.length none, .slc 3 4 0 p6.length none]), .row 9 (List.map eForestOp p4) true, .row 5 (List.map eApiLock p5) true, .row 4 (List.map eFanProbe p6) true, .box (.ref 0 0 0), .box (.d (eApiIndex p1)), .box (.d (eFanSide p2)), .box (.d (eFanSide p3)), .box (.d (eApiPair y78)), .box (.d (eApiPair y98))]) (o := .row 9 (List.map eForestOp p4) true) (σ' := [.box (.agg [.slc 10 9 0 p4.length none, .slc 2 5 0 p5.length none, .slc 3 4 0 p6.length none]), .dead, .row 5 (List.map eApiLock p5) true, .row 4 (List.map eFanProbe p6) true, .box (.ref 0 0 0), .box (.d (eApiIndex p1)), .box (.d (eFanSide p2)), .box (.d (eFanSide p3)), .box (.d (eApiPair y78)), .box (.d (eApiPair y98)), .row 9 (List.map eForestOp p4) true]) 1 (Nat.le_of_ble_eq_true rfl) rfl rfl rfl rfl) (Wk.trans (Wk.move (e' := [(5, .ref 4 0 0), (7, .ref 5 0 0), (8, .ref 6 0 0), (9, .ref 7 0 0), (11, .ref 9 0 0), (12, .d (eS y77)), (13, .d (eS y96)), (14, .d (eB y97)), (15, .fn (.func 43) [] [.ref 4 0 0, .ref 5 0 0])]) (os := [.box (.agg [.slc 10 9 0 p4.length none, .slc 11 5 0 p5.length none, .slc 3 4 0 p6.length none]), .dead, .row 5 (List.map eApiLock p5) true, .row 4 (List.map eFanProbe p6) true, .box (.ref 0 0 0), .box (.d (eApiIndex p1)), .box (.d (eFanSide p2)), .box (.d (eFanSide p3)), .box (.d (eApiPair y78)), .box (.d (eApiPair y98)), .row 9 (List.map eForestOp p4) true]) (o := .row 5 (List.map eApiLock p5) true) (σ' := [.box (.agg [.slc 10 9 0 p4.length none, .slc 11 5 0 p5.length none, .slc 3 4 0 p6.length none]), .dead, .dead, .row 4 (List.map eFanProbe p6) true, .box (.ref 0 0 0), .box (.d (eApiIndex p1)), .box (.d (eFanSide p2)), .box (.d (eFanSide p3)), .box (.d (eApiPair y78)), .box (.d (eApiPair y98)), .row 9 (List.map eForestOp p4) true, .row 5 (List.map eApiLock p5) true]) 2 (Nat.le_of_ble_eq_true rfl) rfl rfl rfl rfl) (wc [0, 1, 2, 3, 4, 5, 6, 7, 9, 10, 11] [0, 1, 2, 3, 4, 5, 6, 7, 9, 4, 5] (by kernel_rfl) rfl (by kernel_rfl))))))
        · rintro ⟨y114, y115⟩ h0
          obtain ⟨_, hq123, h0⟩ := ob h0
          refine sq (sr (s1 (lod (v := .d (eFanSide p3)) rfl (ld_box ts87 ta87 rfl rfl)) (c0 (fan_side_there_ok p3 _ hq123) wf rfl rfl rfl cb25 rfl (fun _ => rfl) (fun _ => rfl) (s1 (nt rfl) (sn (cB h0 rfl (fun h0 => ?_) (fun h0 => ?_)))))))
          · have q := si h0; subst q
            exact SC.ret (finR (Wk.trans (wq (e' := []) rfl) (Wk.trans (Wk.move (e' := []) (os := [.box (.agg [.slc 9 9 0 y114.length none, .slc 10 5 0 y115.length none, .slc 11 4 0 p6.length none]), .dead, .dead, .row 4 (List.map eFanProbe p6) true, .box (.ref 0 0 0), .box (.d (eApiIndex p1)), .box (.d (eFanSide p2)), .box (.d (eFanSide p3)), .box (.d (eApiPair y98)), .row 9 (List.map eForestOp y114) true, .row 5 (List.map eApiLock y115) true]) (o := .row 4 (List.map eFanProbe p6) true) (σ' := [.box (.agg [.slc 9 9 0 y114.length none, .slc 10 5 0 y115.length none, .slc 11 4 0 p6.length none]), .dead, .dead, .dead, .box (.ref 0 0 0), .box (.d (eApiIndex p1)), .box (.d (eFanSide p2)), .box (.d (eFanSide p3)), .box (.d (eApiPair y98)), .row 9 (List.map eForestOp y114) true, .row 5 (List.map eApiLock y115) true, .row 4 (List.map eFanProbe p6) true]) 3 (Nat.le_of_ble_eq_true rfl) rfl rfl rfl rfl) (wc (e' := []) [0, 1, 2, 3, 9, 10, 11] [0, 1, 2, 3] (by kernel_rfl) rfl (by kernel_rfl)))) lresN rfl)
          · obtain ⟨r124, hq125, h0⟩ := ob h0
            refine sk (sr (s1 (mv rfl) (s1 (far (k := 0) rfl fo99_0 ts9 rfl) (s1 (lod rfl (ld_box ts9 ta9 rfl rfl)) (s1 (far (k := 1) rfl fo99_1 ts9 rfl) (s1 (lod rfl (ld_box ts9 ta9 rfl rfl)) (s1 (bld rfl (bd61_1_2_4 (1 : Int) y98.Key y98.Val)) (ca (σ' := [.box (.agg [.slc 11 9 0 ((y114 ++ [(ForestOp.mk (1 : Int) p1.Tree (ApiMsg.mk (0 : UInt64) (1 : Int) y98.Key (0 : UInt64) y98.Val (0 : Int) (0 : UInt64)))]).length) none, .slc 12 5 0 r124.length none, .slc 3 4 0 p6.length none]), .dead, .dead, .row 4 (List.map eFanProbe p6) true, .box (.ref 0 0 0), .box (.d (eApiIndex p1)), .box (.d (eFanSide p2)), .box (.d (eFanSide p3)), .box (.d (eApiPair y98)), .dead, .dead, .row 9 (List.map eForestOp (y114 ++ [(ForestOp.mk (1 : Int) p1.Tree (ApiMsg.mk (0 : UInt64) (1 : Int) y98.Key (0 : UInt64) y98.Val (0 : Int) (0 : UInt64)))])) true, .row 5 (List.map eApiLock r124) true]) [4, 5, 0, 9, 10, 3] (fan_Work_index_1_1_ok (ApiMsg.mk (0 : UInt64) (1 : Int) y98.Key (0 : UInt64) y98.Val (0 : Int) (0 : UInt64)) p1 y114 y115 p6 _ hq125) wf rfl rfl rfl cb43 rfl rfl rfl rfl rfl rfl (sn ?_)))))))))
            refine SC.seqP h0 (fun y => ⟨mk 131 [(5, .ref 4 0 0), (7, .ref 5 0 0), (13, .d (eS y96)), (102, .d (eB y))], [.box (.agg [.slc 6 9 0 ((y114 ++ [(ForestOp.mk (1 : Int) p1.Tree (ApiMsg.mk (0 : UInt64) (1 : Int) y98.Key (0 : UInt64) y98.Val (0 : Int) (0 : UInt64)))]).length) none, .slc 7 5 0 r124.length none, .slc 3 4 0 p6.length none]), .dead, .dead, .row 4 (List.map eFanProbe p6) true, .box (.ref 0 0 0), .box (.d (eApiIndex p1)), .row 9 (List.map eForestOp (y114 ++ [(ForestOp.mk (1 : Int) p1.Tree (ApiMsg.mk (0 : UInt64) (1 : Int) y98.Key (0 : UInt64) y98.Val (0 : Int) (0 : UInt64)))])) true, .row 5 (List.map eApiLock r124) true]⟩) ?_ ?_
            · intro u1_128 h1
              refine SC.region (s1 (far (k := 4) rfl fo42_4 ts4 rfl) (s1 (lod rfl (ld_box ts4 ta4 rfl rfl)) (s1 (mv rfl) (sp h1 (fun h1 => ?_) (fun h1 => ?_)))))
              · refine g1 (wb rfl rfl rfl) (far (k := 3) rfl fo42_3 ts4 rfl) (g1 (wb rfl rfl rfl) (lod rfl (ld_box ts4 ta4 rfl rfl)) (s1 (pkt rfl rfl) (s1 (mv rfl) (sp h1 (fun h1 => ?_) (fun h1 => ?_)))))
                · refine g1 (wb rfl rfl rfl) (mv rfl) (g1 (wb rfl rfl rfl) (nt rfl) (s1 (pkt rfl rfl) (s1 (mv rfl) (sp h1 (fun h1 => ?_) (fun h1 => ?_)))))
                  · obtain ⟨_, hq129, h1⟩ := ob h1
                    refine g1 (wb rfl rfl rfl) (lod (v := .d (eFanSide p2)) rfl (ld_box ts87 ta87 rfl rfl)) (c0 (fan_side_there_ok p2 _ hq129) (wb rfl rfl rfl) rfl rfl rfl cb25 rfl (fun _ => rfl) (fun _ => rfl) (g1 (wb rfl rfl rfl) (mv rfl) (sp h1 (fun h1 => ?_) (fun h1 => ?_))))
                    · have q := si h1; subst q
                      exact g1 (wb rfl rfl rfl) (mv rfl) (g1 (wb rfl rfl rfl) (mv rfl) (g1 (wb rfl rfl rfl) (bi rfl rfl q_str_eql) (g1 (wb rfl rfl rfl) (pkt rfl rfl) (g1 (wb rfl rfl rfl) (nt rfl) (s1 (pkt rfl rfl) (SO.nil ((wc [0, 1, 2, 3, 4, 5, 11, 12] [0, 1, 2, 3, 4, 5] (by kernel_rfl) rfl (by kernel_rfl)))))))))
                    · have q := si h1; subst q
                      exact k1 (wb rfl rfl rfl) (k1 (wb rfl rfl rfl) (k1 (wb rfl rfl rfl) (g1 (wb rfl rfl rfl) (pkf rfl rfl) (g1 (wb rfl rfl rfl) (uo (v := .d (eB true)) rfl rfl rfl) (s1 (pkt rfl rfl) (SO.nil ((wc [0, 1, 2, 3, 4, 5, 11, 12] [0, 1, 2, 3, 4, 5] (by kernel_rfl) rfl (by kernel_rfl)))))))))
                  · have q := si h1; subst q
                    refine k1 (wb rfl rfl rfl) (k1 (wb rfl rfl rfl) (k1 (wb rfl rfl rfl) (k1 (wo rfl rfl) (k1 (wo rfl rfl) (k1 (wo rfl rfl) (k1 (wb rfl rfl rfl) (k1 (wb rfl rfl rfl) (s1 (pkf rfl rfl) (SO.nil ?_)))))))))
                    exact (wc [0, 1, 2, 3, 4, 5, 11, 12] [0, 1, 2, 3, 4, 5] (by kernel_rfl) rfl (by kernel_rfl))
                · have q := si h1; subst q
                  refine k1 (wb rfl rfl rfl) (k1 (wb rfl rfl rfl) (s1 (pkf rfl rfl) (s1 (mv rfl) (k1 (wb rfl rfl rfl) (k1 (wb rfl rfl rfl) (k1 (wb rfl rfl rfl) (k1 (wo rfl rfl) (k1 (wo rfl rfl) (k1 (wo rfl rfl) ?_)))))))))
                  exact k1 (wb rfl rfl rfl) (k1 (wb rfl rfl rfl) (s1 (pkf rfl rfl) (SO.nil ((wc [0, 1, 2, 3, 4, 5, 11, 12] [0, 1, 2, 3, 4, 5] (by kernel_rfl) rfl (by kernel_rfl))))))
              · have q := si h1; subst q
                refine k1 (wb rfl rfl rfl) (k1 (wb rfl rfl rfl) (s1 (pkf rfl rfl) (s1 (mv rfl) (k1 (wb rfl rfl rfl) (k1 (wb rfl rfl rfl) (s1 (pkf rfl rfl) (s1 (mv rfl) (k1 (wb rfl rfl rfl) (k1 (wb rfl rfl rfl) ?_)))))))))
                exact k1 (wb rfl rfl rfl) (k1 (wo rfl rfl) (k1 (wo rfl rfl) (k1 (wo rfl rfl) (k1 (wb rfl rfl rfl) (k1 (wb rfl rfl rfl) (s1 (pkf rfl rfl) (SO.nil ((wc [0, 1, 2, 3, 4, 5, 11, 12] [0, 1, 2, 3, 4, 5] (by kernel_rfl) rfl (by kernel_rfl))))))))))
            · rintro y127 h0
              refine cB h0 rfl (fun h0 => ?_) (fun h0 => ?_)
              · obtain ⟨r130, hq131, h0⟩ := ob h0; obtain ⟨hg132, h0⟩ := gd h0; obtain ⟨hg133, h0⟩ := gd h0; have q := si h0; subst q
                refine sr (s1 (mv rfl) (ca [] (key_Under_ok y96 _ hq131) wf rfl rfl rfl cb44 rfl rfl rfl rfl rfl rfl (s1 (alo (k := 9) zo65 rfl) (s0 (sto rfl rfl (sB (d' := .d (eApiSpan r130)) ts65 rfl rfl rfl rfl rfl rfl rfl)) (sn (sd (by kernel_rfl) (t1 ([4], false) (lod rfl (ld_box ts111 ta111 rfl rfl)) rfl (t1 ([4], false) (lod rfl (ld_box ts111 ta111 rfl rfl)) rfl (t1 ([], false) (nkr rfl) rfl ?_)))))))))
                refine t1 ([], false) (far (k := 1) rfl fo50_1 ts47 rfl) rfl (t1 ([0], false) (lod rfl (ld_box ts47 ta47 rfl rfl)) rfl (t1 ([], false) (far (k := 5) rfl fo42_5 ts3 rfl) rfl (t1 ([5], false) (lod rfl (ld_box ts3 ta3 rfl rfl)) rfl (t1 ([9], false) (lod (v := .d (eApiSpan r130)) rfl (ld_box ts65 ta65 rfl rfl)) rfl (t1 ([], false) (bld rfl (bd67_0_1 p1.Tree r130)) rfl (t1 ([10], true) (bsn (k := 10) (ds := List.map eApiLock [(ApiLock.mk p1.Tree r130 false)]) (off := 0) (l' := [(ApiLock.mk p1.Tree r130 false)].length) rfl un47 ei67 rfl rfl (by rfl) rfl rfl rfl) rfl (t1 ([7, 10, 11], true) (app rfl rfl rfl rfl bc47 (aF (f := eApiLock) (xs := r124) (k := 11) rfl un47 ei67 rfl (el_full (xs := [(ApiLock.mk p1.Tree r130 false)]) rfl) hg132 rfl)) rfl (t1 ([], false) (nkr rfl) rfl (t1 ([], false) (far (k := 1) rfl fo50_1 ts47 rfl) rfl ?_)))))))))
                refine t0 ([0, 11], true) (sto rfl rfl (sB (d' := .agg [.slc 6 9 0 ((y114 ++ [(ForestOp.mk (1 : Int) p1.Tree (ApiMsg.mk (0 : UInt64) (1 : Int) y98.Key (0 : UInt64) y98.Val (0 : Int) (0 : UInt64)))]).length) none, .slc 11 5 0 ((r124 ++ [(ApiLock.mk p1.Tree r130 false)]).length) none, .slc 3 4 0 p6.length none]) ts47 rfl rfl rfl rfl rfl rfl rfl)) rfl (tn (by decide +kernel) (SC.draws (by kernel_rfl) (t1 ([4], false) (lod rfl (ld_box ts111 ta111 rfl rfl)) rfl (t1 ([4], false) (lod rfl (ld_box ts111 ta111 rfl rfl)) rfl (t1 ([], false) (nkr rfl) rfl (t1 ([], false) (far (k := 2) rfl fo50_2 ts48 rfl) rfl (t1 ([0], false) (lod rfl (ld_box ts48 ta48 rfl rfl)) rfl (t1 ([], false) (far (k := 5) rfl fo42_5 ts3 rfl) rfl (t1 ([5], false) (lod rfl (ld_box ts3 ta3 rfl rfl)) rfl ?_)))))))))
                refine t1 ([9], false) (lod (v := .d (eApiSpan r130)) rfl (ld_box ts65 ta65 rfl rfl)) rfl (t1 ([], false) (bld rfl (bd70_0_1 p1.Tree r130)) rfl (t1 ([12], true) (bsn (k := 12) (ds := List.map eFanProbe [(FanProbe.mk p1.Tree r130)]) (off := 0) (l' := [(FanProbe.mk p1.Tree r130)].length) rfl un48 ei70 rfl rfl (by rfl) rfl rfl rfl) rfl (t1 ([3, 12, 13], true) (app rfl rfl rfl rfl bc48 (aF (f := eFanProbe) (xs := p6) (k := 13) rfl un48 ei70 rfl (el_full (xs := [(FanProbe.mk p1.Tree r130)]) rfl) hg133 rfl)) rfl (t1 ([], false) (nkr rfl) rfl (t1 ([], false) (far (k := 2) rfl fo50_2 ts48 rfl) rfl (t0 ([0, 13], true) (sto rfl rfl (sB (d' := .agg [.slc 6 9 0 ((y114 ++ [(ForestOp.mk (1 : Int) p1.Tree (ApiMsg.mk (0 : UInt64) (1 : Int) y98.Key (0 : UInt64) y98.Val (0 : Int) (0 : UInt64)))]).length) none, .slc 11 5 0 ((r124 ++ [(ApiLock.mk p1.Tree r130 false)]).length) none, .slc 13 4 0 ((p6 ++ [(FanProbe.mk p1.Tree r130)]).length) none]) ts48 rfl rfl rfl rfl rfl rfl rfl)) rfl (ST.nil (And.intro (by decide +kernel) ?_))))))))
                exact finN (Wk.trans (wq (e' := []) rfl) (wc (e' := []) [0, 1, 2, 3, 6, 11, 13] [0, 1, 2, 3] (by kernel_rfl) rfl (by kernel_rfl))) lresN rfl
              · have q := si h0; subst q
                exact SC.skip (finN (Wk.trans (wq (e' := []) rfl) (Wk.trans (Wk.move (e' := []) (os := [.box (.agg [.slc 6 9 0 ((y114 ++ [(ForestOp.mk (1 : Int) p1.Tree (ApiMsg.mk (0 : UInt64) (1 : Int) y98.Key (0 : UInt64) y98.Val (0 : Int) (0 : UInt64)))]).length) none, .slc 7 5 0 r124.length none, .slc 8 4 0 p6.length none]), .dead, .dead, .row 4 (List.map eFanProbe p6) true, .box (.ref 0 0 0), .box (.d (eApiIndex p1)), .row 9 (List.map eForestOp (y114 ++ [(ForestOp.mk (1 : Int) p1.Tree (ApiMsg.mk (0 : UInt64) (1 : Int) y98.Key (0 : UInt64) y98.Val (0 : Int) (0 : UInt64)))])) true, .row 5 (List.map eApiLock r124) true]) (o := .row 4 (List.map eFanProbe p6) true) (σ' := [.box (.agg [.slc 6 9 0 ((y114 ++ [(ForestOp.mk (1 : Int) p1.Tree (ApiMsg.mk (0 : UInt64) (1 : Int) y98.Key (0 : UInt64) y98.Val (0 : Int) (0 : UInt64)))]).length) none, .slc 7 5 0 r124.length none, .slc 8 4 0 p6.length none]), .dead, .dead, .dead, .box (.ref 0 0 0), .box (.d (eApiIndex p1)), .row 9 (List.map eForestOp (y114 ++ [(ForestOp.mk (1 : Int) p1.Tree (ApiMsg.mk (0 : UInt64) (1 : Int) y98.Key (0 : UInt64) y98.Val (0 : Int) (0 : UInt64)))])) true, .row 5 (List.map eApiLock r124) true, .row 4 (List.map eFanProbe p6) true]) 3 (Nat.le_of_ble_eq_true rfl) rfl rfl rfl rfl) (wc (e' := []) [0, 1, 2, 3, 6, 7, 8] [0, 1, 2, 3] (by kernel_rfl) rfl (by kernel_rfl)))) lresN rfl)

/-- granary/fan.Change -/
noncomputable def fan_Change (p0 : ApiTable) (p1 : List FanBuilt) (p2 : List ApiValue) (p3 : List ApiValue) : Option (Int × (List ForestOp) × (List ApiLock) × (List FanProbe)) :=
  Option.bind (α := Bool)
    (bif ((p1.length : Int) != (p0.Indexes.length : Int)) then
      some true
    else
      bif ((p2.length : Int) == (0 : Int)) then
        some ((p3.length : Int) == (0 : Int))
      else
        some false)
    fun y224 =>
  bif y224 then
    some ((1 : Int), ([] : List ForestOp), ([] : List ApiLock), ([] : List FanProbe))
  else
    Option.bind (fan_read p0 p2) fun (r226, r227) =>
    bif (r226 != (0 : Int)) then
      some (r226, ([] : List ForestOp), ([] : List ApiLock), ([] : List FanProbe))
    else
      Option.bind (fan_read p0 p3) fun (r229, r230) =>
      bif (r229 != (0 : Int)) then
        some (r229, ([] : List ForestOp), ([] : List ApiLock), ([] : List FanProbe))
      else
        bindE (Y := (List UInt8)) (E := Int × (List ForestOp) × (List ApiLock) × (List FanProbe))
          (Option.bind (fan_side_there r230) fun _ =>
          bif (!(decide ((r230.row.length : Int) > (0 : Int)))) then
            some (Sum.inl r227.primary)
          else
            Option.bind (α := Bool)
              (Option.bind (fan_side_there r227) fun _ =>
              bif (decide ((r227.row.length : Int) > (0 : Int))) then
                some (r227.primary != r230.primary)
              else
                some false)
              fun y241 =>
            bif y241 then
              some (Sum.inr ((1 : Int), ([] : List ForestOp), ([] : List ApiLock), ([] : List FanProbe)))
            else
              some (Sum.inl r230.primary))
          (fun y237 =>
            Option.bind (fan_Work_own p0.Tree y237) fun _ =>
            Option.bind (slices_Equal_api_Value_api_Value p2 p3) fun r245 =>
            bif r245 then
              some ((0 : Int), ([] : List ForestOp), [(ApiLock.mk p0.Tree (ApiSpan.mk y237 (y237 ++ ([0] : List UInt8)) false) true)], ([] : List FanProbe))
            else
              bindE (Y := (List ForestOp)) (E := Int × (List ForestOp) × (List ApiLock) × (List FanProbe))
                (Option.bind (fan_side_there r230) fun _ =>
                bif (decide ((r230.row.length : Int) > (0 : Int))) then
                  Option.bind (row_Encode p0.Cols p3) fun (r256, r257) =>
                  bif (r257 != (0 : Int)) then
                    some (Sum.inr (r257, ([] : List ForestOp), ([] : List ApiLock), ([] : List FanProbe)))
                  else
                    Option.bind (fan_Work_do p0.Tree (ApiMsg.mk (0 : UInt64) (1 : Int) y237 (0 : UInt64) r256 (0 : Int) (0 : UInt64)) [(ApiLock.mk p0.Tree (ApiSpan.mk y237 (y237 ++ ([0] : List UInt8)) false) true)]) fun _ =>
                    some (Sum.inl [(ForestOp.mk (1 : Int) p0.Tree (ApiMsg.mk (0 : UInt64) (1 : Int) y237 (0 : UInt64) r256 (0 : Int) (0 : UInt64)))])
                else
                  Option.bind (fan_Work_do p0.Tree (ApiMsg.mk (0 : UInt64) (2 : Int) y237 (0 : UInt64) ([] : List UInt8) (0 : Int) (0 : UInt64)) [(ApiLock.mk p0.Tree (ApiSpan.mk y237 (y237 ++ ([0] : List UInt8)) false) true)]) fun _ =>
                  some (Sum.inl [(ForestOp.mk (1 : Int) p0.Tree (ApiMsg.mk (0 : UInt64) (2 : Int) y237 (0 : UInt64) ([] : List UInt8) (0 : Int) (0 : UInt64)))]))
                (fun y253 =>
                  Option.bind (α := (List ForestOp) × (List ApiLock) × (List FanProbe))
                    (Option.bind (α := (List ForestOp) × (List ApiLock) × (List FanProbe))
                      (loop (Y := Int × (List ForestOp) × (List ApiLock) × (List FanProbe)) (W := (List ForestOp) × (List ApiLock) × (List FanProbe)) (fun (y380, y381, y382, y383) =>
                        bif (decide (y380 < (p0.Indexes.length : Int))) then
                          Option.bind (α := (List ForestOp) × (List ApiLock) × (List FanProbe))
                            (Option.bind (getI p0.Indexes y380) fun v431 =>
                            Option.bind (α := Bool)
                              (bif v431.Ready then
                                some true
                              else
                                Option.bind (getI p1 y380) fun v436 =>
                                bif v436.Any then
                                  Option.bind (getI p1 y380) fun v437 =>
                                  some (ltS y237 v437.Key || y237 == v437.Key)
                                else
                                  some false)
                              fun y434 =>
                            bif y434 then
                              Option.bind (fan_Work_index_2 p0 v431 r227 r230 y381 y382 y383) fun (r438, r439, r440) =>
                              some (r438, r439, r440)
                            else
                              some (y381, y382, y383))
                            fun (y427, y428, y429) =>
                          some (Sum.inl ((w64 (y380 + (1 : Int))), y427, y428, y429))
                        else
                          some (Sum.inr (y381, y382, y383))) ((0 : Int), y253, [(ApiLock.mk p0.Tree (ApiSpan.mk y237 (y237 ++ ([0] : List UInt8)) false) true)], ([] : List FanProbe)))
                      (fun e => some e))
                    fun (y350, y351, y352) =>
                  some ((0 : Int), y350, y351, y352))
                (fun e => some e))
          (fun e => some e)
theorem fan_Change_ok (p0 : ApiTable) (p1 : List FanBuilt) (p2 : List ApiValue) (p3 : List ApiValue) (r : Int × (List ForestOp) × (List ApiLock) × (List FanProbe)) (h0 : fan_Change p0 p1 p2 p3 = some r) : CallAt Tryd.prog 10 [.d (eApiTable p0), .d ((eL 2 eFanBuilt) p1), .d ((eL 3 eApiValue) p2), .d ((eL 3 eApiValue) p3)] [] (.tuple [.agg [.slc 1 9 0 r.2.1.length none, .slc 2 5 0 r.2.2.1.length none, .slc 3 4 0 r.2.2.2.length none], .d (eI r.1)]) [.box (.agg [.slc 1 9 0 r.2.1.length none, .slc 2 5 0 r.2.2.1.length none, .slc 3 4 0 r.2.2.2.length none]), .row 9 (List.map eForestOp r.2.1) true, .row 5 (List.map eApiLock r.2.2.1) true, .row 4 (List.map eFanProbe r.2.2.2) true] := by
  unfold fan_Change at h0
  refine fn0 [0, 1, 2, 3] Tryd.func10 rfl rfl rfl rfl rfl ?_
  refine sr (s1 (bxo (k := 0) rfl rfl rfl) (s1 (alo (k := 1) zo50 rfl) (s1 (asg rfl) (sn (sq (SC.seqP h0 (fun y => ⟨mk 139 [(1, .d ((eL 2 eFanBuilt) p1)), (2, .d ((eL 3 eApiValue) p2)), (3, .d ((eL 3 eApiValue) p3)), (4, .ref 0 0 0), (8, .ref 1 0 0), (34, .d (eB y))], [.box (.d (eApiTable p0)), .box (.d (.agg [.nils, .nils, .nils]))]⟩) ?_ ?_))))))
  · intro u1_225 h1
    refine SC.region (s1 (mv rfl) (s1 (len rfl rfl rfl (len_lst un27)) (s1 (far (k := 3) rfl fo26_3 ts24 rfl) (s1 (lod rfl (ld_box ts24 ta24 rfl rfl)) (s1 (len rfl rfl rfl (len_lst un24)) (s1 (bi rfl rfl q_i64_neq) (s1 (mv rfl) (sp h1 (fun h1 => ?_) (fun h1 => ?_)))))))))
    · have q := si h1; subst q
      refine k1 (wb rfl rfl rfl) (k1 (wb rfl rfl rfl) (k1 (wb rfl rfl rfl) (k1 (wb rfl rfl rfl) (k1 (wo rfl rfl) (k1 (wo rfl rfl) (k1 (wo rfl rfl) (k1 (wb rfl rfl rfl) (s1 (pkt rfl rfl) (SO.nil ?_)))))))))
      exact (wq rfl)
    · refine g1 (wb rfl rfl rfl) (mv rfl) (g1 (wb rfl rfl rfl) (len rfl rfl rfl (len_lst un43)) (g1 (wb rfl rfl rfl) (bi rfl rfl q_i64_eql) (g1 (wb rfl rfl rfl) (mv rfl) (sp h1 (fun h1 => ?_) (fun h1 => ?_)))))
      · have q := si h1; subst q
        exact g1 (wb rfl rfl rfl) (mv rfl) (g1 (wb rfl rfl rfl) (len rfl rfl rfl (len_lst un43)) (g1 (wb rfl rfl rfl) (bi rfl rfl q_i64_eql) (g1 (wb rfl rfl rfl) (pkt rfl rfl) (s1 (pkf rfl rfl) (SO.nil ((wq rfl)))))))
      · have q := si h1; subst q
        exact k1 (wb rfl rfl rfl) (k1 (wb rfl rfl rfl) (k1 (wb rfl rfl rfl) (g1 (wb rfl rfl rfl) (pkf rfl rfl) (s1 (pkf rfl rfl) (SO.nil ((wq rfl)))))))
  · rintro y224 h0
    refine cB h0 rfl (fun h0 => ?_) (fun h0 => ?_)
    · have q := si h0; subst q
      exact sr (s1 (bld rfl (bd50_ )) (s0 (sto rfl rfl (sB (d' := .d (.agg [.nils, .nils, .nils])) ts50 rfl rfl rfl rfl rfl rfl rfl)) (s1 (asg rfl) (sn (SC.ret (finR (Wk.trans (Wk.pushE (σ' := [.box (.d (eApiTable p0)), .box (.d (.agg [.nils, .nils, .nils])), .row 9 (List.map eForestOp ([] : List ForestOp)) true]) (.row 9 [] true) (fun _ hh => by cases hh) rfl) (Wk.trans (Wk.boxE (id := 1) (y := .agg [.slc 2 9 0 (([] : List ForestOp).length) none, .d .nils, .d .nils]) (σ' := [.box (.d (eApiTable p0)), .box (.agg [.slc 2 9 0 (([] : List ForestOp).length) none, .d .nils, .d .nils]), .row 9 (List.map eForestOp ([] : List ForestOp)) true]) rfl (AWs.cons (AW.slcn _ _ _) (AWs.cons (AW.refl _) (AWs.cons (AW.refl _) AWs.nil))) rfl) (Wk.trans (Wk.pushE (σ' := [.box (.d (eApiTable p0)), .box (.agg [.slc 2 9 0 (([] : List ForestOp).length) none, .d .nils, .d .nils]), .row 9 (List.map eForestOp ([] : List ForestOp)) true, .row 5 (List.map eApiLock ([] : List ApiLock)) true]) (.row 5 [] true) (fun _ hh => by cases hh) rfl) (Wk.trans (Wk.boxE (id := 1) (y := .agg [.slc 2 9 0 (([] : List ForestOp).length) none, .slc 3 5 0 (([] : List ApiLock).length) none, .d .nils]) (σ' := [.box (.d (eApiTable p0)), .box (.agg [.slc 2 9 0 (([] : List ForestOp).length) none, .slc 3 5 0 (([] : List ApiLock).length) none, .d .nils]), .row 9 (List.map eForestOp ([] : List ForestOp)) true, .row 5 (List.map eApiLock ([] : List ApiLock)) true]) rfl (AWs.cons (AW.refl _) (AWs.cons (AW.slcn _ _ _) (AWs.cons (AW.refl _) AWs.nil))) rfl) (Wk.trans (Wk.pushE (σ' := [.box (.d (eApiTable p0)), .box (.agg [.slc 2 9 0 (([] : List ForestOp).length) none, .slc 3 5 0 (([] : List ApiLock).length) none, .d .nils]), .row 9 (List.map eForestOp ([] : List ForestOp)) true, .row 5 (List.map eApiLock ([] : List ApiLock)) true, .row 4 (List.map eFanProbe ([] : List FanProbe)) true]) (.row 4 [] true) (fun _ hh => by cases hh) rfl) (Wk.trans (Wk.boxE (id := 1) (y := .agg [.slc 2 9 0 (([] : List ForestOp).length) none, .slc 3 5 0 (([] : List ApiLock).length) none, .slc 4 4 0 (([] : List FanProbe).length) none]) (σ' := [.box (.d (eApiTable p0)), .box (.agg [.slc 2 9 0 (([] : List ForestOp).length) none, .slc 3 5 0 (([] : List ApiLock).length) none, .slc 4 4 0 (([] : List FanProbe).length) none]), .row 9 (List.map eForestOp ([] : List ForestOp)) true, .row 5 (List.map eApiLock ([] : List ApiLock)) true, .row 4 (List.map eFanProbe ([] : List FanProbe)) true]) rfl (AWs.cons (AW.refl _) (AWs.cons (AW.refl _) (AWs.cons (AW.slcn _ _ _) AWs.nil))) rfl) (wc (e' := [(8, .ref 0 0 0), (9, .d (eI (1 : Int)))]) [1, 2, 3, 4] [1] (by kernel_rfl) rfl (by kernel_rfl)))))))) (lresC rfl (ld_box ts50 ta50 rfl rfl) (lresT rfl lresN)) rfl))))))
    · obtain ⟨⟨r226, r227⟩, hq228, h0⟩ := ob h0
      refine sk (sr (s1 (lod (v := .d (eApiTable p0)) rfl (ld_box ts26 ta26 rfl rfl)) (s1 (mv rfl) (ca [] (fan_read_ok p0 p2 _ hq228) wf rfl rfl rfl cb24 rfl rfl rfl rfl rfl rfl (s1 (mv rfl) (s1 (ext rfl rfl) (s1 (ext rfl rfl) (s1 (alo (k := 3) zo87 rfl) (s0 (sto rfl rfl (sB (d' := .d (eFanSide r227)) ts87 rfl rfl rfl rfl rfl rfl rfl)) ?_)))))))))
      refine s1 (asg rfl) (sn (sq (sr (s1 (mv rfl) (s1 (bi rfl rfl q_i64_neq) (sn (cB h0 rfl (fun h0 => ?_) (fun h0 => ?_))))))))
      · have q := si h0; subst q
        exact sr (s1 (bld rfl (bd50_ )) (s1 (mv rfl) (s0 (sto rfl rfl (sB (d' := .d (.agg [.nils, .nils, .nils])) ts50 rfl rfl rfl rfl rfl rfl rfl)) (s1 (asg rfl) (sn (SC.ret (finR (Wk.trans (Wk.pushE (σ' := [.box (.d (eApiTable p0)), .box (.d (.agg [.nils, .nils, .nils])), .box (.d (eFanSide r227)), .box (.d (eFanSide r227)), .row 9 (List.map eForestOp ([] : List ForestOp)) true]) (.row 9 [] true) (fun _ hh => by cases hh) rfl) (Wk.trans (Wk.boxE (id := 1) (y := .agg [.slc 4 9 0 (([] : List ForestOp).length) none, .d .nils, .d .nils]) (σ' := [.box (.d (eApiTable p0)), .box (.agg [.slc 4 9 0 (([] : List ForestOp).length) none, .d .nils, .d .nils]), .box (.d (eFanSide r227)), .box (.d (eFanSide r227)), .row 9 (List.map eForestOp ([] : List ForestOp)) true]) rfl (AWs.cons (AW.slcn _ _ _) (AWs.cons (AW.refl _) (AWs.cons (AW.refl _) AWs.nil))) rfl) (Wk.trans (Wk.pushE (σ' := [.box (.d (eApiTable p0)), .box (.agg [.slc 4 9 0 (([] : List ForestOp).length) none, .d .nils, .d .nils]), .box (.d (eFanSide r227)), .box (.d (eFanSide r227)), .row 9 (List.map eForestOp ([] : List ForestOp)) true, .row 5 (List.map eApiLock ([] : List ApiLock)) true]) (.row 5 [] true) (fun _ hh => by cases hh) rfl) (Wk.trans (Wk.boxE (id := 1) (y := .agg [.slc 4 9 0 (([] : List ForestOp).length) none, .slc 5 5 0 (([] : List ApiLock).length) none, .d .nils]) (σ' := [.box (.d (eApiTable p0)), .box (.agg [.slc 4 9 0 (([] : List ForestOp).length) none, .slc 5 5 0 (([] : List ApiLock).length) none, .d .nils]), .box (.d (eFanSide r227)), .box (.d (eFanSide r227)), .row 9 (List.map eForestOp ([] : List ForestOp)) true, .row 5 (List.map eApiLock ([] : List ApiLock)) true]) rfl (AWs.cons (AW.refl _) (AWs.cons (AW.slcn _ _ _) (AWs.cons (AW.refl _) AWs.nil))) rfl) (Wk.trans (Wk.pushE (σ' := [.box (.d (eApiTable p0)), .box (.agg [.slc 4 9 0 (([] : List ForestOp).length) none, .slc 5 5 0 (([] : List ApiLock).length) none, .d .nils]), .box (.d (eFanSide r227)), .box (.d (eFanSide r227)), .row 9 (List.map eForestOp ([] : List ForestOp)) true, .row 5 (List.map eApiLock ([] : List ApiLock)) true, .row 4 (List.map eFanProbe ([] : List FanProbe)) true]) (.row 4 [] true) (fun _ hh => by cases hh) rfl) (Wk.trans (Wk.boxE (id := 1) (y := .agg [.slc 4 9 0 (([] : List ForestOp).length) none, .slc 5 5 0 (([] : List ApiLock).length) none, .slc 6 4 0 (([] : List FanProbe).length) none]) (σ' := [.box (.d (eApiTable p0)), .box (.agg [.slc 4 9 0 (([] : List ForestOp).length) none, .slc 5 5 0 (([] : List ApiLock).length) none, .slc 6 4 0 (([] : List FanProbe).length) none]), .box (.d (eFanSide r227)), .box (.d (eFanSide r227)), .row 9 (List.map eForestOp ([] : List ForestOp)) true, .row 5 (List.map eApiLock ([] : List ApiLock)) true, .row 4 (List.map eFanProbe ([] : List FanProbe)) true]) rfl (AWs.cons (AW.refl _) (AWs.cons (AW.refl _) (AWs.cons (AW.slcn _ _ _) AWs.nil))) rfl) (wc (e' := [(8, .ref 0 0 0), (9, .d (eI r226))]) [1, 4, 5, 6] [1] (by kernel_rfl) rfl (by kernel_rfl)))))))) (lresC rfl (ld_box ts50 ta50 rfl rfl) (lresT rfl lresN)) rfl)))))))
      · obtain ⟨⟨r229, r230⟩, hq231, h0⟩ := ob h0
        refine sk (sr (s1 (lod (v := .d (eApiTable p0)) rfl (ld_box ts26 ta26 rfl rfl)) (s1 (mv rfl) (ca [] (fan_read_ok p0 p3 _ hq231) wf rfl rfl rfl cb24 rfl rfl rfl rfl rfl rfl (s1 (mv rfl) (s1 (ext rfl rfl) (s1 (ext rfl rfl) (s1 (alo (k := 5) zo87 rfl) (s0 (sto rfl rfl (sB (d' := .d (eFanSide r230)) ts87 rfl rfl rfl rfl rfl rfl rfl)) ?_)))))))))
        refine s1 (asg rfl) (sn (sq (sr (s1 (mv rfl) (s1 (bi rfl rfl q_i64_neq) (sn (cB h0 rfl (fun h0 => ?_) (fun h0 => ?_))))))))
        · have q := si h0; subst q
          exact sr (s1 (bld rfl (bd50_ )) (s1 (mv rfl) (s0 (sto rfl rfl (sB (d' := .d (.agg [.nils, .nils, .nils])) ts50 rfl rfl rfl rfl rfl rfl rfl)) (s1 (asg rfl) (sn (SC.ret (finR (Wk.trans (Wk.pushE (σ' := [.box (.d (eApiTable p0)), .box (.d (.agg [.nils, .nils, .nils])), .box (.d (eFanSide r227)), .box (.d (eFanSide r227)), .box (.d (eFanSide r230)), .box (.d (eFanSide r230)), .row 9 (List.map eForestOp ([] : List ForestOp)) true]) (.row 9 [] true) (fun _ hh => by cases hh) rfl) (Wk.trans (Wk.boxE (id := 1) (y := .agg [.slc 6 9 0 (([] : List ForestOp).length) none, .d .nils, .d .nils]) (σ' := [.box (.d (eApiTable p0)), .box (.agg [.slc 6 9 0 (([] : List ForestOp).length) none, .d .nils, .d .nils]), .box (.d (eFanSide r227)), .box (.d (eFanSide r227)), .box (.d (eFanSide r230)), .box (.d (eFanSide r230)), .row 9 (List.map eForestOp ([] : List ForestOp)) true]) rfl (AWs.cons (AW.slcn _ _ _) (AWs.cons (AW.refl _) (AWs.cons (AW.refl _) AWs.nil))) rfl) (Wk.trans (Wk.pushE (σ' := [.box (.d (eApiTable p0)), .box (.agg [.slc 6 9 0 (([] : List ForestOp).length) none, .d .nils, .d .nils]), .box (.d (eFanSide r227)), .box (.d (eFanSide r227)), .box (.d (eFanSide r230)), .box (.d (eFanSide r230)), .row 9 (List.map eForestOp ([] : List ForestOp)) true, .row 5 (List.map eApiLock ([] : List ApiLock)) true]) (.row 5 [] true) (fun _ hh => by cases hh) rfl) (Wk.trans (Wk.boxE (id := 1) (y := .agg [.slc 6 9 0 (([] : List ForestOp).length) none, .slc 7 5 0 (([] : List ApiLock).length) none, .d .nils]) (σ' := [.box (.d (eApiTable p0)), .box (.agg [.slc 6 9 0 (([] : List ForestOp).length) none, .slc 7 5 0 (([] : List ApiLock).length) none, .d .nils]), .box (.d (eFanSide r227)), .box (.d (eFanSide r227)), .box (.d (eFanSide r230)), .box (.d (eFanSide r230)), .row 9 (List.map eForestOp ([] : List ForestOp)) true, .row 5 (List.map eApiLock ([] : List ApiLock)) true]) rfl (AWs.cons (AW.refl _) (AWs.cons (AW.slcn _ _ _) (AWs.cons (AW.refl _) AWs.nil))) rfl) (Wk.trans (Wk.pushE (σ' := [.box (.d (eApiTable p0)), .box (.agg [.slc 6 9 0 (([] : List ForestOp).length) none, .slc 7 5 0 (([] : List ApiLock).length) none, .d .nils]), .box (.d (eFanSide r227)), .box (.d (eFanSide r227)), .box (.d (eFanSide r230)), .box (.d (eFanSide r230)), .row 9 (List.map eForestOp ([] : List ForestOp)) true, .row 5 (List.map eApiLock ([] : List ApiLock)) true, .row 4 (List.map eFanProbe ([] : List FanProbe)) true]) (.row 4 [] true) (fun _ hh => by cases hh) rfl) (Wk.trans (Wk.boxE (id := 1) (y := .agg [.slc 6 9 0 (([] : List ForestOp).length) none, .slc 7 5 0 (([] : List ApiLock).length) none, .slc 8 4 0 (([] : List FanProbe).length) none]) (σ' := [.box (.d (eApiTable p0)), .box (.agg [.slc 6 9 0 (([] : List ForestOp).length) none, .slc 7 5 0 (([] : List ApiLock).length) none, .slc 8 4 0 (([] : List FanProbe).length) none]), .box (.d (eFanSide r227)), .box (.d (eFanSide r227)), .box (.d (eFanSide r230)), .box (.d (eFanSide r230)), .row 9 (List.map eForestOp ([] : List ForestOp)) true, .row 5 (List.map eApiLock ([] : List ApiLock)) true, .row 4 (List.map eFanProbe ([] : List FanProbe)) true]) rfl (AWs.cons (AW.refl _) (AWs.cons (AW.refl _) (AWs.cons (AW.slcn _ _ _) AWs.nil))) rfl) (wc (e' := [(8, .ref 0 0 0), (9, .d (eI r229))]) [1, 6, 7, 8] [1] (by kernel_rfl) rfl (by kernel_rfl)))))))) (lresC rfl (ld_box ts50 ta50 rfl rfl) (lresT rfl lresN)) rfl)))))))
        · refine sk (sr (s1 (far (k := 1) rfl fo87_1 ts9 rfl) (s1 (lod rfl (ld_box ts9 ta9 rfl rfl)) (s1 (asg rfl) (sn (SC.seqB h0 (fun y => ⟨mk 139 [(1, .d ((eL 2 eFanBuilt) p1)), (2, .d ((eL 3 eApiValue) p2)), (3, .d ((eL 3 eApiValue) p3)), (4, .ref 0 0 0), (8, .ref 1 0 0), (10, .ref 2 0 0), (12, .ref 3 0 0), (13, .d (eS y))], [.box (.d (eApiTable p0)), .box (.d (.agg [.nils, .nils, .nils])), .box (.d (eFanSide r227)), .box (.d (eFanSide r230))]⟩) ?_ ?_))))))
          · intro u1_238 h1 h0
            obtain ⟨_, hq239, h1⟩ := ob h1
            refine SC.blk (sr (s1 (lod (v := .d (eFanSide r230)) rfl (ld_box ts87 ta87 rfl rfl)) (c0 (fan_side_there_ok r230 _ hq239) wf rfl rfl rfl cb25 rfl (fun _ => rfl) (fun _ => rfl) (s1 (nt rfl) (s1 (asg rfl) (sn (cB h1 rfl (fun h1 => ?_) (fun h1 => ?_))))))))
            · have q := si h1; subst q
              exact SC.region (s1 (far (k := 1) rfl fo87_1 ts9 rfl) (s1 (lod rfl (ld_box ts9 ta9 rfl rfl)) (s1 (asg rfl) (SO.nil (lf (wc [0, 1, 3, 5] [0, 1, 3, 5] (by kernel_rfl) rfl (by kernel_rfl)))))))
            · refine SC.seqP h1 (fun y => ⟨mk 139 [(1, .d ((eL 2 eFanBuilt) p1)), (2, .d ((eL 3 eApiValue) p2)), (3, .d ((eL 3 eApiValue) p3)), (4, .ref 0 0 0), (8, .ref 1 0 0), (10, .ref 2 0 0), (12, .ref 3 0 0), (13, .d (eS r230.primary)), (64, .d (eB y))], [.box (.d (eApiTable p0)), .box (.d (.agg [.nils, .nils, .nils])), .box (.d (eFanSide r227)), .box (.d (eFanSide r230))]⟩) ?_ ?_
              · intro u2_242 h2
                obtain ⟨_, hq243, h2⟩ := ob h2
                refine SC.region (s1 (lod (v := .d (eFanSide r227)) rfl (ld_box ts87 ta87 rfl rfl)) (c0 (fan_side_there_ok r227 _ hq243) wf rfl rfl rfl cb25 rfl (fun _ => rfl) (fun _ => rfl) (s1 (mv rfl) (sp h2 (fun h2 => ?_) (fun h2 => ?_)))))
                · have q := si h2; subst q
                  exact g1 (wb rfl rfl rfl) (far (k := 1) rfl fo87_1 ts9 rfl) (g1 (wb rfl rfl rfl) (lod rfl (ld_box ts9 ta9 rfl rfl)) (g1 (wb rfl rfl rfl) (mv rfl) (g1 (wb rfl rfl rfl) (bi rfl rfl q_str_neq) (s1 (pkt rfl rfl) (s1 (asg rfl) (SO.nil ((wc [0, 1, 3, 5] [0, 1, 3, 5] (by kernel_rfl) rfl (by kernel_rfl)))))))))
                · have q := si h2; subst q
                  exact k1 (wb rfl rfl rfl) (k1 (wb rfl rfl rfl) (k1 (wb rfl rfl rfl) (k1 (wb rfl rfl rfl) (s1 (pkf rfl rfl) (s1 (asg rfl) (SO.nil ((wc [0, 1, 3, 5] [0, 1, 3, 5] (by kernel_rfl) rfl (by kernel_rfl)))))))))
              · rintro y241 h1
                refine cB h1 rfl (fun h1 => ?_) (fun h1 => ?_)
                · have q := si h1; subst q; have q := si h0; subst q
                  exact sr (s1 (bld rfl (bd50_ )) (s0 (sto rfl rfl (sB (d' := .d (.agg [.nils, .nils, .nils])) ts50 rfl rfl rfl rfl rfl rfl rfl)) (s1 (asg rfl) (sn (SC.ret (finR (Wk.trans (Wk.pushE (σ' := [.box (.d (eApiTable p0)), .box (.d (.agg [.nils, .nils, .nils])), .box (.d (eFanSide r227)), .box (.d (eFanSide r230)), .row 9 (List.map eForestOp ([] : List ForestOp)) true]) (.row 9 [] true) (fun _ hh => by cases hh) rfl) (Wk.trans (Wk.boxE (id := 1) (y := .agg [.slc 4 9 0 (([] : List ForestOp).length) none, .d .nils, .d .nils]) (σ' := [.box (.d (eApiTable p0)), .box (.agg [.slc 4 9 0 (([] : List ForestOp).length) none, .d .nils, .d .nils]), .box (.d (eFanSide r227)), .box (.d (eFanSide r230)), .row 9 (List.map eForestOp ([] : List ForestOp)) true]) rfl (AWs.cons (AW.slcn _ _ _) (AWs.cons (AW.refl _) (AWs.cons (AW.refl _) AWs.nil))) rfl) (Wk.trans (Wk.pushE (σ' := [.box (.d (eApiTable p0)), .box (.agg [.slc 4 9 0 (([] : List ForestOp).length) none, .d .nils, .d .nils]), .box (.d (eFanSide r227)), .box (.d (eFanSide r230)), .row 9 (List.map eForestOp ([] : List ForestOp)) true, .row 5 (List.map eApiLock ([] : List ApiLock)) true]) (.row 5 [] true) (fun _ hh => by cases hh) rfl) (Wk.trans (Wk.boxE (id := 1) (y := .agg [.slc 4 9 0 (([] : List ForestOp).length) none, .slc 5 5 0 (([] : List ApiLock).length) none, .d .nils]) (σ' := [.box (.d (eApiTable p0)), .box (.agg [.slc 4 9 0 (([] : List ForestOp).length) none, .slc 5 5 0 (([] : List ApiLock).length) none, .d .nils]), .box (.d (eFanSide r227)), .box (.d (eFanSide r230)), .row 9 (List.map eForestOp ([] : List ForestOp)) true, .row 5 (List.map eApiLock ([] : List ApiLock)) true]) rfl (AWs.cons (AW.refl _) (AWs.cons (AW.slcn _ _ _) (AWs.cons (AW.refl _) AWs.nil))) rfl) (Wk.trans (Wk.pushE (σ' := [.box (.d (eApiTable p0)), .box (.agg [.slc 4 9 0 (([] : List ForestOp).length) none, .slc 5 5 0 (([] : List ApiLock).length) none, .d .nils]), .box (.d (eFanSide r227)), .box (.d (eFanSide r230)), .row 9 (List.map eForestOp ([] : List ForestOp)) true, .row 5 (List.map eApiLock ([] : List ApiLock)) true, .row 4 (List.map eFanProbe ([] : List FanProbe)) true]) (.row 4 [] true) (fun _ hh => by cases hh) rfl) (Wk.trans (Wk.boxE (id := 1) (y := .agg [.slc 4 9 0 (([] : List ForestOp).length) none, .slc 5 5 0 (([] : List ApiLock).length) none, .slc 6 4 0 (([] : List FanProbe).length) none]) (σ' := [.box (.d (eApiTable p0)), .box (.agg [.slc 4 9 0 (([] : List ForestOp).length) none, .slc 5 5 0 (([] : List ApiLock).length) none, .slc 6 4 0 (([] : List FanProbe).length) none]), .box (.d (eFanSide r227)), .box (.d (eFanSide r230)), .row 9 (List.map eForestOp ([] : List ForestOp)) true, .row 5 (List.map eApiLock ([] : List ApiLock)) true, .row 4 (List.map eFanProbe ([] : List FanProbe)) true]) rfl (AWs.cons (AW.refl _) (AWs.cons (AW.refl _) (AWs.cons (AW.slcn _ _ _) AWs.nil))) rfl) (wc (e' := [(8, .ref 0 0 0), (9, .d (eI (1 : Int)))]) [1, 4, 5, 6] [1] (by kernel_rfl) rfl (by kernel_rfl)))))))) (lresC rfl (ld_box ts50 ta50 rfl rfl) (lresT rfl lresN)) rfl))))))
                · have q := si h1; subst q
                  exact SC.skip (lf (wq rfl))
          · rintro y237 h0
            obtain ⟨_, hq244, h0⟩ := ob h0; obtain ⟨r245, hq246, h0⟩ := ob h0
            refine sr (s1 (alo (k := 4) zo50 rfl) (sn (sr (s1 (far (k := 4) rfl fo26_4 ts3 rfl) (s1 (lod rfl (ld_box ts3 ta3 rfl rfl)) (s1 (mv rfl) (ca (σ' := [.box (.d (eApiTable p0)), .box (.d (.agg [.nils, .nils, .nils])), .box (.d (eFanSide r227)), .box (.d (eFanSide r230)), .box (.agg [.d .nils, .slc 5 5 0 ([(ApiLock.mk p0.Tree (ApiSpan.mk y237 (y237 ++ ([0] : List UInt8)) false) true)].length) none, .d .nils]), .row 5 (List.map eApiLock [(ApiLock.mk p0.Tree (ApiSpan.mk y237 (y237 ++ ([0] : List UInt8)) false) true)]) true]) [4] (fan_Work_own_ok p0.Tree y237 _ hq244) wf rfl rfl rfl cb26 rfl rfl rfl rfl rfl rfl (sn (sq ?_)))))))))
            refine sr (s1 (mv rfl) (s1 (mv rfl) (c0 (slices_Equal_api_Value_api_Value_ok p2 p3 _ hq246) wf rfl rfl rfl cb27 rfl (fun _ => rfl) (fun _ => rfl) (sn (cB h0 rfl (fun h0 => ?_) (fun h0 => ?_))))))
            · have q := si h0; subst q
              exact sr (s1 (lod (v := .agg [.d .nils, .slc 5 5 0 ([(ApiLock.mk p0.Tree (ApiSpan.mk y237 (y237 ++ ([0] : List UInt8)) false) true)].length) none, .d .nils]) rfl (ld_box ts50 ta50 rfl rfl)) (s0 (sto rfl rfl (sB (d' := .agg [.d .nils, .slc 5 5 0 ([(ApiLock.mk p0.Tree (ApiSpan.mk y237 (y237 ++ ([0] : List UInt8)) false) true)].length) none, .d .nils]) ts50 rfl rfl rfl rfl rfl rfl rfl)) (s1 (asg rfl) (sn (SC.ret (finR (Wk.trans (Wk.pushE (σ' := [.box (.d (eApiTable p0)), .box (.agg [.d .nils, .slc 5 5 0 ([(ApiLock.mk p0.Tree (ApiSpan.mk y237 (y237 ++ ([0] : List UInt8)) false) true)].length) none, .d .nils]), .box (.d (eFanSide r227)), .box (.d (eFanSide r230)), .box (.agg [.d .nils, .slc 5 5 0 ([(ApiLock.mk p0.Tree (ApiSpan.mk y237 (y237 ++ ([0] : List UInt8)) false) true)].length) none, .d .nils]), .row 5 (List.map eApiLock [(ApiLock.mk p0.Tree (ApiSpan.mk y237 (y237 ++ ([0] : List UInt8)) false) true)]) true, .row 9 (List.map eForestOp ([] : List ForestOp)) true]) (.row 9 [] true) (fun _ hh => by cases hh) rfl) (Wk.trans (Wk.boxE (id := 1) (y := .agg [.slc 6 9 0 (([] : List ForestOp).length) none, .slc 5 5 0 ([(ApiLock.mk p0.Tree (ApiSpan.mk y237 (y237 ++ ([0] : List UInt8)) false) true)].length) none, .d .nils]) (σ' := [.box (.d (eApiTable p0)), .box (.agg [.slc 6 9 0 (([] : List ForestOp).length) none, .slc 5 5 0 ([(ApiLock.mk p0.Tree (ApiSpan.mk y237 (y237 ++ ([0] : List UInt8)) false) true)].length) none, .d .nils]), .box (.d (eFanSide r227)), .box (.d (eFanSide r230)), .box (.agg [.d .nils, .slc 5 5 0 ([(ApiLock.mk p0.Tree (ApiSpan.mk y237 (y237 ++ ([0] : List UInt8)) false) true)].length) none, .d .nils]), .row 5 (List.map eApiLock [(ApiLock.mk p0.Tree (ApiSpan.mk y237 (y237 ++ ([0] : List UInt8)) false) true)]) true, .row 9 (List.map eForestOp ([] : List ForestOp)) true]) rfl (AWs.cons (AW.slcn _ _ _) (AWs.cons (AW.refl _) (AWs.cons (AW.refl _) AWs.nil))) rfl) (Wk.trans (Wk.pushE (σ' := [.box (.d (eApiTable p0)), .box (.agg [.slc 6 9 0 (([] : List ForestOp).length) none, .slc 5 5 0 ([(ApiLock.mk p0.Tree (ApiSpan.mk y237 (y237 ++ ([0] : List UInt8)) false) true)].length) none, .d .nils]), .box (.d (eFanSide r227)), .box (.d (eFanSide r230)), .box (.agg [.d .nils, .slc 5 5 0 ([(ApiLock.mk p0.Tree (ApiSpan.mk y237 (y237 ++ ([0] : List UInt8)) false) true)].length) none, .d .nils]), .row 5 (List.map eApiLock [(ApiLock.mk p0.Tree (ApiSpan.mk y237 (y237 ++ ([0] : List UInt8)) false) true)]) true, .row 9 (List.map eForestOp ([] : List ForestOp)) true, .row 4 (List.map eFanProbe ([] : List FanProbe)) true]) (.row 4 [] true) (fun _ hh => by cases hh) rfl) (Wk.trans (Wk.boxE (id := 1) (y := .agg [.slc 6 9 0 (([] : List ForestOp).length) none, .slc 5 5 0 ([(ApiLock.mk p0.Tree (ApiSpan.mk y237 (y237 ++ ([0] : List UInt8)) false) true)].length) none, .slc 7 4 0 (([] : List FanProbe).length) none]) (σ' := [.box (.d (eApiTable p0)), .box (.agg [.slc 6 9 0 (([] : List ForestOp).length) none, .slc 5 5 0 ([(ApiLock.mk p0.Tree (ApiSpan.mk y237 (y237 ++ ([0] : List UInt8)) false) true)].length) none, .slc 7 4 0 (([] : List FanProbe).length) none]), .box (.d (eFanSide r227)), .box (.d (eFanSide r230)), .box (.agg [.d .nils, .slc 5 5 0 ([(ApiLock.mk p0.Tree (ApiSpan.mk y237 (y237 ++ ([0] : List UInt8)) false) true)].length) none, .d .nils]), .row 5 (List.map eApiLock [(ApiLock.mk p0.Tree (ApiSpan.mk y237 (y237 ++ ([0] : List UInt8)) false) true)]) true, .row 9 (List.map eForestOp ([] : List ForestOp)) true, .row 4 (List.map eFanProbe ([] : List FanProbe)) true]) rfl (AWs.cons (AW.refl _) (AWs.cons (AW.refl _) (AWs.cons (AW.slcn _ _ _) AWs.nil))) rfl) (wc (e' := [(8, .ref 0 0 0), (9, .d (eI (0 : Int)))]) [1, 6, 5, 7] [1] (by kernel_rfl) rfl (by kernel_rfl)))))) (lresC rfl (ld_box ts50 ta50 rfl rfl) (lresT rfl lresN)) rfl))))))
            · refine sk (SC.seqB h0 (fun y => ⟨mk 139 [(1, .d ((eL 2 eFanBuilt) p1)), (4, .ref 0 0 0), (8, .ref 1 0 0), (10, .ref 2 0 0), (12, .ref 3 0 0), (13, .d (eS y237)), (14, .ref 4 0 0)], [.box (.d (eApiTable p0)), .box (.d (.agg [.nils, .nils, .nils])), .box (.d (eFanSide r227)), .box (.d (eFanSide r230)), .box (.agg [.slc 5 9 0 y.length none, .slc 6 5 0 ([(ApiLock.mk p0.Tree (ApiSpan.mk y237 (y237 ++ ([0] : List UInt8)) false) true)].length) none, .d .nils]), .row 9 (List.map eForestOp y) true, .row 5 (List.map eApiLock [(ApiLock.mk p0.Tree (ApiSpan.mk y237 (y237 ++ ([0] : List UInt8)) false) true)]) true]⟩) ?_ ?_)
              · intro u1_254 h1 h0
                obtain ⟨_, hq255, h1⟩ := ob h1
                refine sr (s1 (lod (v := .d (eFanSide r230)) rfl (ld_box ts87 ta87 rfl rfl)) (c0 (fan_side_there_ok r230 _ hq255) wf rfl rfl rfl cb25 rfl (fun _ => rfl) (fun _ => rfl) (sn (cB h1 rfl (fun h1 => ?_) (fun h1 => ?_)))))
                · obtain ⟨⟨r256, r257⟩, hq258, h1⟩ := ob h1
                  refine sr (s1 (far (k := 1) rfl fo26_1 ts22 rfl) (s1 (lod rfl (ld_box ts22 ta22 rfl rfl)) (s1 (mv rfl) (c0 (row_Encode_ok p0.Cols p3 _ hq258) wf rfl rfl rfl cb28 rfl (fun _ => rfl) (fun _ => rfl) (s1 (mv rfl) (s1 (ext rfl rfl) (s1 (ext rfl rfl) (s1 (asg rfl) (s1 (asg rfl) ?_)))))))))
                  refine sn (sq (sr (s1 (mv rfl) (s1 (bi rfl rfl q_i64_neq) (sn (cB h1 rfl (fun h1 => ?_) (fun h1 => ?_)))))))
                  · have q := si h1; subst q; have q := si h0; subst q
                    exact sr (s1 (bld rfl (bd50_ )) (s1 (mv rfl) (s0 (sto rfl rfl (sB (d' := .d (.agg [.nils, .nils, .nils])) ts50 rfl rfl rfl rfl rfl rfl rfl)) (s1 (asg rfl) (sn (SC.ret (finR (Wk.trans (Wk.pushE (σ' := [.box (.d (eApiTable p0)), .box (.d (.agg [.nils, .nils, .nils])), .box (.d (eFanSide r227)), .box (.d (eFanSide r230)), .box (.agg [.d .nils, .slc 5 5 0 ([(ApiLock.mk p0.Tree (ApiSpan.mk y237 (y237 ++ ([0] : List UInt8)) false) true)].length) none, .d .nils]), .row 5 (List.map eApiLock [(ApiLock.mk p0.Tree (ApiSpan.mk y237 (y237 ++ ([0] : List UInt8)) false) true)]) true, .row 9 (List.map eForestOp ([] : List ForestOp)) true]) (.row 9 [] true) (fun _ hh => by cases hh) rfl) (Wk.trans (Wk.boxE (id := 1) (y := .agg [.slc 6 9 0 (([] : List ForestOp).length) none, .d .nils, .d .nils]) (σ' := [.box (.d (eApiTable p0)), .box (.agg [.slc 6 9 0 (([] : List ForestOp).length) none, .d .nils, .d .nils]), .box (.d (eFanSide r227)), .box (.d (eFanSide r230)), .box (.agg [.d .nils, .slc 5 5 0 ([(ApiLock.mk p0.Tree (ApiSpan.mk y237 (y237 ++ ([0] : List UInt8)) false) true)].length) none, .d .nils]), .row 5 (List.map eApiLock [(ApiLock.mk p0.Tree (ApiSpan.mk y237 (y237 ++ ([0] : List UInt8)) false) true)]) true, .row 9 (List.map eForestOp ([] : List ForestOp)) true]) rfl (AWs.cons (AW.slcn _ _ _) (AWs.cons (AW.refl _) (AWs.cons (AW.refl _) AWs.nil))) rfl) (Wk.trans (Wk.pushE (σ' := [.box (.d (eApiTable p0)), .box (.agg [.slc 6 9 0 (([] : List ForestOp).length) none, .d .nils, .d .nils]), .box (.d (eFanSide r227)), .box (.d (eFanSide r230)), .box (.agg [.d .nils, .slc 5 5 0 ([(ApiLock.mk p0.Tree (ApiSpan.mk y237 (y237 ++ ([0] : List UInt8)) false) true)].length) none, .d .nils]), .row 5 (List.map eApiLock [(ApiLock.mk p0.Tree (ApiSpan.mk y237 (y237 ++ ([0] : List UInt8)) false) true)]) true, .row 9 (List.map eForestOp ([] : List ForestOp)) true, .row 5 (List.map eApiLock ([] : List ApiLock)) true]) (.row 5 [] true) (fun _ hh => by cases hh) rfl) (Wk.trans (Wk.boxE (id := 1) (y := .agg [.slc 6 9 0 (([] : List ForestOp).length) none, .slc 7 5 0 (([] : List ApiLock).length) none, .d .nils]) (σ' := [.box (.d (eApiTable p0)), .box (.agg [.slc 6 9 0 (([] : List ForestOp).length) none, .slc 7 5 0 (([] : List ApiLock).length) none, .d .nils]), .box (.d (eFanSide r227)), .box (.d (eFanSide r230)), .box (.agg [.d .nils, .slc 5 5 0 ([(ApiLock.mk p0.Tree (ApiSpan.mk y237 (y237 ++ ([0] : List UInt8)) false) true)].length) none, .d .nils]), .row 5 (List.map eApiLock [(ApiLock.mk p0.Tree (ApiSpan.mk y237 (y237 ++ ([0] : List UInt8)) false) true)]) true, .row 9 (List.map eForestOp ([] : List ForestOp)) true, .row 5 (List.map eApiLock ([] : List ApiLock)) true]) rfl (AWs.cons (AW.refl _) (AWs.cons (AW.slcn _ _ _) (AWs.cons (AW.refl _) AWs.nil))) rfl) (Wk.trans (Wk.pushE (σ' := [.box (.d (eApiTable p0)), .box (.agg [.slc 6 9 0 (([] : List ForestOp).length) none, .slc 7 5 0 (([] : List ApiLock).length) none, .d .nils]), .box (.d (eFanSide r227)), .box (.d (eFanSide r230)), .box (.agg [.d .nils, .slc 5 5 0 ([(ApiLock.mk p0.Tree (ApiSpan.mk y237 (y237 ++ ([0] : List UInt8)) false) true)].length) none, .d .nils]), .row 5 (List.map eApiLock [(ApiLock.mk p0.Tree (ApiSpan.mk y237 (y237 ++ ([0] : List UInt8)) false) true)]) true, .row 9 (List.map eForestOp ([] : List ForestOp)) true, .row 5 (List.map eApiLock ([] : List ApiLock)) true, .row 4 (List.map eFanProbe ([] : List FanProbe)) true]) (.row 4 [] true) (fun _ hh => by cases hh) rfl) (Wk.trans (Wk.boxE (id := 1) (y := .agg [.slc 6 9 0 (([] : List ForestOp).length) none, .slc 7 5 0 (([] : List ApiLock).length) none, .slc 8 4 0 (([] : List FanProbe).length) none]) (σ' := [.box (.d (eApiTable p0)), .box (.agg [.slc 6 9 0 (([] : List ForestOp).length) none, .slc 7 5 0 (([] : List ApiLock).length) none, .slc 8 4 0 (([] : List FanProbe).length) none]), .box (.d (eFanSide r227)), .box (.d (eFanSide r230)), .box (.agg [.d .nils, .slc 5 5 0 ([(ApiLock.mk p0.Tree (ApiSpan.mk y237 (y237 ++ ([0] : List UInt8)) false) true)].length) none, .d .nils]), .row 5 (List.map eApiLock [(ApiLock.mk p0.Tree (ApiSpan.mk y237 (y237 ++ ([0] : List UInt8)) false) true)]) true, .row 9 (List.map eForestOp ([] : List ForestOp)) true, .row 5 (List.map eApiLock ([] : List ApiLock)) true, .row 4 (List.map eFanProbe ([] : List FanProbe)) true]) rfl (AWs.cons (AW.refl _) (AWs.cons (AW.refl _) (AWs.cons (AW.slcn _ _ _) AWs.nil))) rfl) (wc (e' := [(8, .ref 0 0 0), (9, .d (eI r257))]) [1, 6, 7, 8] [1] (by kernel_rfl) rfl (by kernel_rfl)))))))) (lresC rfl (ld_box ts50 ta50 rfl rfl) (lresT rfl lresN)) rfl)))))))
                  · obtain ⟨_, hq259, h1⟩ := ob h1; have q := si h1; subst q
                    exact sk (SC.region (s1 (far (k := 4) rfl fo26_4 ts3 rfl) (s1 (lod rfl (ld_box ts3 ta3 rfl rfl)) (s1 (mv rfl) (s1 (mv rfl) (s1 (bld rfl (bd61_1_2_4 (1 : Int) y237 r256)) (ca (σ' := [.box (.d (eApiTable p0)), .box (.d (.agg [.nils, .nils, .nils])), .box (.d (eFanSide r227)), .box (.d (eFanSide r230)), .box (.agg [.slc 6 9 0 ([(ForestOp.mk (1 : Int) p0.Tree (ApiMsg.mk (0 : UInt64) (1 : Int) y237 (0 : UInt64) r256 (0 : Int) (0 : UInt64)))].length) none, .slc 5 5 0 ([(ApiLock.mk p0.Tree (ApiSpan.mk y237 (y237 ++ ([0] : List UInt8)) false) true)].length) none, .d .nils]), .row 5 (List.map eApiLock [(ApiLock.mk p0.Tree (ApiSpan.mk y237 (y237 ++ ([0] : List UInt8)) false) true)]) true, .row 9 (List.map eForestOp [(ForestOp.mk (1 : Int) p0.Tree (ApiMsg.mk (0 : UInt64) (1 : Int) y237 (0 : UInt64) r256 (0 : Int) (0 : UInt64)))]) true]) [4, 5] (fan_Work_do_ok p0.Tree (ApiMsg.mk (0 : UInt64) (1 : Int) y237 (0 : UInt64) r256 (0 : Int) (0 : UInt64)) [(ApiLock.mk p0.Tree (ApiSpan.mk y237 (y237 ++ ([0] : List UInt8)) false) true)] _ hq259) wf rfl rfl rfl cb29 rfl rfl rfl rfl rfl rfl (SO.nil (lf (wc [0, 1, 2, 3, 4, 6, 5] [0, 1, 2, 3, 4] (by kernel_rfl) rfl (by kernel_rfl)))))))))))
                · obtain ⟨_, hq260, h1⟩ := ob h1; have q := si h1; subst q
                  exact SC.region (s1 (far (k := 4) rfl fo26_4 ts3 rfl) (s1 (lod rfl (ld_box ts3 ta3 rfl rfl)) (s1 (mv rfl) (s1 (bld rfl (bd61_1_2 (2 : Int) y237)) (ca (σ' := [.box (.d (eApiTable p0)), .box (.d (.agg [.nils, .nils, .nils])), .box (.d (eFanSide r227)), .box (.d (eFanSide r230)), .box (.agg [.slc 6 9 0 ([(ForestOp.mk (1 : Int) p0.Tree (ApiMsg.mk (0 : UInt64) (2 : Int) y237 (0 : UInt64) ([] : List UInt8) (0 : Int) (0 : UInt64)))].length) none, .slc 5 5 0 ([(ApiLock.mk p0.Tree (ApiSpan.mk y237 (y237 ++ ([0] : List UInt8)) false) true)].length) none, .d .nils]), .row 5 (List.map eApiLock [(ApiLock.mk p0.Tree (ApiSpan.mk y237 (y237 ++ ([0] : List UInt8)) false) true)]) true, .row 9 (List.map eForestOp [(ForestOp.mk (1 : Int) p0.Tree (ApiMsg.mk (0 : UInt64) (2 : Int) y237 (0 : UInt64) ([] : List UInt8) (0 : Int) (0 : UInt64)))]) true]) [4, 5] (fan_Work_do_ok p0.Tree (ApiMsg.mk (0 : UInt64) (2 : Int) y237 (0 : UInt64) ([] : List UInt8) (0 : Int) (0 : UInt64)) [(ApiLock.mk p0.Tree (ApiSpan.mk y237 (y237 ++ ([0] : List UInt8)) false) true)] _ hq260) wf rfl rfl rfl cb29 rfl rfl rfl rfl rfl rfl (SO.nil (lf (wc [0, 1, 2, 3, 4, 6, 5] [0, 1, 2, 3, 4] (by kernel_rfl) rfl (by kernel_rfl)))))))))
              · rintro y253 h0
                refine SC.seqP h0 (fun y => ⟨mk 139 [(8, .ref 0 0 0), (14, .ref 1 0 0)], [.box (.d (.agg [.nils, .nils, .nils])), .box (.agg [.slc 2 9 0 y.1.length none, .slc 3 5 0 y.2.1.length none, .slc 4 4 0 y.2.2.length none]), .row 9 (List.map eForestOp y.1) true, .row 5 (List.map eApiLock y.2.1) true, .row 4 (List.map eFanProbe y.2.2) true]⟩) ?_ ?_
                · intro u1_353 h1
                  obtain ⟨u2_415, h2, h1⟩ := ob h1
                  refine sr (s1 (far (k := 3) rfl fo26_3 ts24 rfl) (s1 (lod rfl (ld_box ts24 ta24 rfl rfl)) (s1 (len rfl rfl rfl (len_lst un24)) (s1 (mv rfl) (sn (SC.blk (SC.loopB h2 (fun y => ⟨mk 139 [(1, .d ((eL 2 eFanBuilt) p1)), (4, .ref 0 0 0), (8, .ref 1 0 0), (10, .ref 2 0 0), (12, .ref 3 0 0), (13, .d (eS y237)), (14, .ref 4 0 0), (107, .d ((eL 6 eApiIndex) p0.Indexes)), (108, .d (eI (p0.Indexes.length : Int))), (109, .d (eI y.1))], [.box (.d (eApiTable p0)), .box (.d (.agg [.nils, .nils, .nils])), .box (.d (eFanSide r227)), .box (.d (eFanSide r230)), .box (.agg [.slc 5 9 0 y.2.1.length none, .slc 6 5 0 y.2.2.1.length none, .slc 7 4 0 y.2.2.2.length none]), .row 9 (List.map eForestOp y.2.1) true, .row 5 (List.map eApiLock y.2.2.1) true, .row 4 (List.map eFanProbe y.2.2.2) true]⟩) (Wk.trans (Wk.pushE (σ' := [.box (.d (eApiTable p0)), .box (.d (.agg [.nils, .nils, .nils])), .box (.d (eFanSide r227)), .box (.d (eFanSide r230)), .box (.agg [.slc 5 9 0 y253.length none, .slc 6 5 0 ([(ApiLock.mk p0.Tree (ApiSpan.mk y237 (y237 ++ ([0] : List UInt8)) false) true)].length) none, .d .nils]), .row 9 (List.map eForestOp y253) true, .row 5 (List.map eApiLock [(ApiLock.mk p0.Tree (ApiSpan.mk y237 (y237 ++ ([0] : List UInt8)) false) true)]) true, .row 4 (List.map eFanProbe ([] : List FanProbe)) true]) (.row 4 [] true) (fun _ hh => by cases hh) rfl) (Wk.trans (Wk.boxE (id := 4) (y := .agg [.slc 5 9 0 y253.length none, .slc 6 5 0 ([(ApiLock.mk p0.Tree (ApiSpan.mk y237 (y237 ++ ([0] : List UInt8)) false) true)].length) none, .slc 7 4 0 (([] : List FanProbe).length) none]) (σ' := [.box (.d (eApiTable p0)), .box (.d (.agg [.nils, .nils, .nils])), .box (.d (eFanSide r227)), .box (.d (eFanSide r230)), .box (.agg [.slc 5 9 0 y253.length none, .slc 6 5 0 ([(ApiLock.mk p0.Tree (ApiSpan.mk y237 (y237 ++ ([0] : List UInt8)) false) true)].length) none, .slc 7 4 0 (([] : List FanProbe).length) none]), .row 9 (List.map eForestOp y253) true, .row 5 (List.map eApiLock [(ApiLock.mk p0.Tree (ApiSpan.mk y237 (y237 ++ ([0] : List UInt8)) false) true)]) true, .row 4 (List.map eFanProbe ([] : List FanProbe)) true]) rfl (AWs.cons (AW.refl _) (AWs.cons (AW.refl _) (AWs.cons (AW.slcn _ _ _) AWs.nil))) rfl) (wq rfl))) ?_)))))))
                  intro n442
                  rintro ⟨y380, y381, y382, y383⟩ w2_414 h3 hv3
                  refine sr (s1 (bi rfl rfl q_i64_lss) (sn (sq (cB h3 rfl (fun h3 => ?_) (fun h3 => ?_)))))
                  · refine sk (SC.seqP h3 (fun y => ⟨mk 139 [(1, .d ((eL 2 eFanBuilt) p1)), (4, .ref 0 0 0), (8, .ref 1 0 0), (10, .ref 2 0 0), (12, .ref 3 0 0), (13, .d (eS y237)), (14, .ref 4 0 0), (107, .d ((eL 6 eApiIndex) p0.Indexes)), (108, .d (eI (p0.Indexes.length : Int))), (109, .d (eI y380))], [.box (.d (eApiTable p0)), .box (.d (.agg [.nils, .nils, .nils])), .box (.d (eFanSide r227)), .box (.d (eFanSide r230)), .box (.agg [.slc 5 9 0 y.1.length none, .slc 6 5 0 y.2.1.length none, .slc 7 4 0 y.2.2.length none]), .row 9 (List.map eForestOp y.1) true, .row 5 (List.map eApiLock y.2.1) true, .row 4 (List.map eFanProbe y.2.2) true]⟩) ?_ ?_)
                    · intro u4_430 h4
                      obtain ⟨v431, hv431, h4⟩ := ob h4
                      refine SC.blk (sr (s1 (mv rfl) (s1 (ial rfl rfl un24 ts42 (getI_some hv431).1 (map_get (getI_some hv431).2) rfl) (s1 (lod (v := .d (eApiIndex v431)) rfl (ld_rop ts42 ta42 rfl)) (s1 (alo (k := 8) zo42 rfl) (s1 (asg rfl) (s0 (sto rfl rfl (sB (d' := .d (eApiIndex v431)) ts42 rfl rfl rfl rfl rfl rfl rfl)) (sn (SC.seqP h4 (fun y => ⟨mk 139 [(1, .d ((eL 2 eFanBuilt) p1)), (4, .ref 0 0 0), (8, .ref 1 0 0), (10, .ref 2 0 0), (12, .ref 3 0 0), (13, .d (eS y237)), (14, .ref 4 0 0), (18, .ref 5 0 0), (107, .d ((eL 6 eApiIndex) p0.Indexes)), (108, .d (eI (p0.Indexes.length : Int))), (109, .d (eI y380)), (131, .d (eB y))], [.box (.d (eApiTable p0)), .box (.d (.agg [.nils, .nils, .nils])), .box (.d (eFanSide r227)), .box (.d (eFanSide r230)), .box (.agg [.slc 6 9 0 y381.length none, .slc 7 5 0 y382.length none, .slc 8 4 0 y383.length none]), .box (.d (eApiIndex v431)), .row 9 (List.map eForestOp y381) true, .row 5 (List.map eApiLock y382) true, .row 4 (List.map eFanProbe y383) true]⟩) ?_ ?_)))))))))
                      · intro u5_435 h5
                        refine SC.region (s1 (far (k := 4) rfl fo42_4 ts4 rfl) (s1 (lod rfl (ld_box ts4 ta4 rfl rfl)) (s1 (mv rfl) (sp h5 (fun h5 => ?_) (fun h5 => ?_)))))
                        · have q := si h5; subst q
                          refine k1 (wb rfl rfl rfl) (k1 (wb rfl rfl rfl) (k1 (wb rfl rfl rfl) (k1 (wb rfl rfl rfl) (k1 (wb rfl rfl rfl) (k1 (wb rfl rfl rfl) (k1 (wo rfl rfl) (k1 (wo rfl rfl) (k1 (wo rfl rfl) (k1 (wo rfl rfl) ?_)))))))))
                          exact k1 (wo rfl rfl) (k1 (wo rfl rfl) (k1 (wo rfl rfl) (k1 (wb rfl rfl rfl) (s1 (pkt rfl rfl) (SO.nil ((wc [0, 1, 2, 3, 4, 8, 5, 6, 7] [0, 1, 2, 3, 4, 8] (by kernel_rfl) rfl (by kernel_rfl))))))))
                        · obtain ⟨v436, hv436, h5⟩ := ob h5
                          refine g1 (wb rfl rfl rfl) (mv rfl) (g1 (wb rfl rfl rfl) (mv rfl) (g1 (wb rfl rfl rfl) (ial rfl rfl un27 ts95 (getI_some hv436).1 (map_get (getI_some hv436).2) rfl) (g1 (wb rfl rfl rfl) (fap rfl fo95_1 ts4 rfl) (g1 (wb rfl rfl rfl) (lod rfl (ld_rop ts4 ta4 rfl)) (g1 (wb rfl rfl rfl) (mv rfl) (sp h5 (fun h5 => ?_) (fun h5 => ?_)))))))
                          · obtain ⟨v437, hv437, h5⟩ := ob h5; have q := si h5; subst q
                            refine g1 (wb rfl rfl rfl) (mv rfl) (g1 (wb rfl rfl rfl) (mv rfl) (g1 (wb rfl rfl rfl) (mv rfl) (g1 (wb rfl rfl rfl) (ial rfl rfl un27 ts95 (getI_some hv437).1 (map_get (getI_some hv437).2) rfl) (g1 (wb rfl rfl rfl) (fap rfl fo95_0 ts9 rfl) (g1 (wb rfl rfl rfl) (lod rfl (ld_rop ts9 ta9 rfl)) (g1 (wb rfl rfl rfl) (bi rfl rfl q_str_leq) (g1 (wb rfl rfl rfl) (pkt rfl rfl) (s1 (pkf rfl rfl) (SO.nil ?_)))))))))
                            exact (wc [0, 1, 2, 3, 4, 8, 5, 6, 7] [0, 1, 2, 3, 4, 8] (by kernel_rfl) rfl (by kernel_rfl))
                          · have q := si h5; subst q
                            refine k1 (wb rfl rfl rfl) (k1 (wb rfl rfl rfl) (k1 (wb rfl rfl rfl) (k1 (wb rfl rfl rfl) (k1 (wb rfl rfl rfl) (k1 (wb rfl rfl rfl) (k1 (wb rfl rfl rfl) (g1 (wb rfl rfl rfl) (pkf rfl rfl) (s1 (pkf rfl rfl) (SO.nil ?_)))))))))
                            exact (wc [0, 1, 2, 3, 4, 8, 5, 6, 7] [0, 1, 2, 3, 4, 8] (by kernel_rfl) rfl (by kernel_rfl))
                      · rintro y434 h4
                        refine cB h4 rfl (fun h4 => ?_) (fun h4 => ?_)
                        · obtain ⟨⟨r438, r439, r440⟩, hq441, h4⟩ := ob h4; have q := si h4; subst q
                          exact SC.region (s1 (lod (v := .d (eApiTable p0)) rfl (ld_box ts26 ta26 rfl rfl)) (s1 (lod (v := .d (eApiIndex v431)) rfl (ld_box ts42 ta42 rfl rfl)) (s1 (lod (v := .d (eFanSide r227)) rfl (ld_box ts87 ta87 rfl rfl)) (s1 (lod (v := .d (eFanSide r230)) rfl (ld_box ts87 ta87 rfl rfl)) (ca (σ' := [.box (.d (eApiTable p0)), .box (.d (.agg [.nils, .nils, .nils])), .box (.d (eFanSide r227)), .box (.d (eFanSide r230)), .box (.agg [.slc 9 9 0 r438.length none, .slc 10 5 0 r439.length none, .slc 11 4 0 r440.length none]), .box (.d (eApiIndex v431)), .dead, .dead, .dead, .row 9 (List.map eForestOp r438) true, .row 5 (List.map eApiLock r439) true, .row 4 (List.map eFanProbe r440) true]) [4, 6, 7, 8] (fan_Work_index_2_ok p0 v431 r227 r230 y381 y382 y383 _ hq441) wf rfl rfl rfl cb30 rfl rfl rfl rfl rfl rfl (SO.nil ((wc [0, 1, 2, 3, 4, 9, 10, 11] [0, 1, 2, 3, 4] (by kernel_rfl) rfl (by kernel_rfl)))))))))
                        · have q := si h4; subst q
                          exact SC.skip ((wc [0, 1, 2, 3, 4, 6, 7, 8] [0, 1, 2, 3, 4] (by kernel_rfl) rfl (by kernel_rfl)))
                    · rintro ⟨y427, y428, y429⟩ h3
                      have q := si h3; subst q
                      exact SC.region (s1 (bi rfl rfl q_i64_add) (s1 (mv rfl) (SO.nil (lf (wq rfl)))))
                  · have q := si h3; subst q; have q : _ = _ := hv3; subst q; have q := si h1; subst q
                    exact SC.exit ((wc [1, 4, 5, 6, 7] [1, 4] (by kernel_rfl) rfl (by kernel_rfl)))
                · rintro ⟨y350, y351, y352⟩ h0
                  have q := si h0; subst q
                  exact sr (s1 (lod (v := .agg [.slc 2 9 0 y350.length none, .slc 3 5 0 y351.length none, .slc 4 4 0 y352.length none]) rfl (ld_box ts50 ta50 rfl rfl)) (s0 (sto rfl rfl (sB (d' := .agg [.slc 2 9 0 y350.length none, .slc 3 5 0 y351.length none, .slc 4 4 0 y352.length none]) ts50 rfl rfl rfl rfl rfl rfl rfl)) (s1 (asg rfl) (sn (SC.ret (finR (wc (e' := [(8, .ref 0 0 0), (9, .d (eI (0 : Int)))]) [0, 2, 3, 4] [0] (by kernel_rfl) rfl (by kernel_rfl)) (lresC rfl (ld_box ts50 ta50 rfl rfl) (lresT rfl lresN)) rfl))))))
end Lv
