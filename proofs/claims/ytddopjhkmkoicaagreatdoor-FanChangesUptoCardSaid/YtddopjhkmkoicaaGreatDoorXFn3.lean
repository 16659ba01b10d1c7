/- Part of the proof of a law: functions and their walks. -/
import Derived.Test.YtddopjhkmkoicaaGreatDoorXFn2
namespace Lv
open Go Go.Proofs
set_option linter.unusedVariables false
set_option linter.unusedSimpArgs false
set_option linter.unusedSectionVars false
set_option maxRecDepth 100000
variable [BaseTab] [TabOk]
/-- granary/granaryraw.Values -/
noncomputable def raw_Values (p0 : List ApiValue) (p1 : List ApiValue) : Option Bool :=
  bif ((p0.length : Int) != (p1.length : Int)) then
    some false
  else
    bindE (Y := Unit) (E := Bool)
      (Option.bind (α := Unit ⊕ Bool)
        (loop (Y := Int) (W := Unit ⊕ Bool) (fun y39 =>
          bif (decide (y39 < (p0.length : Int))) then
            Option.bind (getI p0 y39) fun v45 =>
            Option.bind (getI p1 y39) fun v46 =>
            bif (!(eqApiValue v45 v46)) then
              some (Sum.inr (Sum.inr false))
            else
              some (Sum.inl (w64 (y39 + (1 : Int))))
          else
            some (Sum.inr (Sum.inl ()))) (0 : Int))
        (Sum.elim (fun e => some (Sum.inl e)) (fun e => some (Sum.inr e))))
      (fun _ =>
        some true)
      (fun e => some e)
theorem raw_Values_ok (p0 : List ApiValue) (p1 : List ApiValue) (r : Bool) (h0 : raw_Values p0 p1 = some r) : CallAt Tryz.prog 21 [.d ((eL 3 eApiValue) p0), .d ((eL 3 eApiValue) p1)] [] (.d (eB r)) [] := by
  unfold raw_Values at h0
  refine fn0 [0, 1] Tryz.func21 rfl rfl rfl rfl rfl ?_
  refine sr (s1 (asg rfl) (sn (sq (sr (s1 (mv rfl) (s1 (len rfl rfl rfl (len_lst un28)) (s1 (mv rfl) (s1 (len rfl rfl rfl (len_lst un28)) (s1 (bi rfl rfl q_i64_neq) ?_)))))))))
  refine sn (cB h0 rfl (fun h0 => ?_) (fun h0 => ?_))
  · have q := si h0; subst q
    exact sr (s1 (asg rfl) (sn (SC.ret (finR (Wk.refl _) (lresT rfl lresN) rfl))))
  · refine sk (SC.seqB h0 (fun y => ⟨mk 26 [], []⟩) ?_ ?_)
    · intro u1_36 h1 h0
      obtain ⟨u2_44, h2, h1⟩ := ob h1
      refine sr (s1 (asg rfl) (sn (SC.blk (SC.loopB h2 (fun y => ⟨mk 26 [(0, .d ((eL 3 eApiValue) p0)), (1, .d ((eL 3 eApiValue) p1)), (5, .d (eI y))], []⟩) (wq rfl) ?_))))
      intro n47
      rintro y39 w2_43 h3 hv3
      refine sq (sr (s1 (mv rfl) (s1 (mv rfl) (s1 (len rfl rfl rfl (len_lst un28)) (s1 (bi rfl rfl q_i64_lss) (sn (cB h3 rfl (fun h3 => ?_) (fun h3 => ?_))))))))
      · obtain ⟨v45, hv45, h3⟩ := ob h3; obtain ⟨v46, hv46, h3⟩ := ob h3
        refine sk (sq (SC.blk (sd (by kernel_rfl) (t1 ([], false) (mv rfl) rfl (t1 ([], false) (mv rfl) rfl (t1 ([], false) (ial rfl rfl un28 ts68 (getI_some hv45).1 (map_get (getI_some hv45).2) rfl) rfl (t1 ([], false) (lod (v := .d (eApiValue v45)) rfl (ld_rop ts68 ta68 rfl)) rfl (t1 ([], false) (mv rfl) rfl (t1 ([], false) (mv rfl) rfl ?_)))))))))
        refine t1 ([], false) (ial rfl rfl un28 ts68 (getI_some hv46).1 (map_get (getI_some hv46).2) rfl) rfl (t1 ([], false) (lod (v := .d (eApiValue v46)) rfl (ld_rop ts68 ta68 rfl)) rfl (t1 ([], false) (bi (v := .d (eB (!(eqApiValue v45 v46)))) rfl rfl (fun X Y => eqApiValue_neq_68 X Y v45 v46)) rfl (tn (by decide +kernel) (cB h3 rfl (fun h3 => ?_) (fun h3 => ?_)))))
        · have q := si h3; subst q; have q : _ = _ := hv3; subst q; have q := si h1; subst q; have q := si h0; subst q
          exact sr (s1 (asg rfl) (sn (SC.ret (finR (Wk.refl _) (lresT rfl lresN) rfl))))
        · refine SC.skip ?_
          change SC _ _ _ _ _
          have q := si h3; subst q
          exact SC.region (s1 (mv rfl) (s1 (bi rfl rfl q_i64_add) (s1 (asg rfl) (SO.nil (lf (wq rfl))))))
      · have q := si h3; subst q; have q : _ = _ := hv3; subst q; have q := si h1; subst q
        exact SC.exit (lf (wq rfl))
    · intro _ h0
      have q := si h0; subst q
      exact sr (s1 (asg rfl) (sn (SC.ret (finR (Wk.refl _) (lresT rfl lresN) rfl))))

/-- granary/granaryref08.Same -/
noncomputable def ref08_Same (p0 : List ApiValue) (p1 : List ApiValue) : Option Bool :=
  Option.bind (raw_Values p0 p1) fun r4 =>
  some r4
theorem ref08_Same_ok (p0 : List ApiValue) (p1 : List ApiValue) (r : Bool) (h0 : ref08_Same p0 p1 = some r) : CallAt Tryz.prog 39 [.d ((eL 3 eApiValue) p0), .d ((eL 3 eApiValue) p1)] [] (.d (eB r)) [] := by
  unfold ref08_Same at h0
  refine fn0 [0, 1] Tryz.func39 rfl rfl rfl rfl rfl ?_
  obtain ⟨r4, hq5, h0⟩ := ob h0; have q := si h0; subst q
  refine sr (s1 (asg rfl) (sn (sr (s1 (mv rfl) (s1 (mv rfl) (c0 (raw_Values_ok p0 p1 _ hq5) wf rfl rfl rfl cb21 rfl (fun _ => rfl) (fun _ => rfl) (s1 (asg rfl) (sn (SC.ret ?_)))))))))
  exact finR (Wk.refl _) (lresT rfl lresN) rfl

/-- (*granary/granaryref19.Work).op -/
noncomputable def ref19_Work_op (p0 : Int) (p1 : Int) (p2 : List UInt8) (p3 : List UInt8) (p4 : List ApiLock) : Option Unit :=
  bif decide ([(Granaryref14Op.mk (1 : Int) p0 (ApiMsg.mk (0 : UInt64) p1 p2 (0 : UInt64) p3 (0 : Int) (0 : UInt64)))].length * 88 ≤ room) then
  some ()
  else none
theorem ref19_Work_op_ok (p0 : Int) (p1 : Int) (p2 : List UInt8) (p3 : List UInt8) (p4 : List ApiLock) (r : Unit) (h0 : ref19_Work_op p0 p1 p2 p3 p4 = some r) : CallAt Tryz.prog 40 [.ref 0 0 0, .d (eI p0), .d (eI p1), .d (eS p2), .d (eS p3)] [.box (.agg [.d .nils, .slc 1 5 0 p4.length none, .d .nils]), .row 5 (List.map eApiLock p4) true] (.tuple []) [.box (.agg [.slc 2 9 0 ([(Granaryref14Op.mk (1 : Int) p0 (ApiMsg.mk (0 : UInt64) p1 p2 (0 : UInt64) p3 (0 : Int) (0 : UInt64)))].length) none, .slc 1 5 0 p4.length none, .d .nils]), .row 5 (List.map eApiLock p4) true, .row 9 (List.map eGranaryref14Op [(Granaryref14Op.mk (1 : Int) p0 (ApiMsg.mk (0 : UInt64) p1 p2 (0 : UInt64) p3 (0 : Int) (0 : UInt64)))]) true] := by
  unfold ref19_Work_op at h0
  refine fn0 [0, 1, 2, 3, 4] Tryz.func40 rfl rfl rfl rfl rfl ?_
  obtain ⟨hg2, h0⟩ := gd h0; have q := si h0; subst q
  refine SC.region (s1 (mv rfl) (s1 (mv rfl) (s1 (nkr rfl) (s1 (far (k := 0) rfl fo46_0 ts43 rfl) (s1 (lod rfl (ld_box ts43 ta43 rfl rfl)) (s1 (mv rfl) (s1 (mv rfl) (s1 (mv rfl) (s1 (mv rfl) ?_)))))))))
  exact s1 (bld rfl (bd63_1_2_4 p1 p2 p3)) (s1 (bld rfl (bd108_0_1_2 (1 : Int) p0 (ApiMsg.mk (0 : UInt64) p1 p2 (0 : UInt64) p3 (0 : Int) (0 : UInt64)))) (s1 (bsn (k := 2) (ds := List.map eGranaryref14Op [(Granaryref14Op.mk (1 : Int) p0 (ApiMsg.mk (0 : UInt64) p1 p2 (0 : UInt64) p3 (0 : Int) (0 : UInt64)))]) (off := 0) (l' := [(Granaryref14Op.mk (1 : Int) p0 (ApiMsg.mk (0 : UInt64) p1 p2 (0 : UInt64) p3 (0 : Int) (0 : UInt64)))].length) rfl un43 ei108 rfl rfl (by rfl) rfl rfl rfl) (s1 (app rfl rfl rfl rfl bc43 (aN (f := eGranaryref14Op) (k := 3) un43 ei108 (el_full (xs := [(Granaryref14Op.mk (1 : Int) p0 (ApiMsg.mk (0 : UInt64) p1 p2 (0 : UInt64) p3 (0 : Int) (0 : UInt64)))]) rfl) hg2 rfl)) (s1 (nkr rfl) (s1 (far (k := 0) rfl fo46_0 ts43 rfl) (s0 (sto rfl rfl (sB (d' := .agg [.slc 3 9 0 ([(Granaryref14Op.mk (1 : Int) p0 (ApiMsg.mk (0 : UInt64) p1 p2 (0 : UInt64) p3 (0 : Int) (0 : UInt64)))].length) none, .slc 1 5 0 p4.length none, .d .nils]) ts43 rfl rfl rfl rfl rfl rfl rfl)) (SO.nil (finN (wc (e' := []) [0, 1, 3] [0, 1] (by kernel_rfl) rfl (by kernel_rfl)) lresN rfl))))))))

/-- (*granary/granaryref01.Out).Flag -/
noncomputable def ref01_Out_Flag (p0 : Bool) (p1 : List UInt8) : Option ((List UInt8)) :=
  bif p0 then
    bif decide ((p1.length + [(1 : UInt8)].length) * 1 ≤ room) then
    some (p1 ++ [(1 : UInt8)])
    else none
  else
    bif decide ((p1.length + [(0 : UInt8)].length) * 1 ≤ room) then
    some (p1 ++ [(0 : UInt8)])
    else none
theorem ref01_Out_Flag_ok (p0 : Bool) (p1 : List UInt8) (r : (List UInt8)) (h0 : ref01_Out_Flag p0 p1 = some r) : CallAt Tryz.prog 86 [.ref 0 0 0, .d (eB p0)] [.box (.agg [.slc 1 1 0 p1.length none]), .row 1 (List.map eU8 p1) true] (.tuple []) [.box (.agg [.slc 2 1 0 r.length none]), .dead, .row 1 (List.map eU8 r) true] := by
  unfold ref01_Out_Flag at h0
  refine fn0 [0, 1] Tryz.func86 rfl rfl rfl rfl rfl ?_
  refine sr (s1 (mv rfl) (sn (cB h0 rfl (fun h0 => ?_) (fun h0 => ?_))))
  · obtain ⟨hg4, h0⟩ := gd h0; have q := si h0; subst q
    refine SC.region (s1 (mv rfl) (s1 (mv rfl) (s1 (nkr rfl) (s1 (far (k := 0) rfl fo127_0 ts125 rfl) (s1 (lod rfl (ld_box ts125 ta125 rfl rfl)) (s1 (bsn (k := 2) (ds := List.map eU8 [(1 : UInt8)]) (off := 0) (l' := [(1 : UInt8)].length) rfl un125 ei5 rfl rfl (by rfl) rfl rfl rfl) (s1 (app rfl rfl rfl rfl bc125 (aF (f := eU8) (xs := p1) (k := 3) rfl un125 ei5 rfl (el_full (xs := [(1 : UInt8)]) rfl) hg4 rfl)) (s1 (nkr rfl) (s1 (far (k := 0) rfl fo127_0 ts125 rfl) ?_)))))))))
    exact s0 (sto rfl rfl (sB (d' := .agg [.slc 3 1 0 ((p1 ++ [(1 : UInt8)]).length) none]) ts125 rfl rfl rfl rfl rfl rfl rfl)) (SO.nil (finN (wc (e' := []) [0, 1, 3] [0, 1] (by kernel_rfl) rfl (by kernel_rfl)) lresN rfl))
  · obtain ⟨hg5, h0⟩ := gd h0; have q := si h0; subst q
    refine SC.region (s1 (mv rfl) (s1 (mv rfl) (s1 (nkr rfl) (s1 (far (k := 0) rfl fo127_0 ts125 rfl) (s1 (lod rfl (ld_box ts125 ta125 rfl rfl)) (s1 (bsn (k := 2) (ds := List.map eU8 [(0 : UInt8)]) (off := 0) (l' := [(0 : UInt8)].length) rfl un125 ei5 rfl rfl (by rfl) rfl rfl rfl) (s1 (app rfl rfl rfl rfl bc125 (aF (f := eU8) (xs := p1) (k := 3) rfl un125 ei5 rfl (el_full (xs := [(0 : UInt8)]) rfl) hg5 rfl)) (s1 (nkr rfl) (s1 (far (k := 0) rfl fo127_0 ts125 rfl) ?_)))))))))
    exact s0 (sto rfl rfl (sB (d' := .agg [.slc 3 1 0 ((p1 ++ [(0 : UInt8)]).length) none]) ts125 rfl rfl rfl rfl rfl rfl rfl)) (SO.nil (finN (wc (e' := []) [0, 1, 3] [0, 1] (by kernel_rfl) rfl (by kernel_rfl)) lresN rfl))

/-- (*granary/granaryref01.Out).Text -/
noncomputable def ref01_Out_Text (p0 : List UInt8) (p1 : List UInt8) : Option (Bool × (List UInt8)) :=
  bif (decide ((p0.length : Int) > (65535 : Int))) then
    some (false, p1)
  else
    Option.bind (ref01_Out_Num_1 (u64i (p0.length : Int)) (2 : Int) p1) fun r6 =>
    bif decide ((r6.length + p0.length) * 1 ≤ room) then
    some (true, (r6 ++ p0))
    else none
theorem ref01_Out_Text_ok (p0 : List UInt8) (p1 : List UInt8) (r : Bool × (List UInt8)) (h0 : ref01_Out_Text p0 p1 = some r) : CallAt Tryz.prog 87 [.ref 0 0 0, .d (eS p0)] [.box (.agg [.slc 1 1 0 p1.length none]), .row 1 (List.map eU8 p1) true] (.d (eB r.1)) [.box (.agg [.slc 2 1 0 r.2.length none]), .dead, .row 1 (List.map eU8 r.2) true] := by
  unfold ref01_Out_Text at h0
  refine fn0 [0, 1] Tryz.func87 rfl rfl rfl rfl rfl ?_
  refine sr (s1 (asg rfl) (sn (sq (sr (s1 (mv rfl) (s1 (len rfl rfl rfl (len_str un9)) (s1 (bi rfl rfl q_i64_gtr) (sn (cB h0 rfl (fun h0 => ?_) (fun h0 => ?_))))))))))
  · have q := si h0; subst q
    exact sr (s1 (asg rfl) (sn (SC.ret (finR (Wk.trans (wq (e' := [(4, .d (eB false))]) rfl) (Wk.trans (Wk.move (e' := [(4, .d (eB false))]) (os := [.box (.agg [.slc 2 1 0 p1.length none]), .row 1 (List.map eU8 p1) true]) (o := .row 1 (List.map eU8 p1) true) (σ' := [.box (.agg [.slc 2 1 0 p1.length none]), .dead, .row 1 (List.map eU8 p1) true]) 1 (Nat.le_of_ble_eq_true rfl) rfl rfl rfl rfl) (wq (e' := [(4, .d (eB false))]) rfl))) (lresT rfl lresN) rfl))))
  · obtain ⟨r6, hq7, h0⟩ := ob h0; obtain ⟨hg8, h0⟩ := gd h0; have q := si h0; subst q
    refine sk (sr (s1 (mv rfl) (s1 (mv rfl) (s1 (len rfl rfl rfl (len_str un9)) (s1 (cvo rfl (cv_i64_u64 un3 un54 (p0.length : Int))) (ca (σ' := [.box (.agg [.slc 2 1 0 r6.length none]), .dead, .row 1 (List.map eU8 r6) true]) [0, 1] (ref01_Out_Num_1_ok (u64i (p0.length : Int)) (2 : Int) p1 _ hq7) wf rfl rfl rfl cb57 rfl rfl rfl rfl rfl rfl (sn (sr (s1 (mv rfl) ?_)))))))))
    refine s1 (mv rfl) (s1 (nkr rfl) (s1 (far (k := 0) rfl fo127_0 ts125 rfl) (s1 (lod rfl (ld_box ts125 ta125 rfl rfl)) (s1 (mv rfl) (s1 (app rfl rfl rfl rfl bc9 (aF (f := eU8) (xs := r6) (k := 3) rfl un125 ei5 rfl el_str hg8 rfl)) (s1 (nkr rfl) (s1 (far (k := 0) rfl fo127_0 ts125 rfl) (s0 (sto rfl rfl (sB (d' := .agg [.slc 3 1 0 ((r6 ++ p0).length) none]) ts125 rfl rfl rfl rfl rfl rfl rfl)) (sn ?_)))))))))
    exact sr (s1 (asg rfl) (sn (SC.ret (finR (Wk.trans (wq (e' := [(4, .d (eB true))]) rfl) (wc (e' := [(4, .d (eB true))]) [0, 1, 3] [0, 1] (by kernel_rfl) rfl (by kernel_rfl))) (lresT rfl lresN) rfl))))

/-- granary/granaryref08.put -/
noncomputable def ref08_put (p0 : ApiValue) (p1 : List UInt8) : Option ((List UInt8)) :=
  Option.bind (ref01_Out_Flag (p0.Kind == (0 : Int)) p1) fun r15 =>
  Option.bind (α := Bool)
    (bif (p0.Kind == (1 : Int)) then
      some (p0.Kind == (1 : Int))
    else
      some (p0.Kind == (2 : Int)))
    fun y17 =>
  bif y17 then
    Option.bind (ref01_Out_Num_1 p0.N (8 : Int) r15) fun r19 =>
    some r19
  else
    bif (p0.Kind == (3 : Int)) then
      Option.bind (ref01_Out_Num_1 p0.N (1 : Int) r15) fun r21 =>
      some r21
    else
      Option.bind (α := Bool)
        (bif (p0.Kind == (4 : Int)) then
          some (p0.Kind == (4 : Int))
        else
          some (p0.Kind == (5 : Int)))
        fun y23 =>
      bif y23 then
        Option.bind (ref01_Out_Text p0.S r15) fun (r25, r26) =>
        some r26
      else
        some r15
theorem ref08_put_ok (p0 : ApiValue) (p1 : List UInt8) (r : (List UInt8)) (h0 : ref08_put p0 p1 = some r) : CallAt Tryz.prog 58 [.ref 0 0 0, .d (eApiValue p0)] [.box (.agg [.slc 1 1 0 p1.length none]), .row 1 (List.map eU8 p1) true] (.tuple []) [.box (.agg [.slc 2 1 0 r.length none]), .dead, .row 1 (List.map eU8 r) true] := by
  unfold ref08_put at h0
  refine fn0 [0, 1] Tryz.func58 rfl rfl rfl rfl rfl ?_
  obtain ⟨r15, hq16, h0⟩ := ob h0
  refine sr (s1 (bxo (k := 2) rfl rfl rfl) (sn (sr (s1 (mv rfl) (s1 (far (k := 0) rfl fo68_0 ts3 rfl) (s1 (lod rfl (ld_box ts3 ta3 rfl rfl)) (s1 (bi rfl rfl q_i64_eql) (ca (σ' := [.box (.agg [.slc 3 1 0 r15.length none]), .dead, .box (.d (eApiValue p0)), .row 1 (List.map eU8 r15) true]) [0, 1] (ref01_Out_Flag_ok (p0.Kind == (0 : Int)) p1 _ hq16) wf rfl rfl rfl cb86 rfl rfl rfl rfl rfl rfl (sn ?_)))))))))
  refine sr (s1 (far (k := 0) rfl fo68_0 ts3 rfl) (s1 (lod rfl (ld_box ts3 ta3 rfl rfl)) (sn (SC.blk (SC.seqP h0 (fun y => ⟨mk 31 [(0, .ref 0 0 0), (3, .ref 2 0 0), (10, .d (eI p0.Kind)), (11, .d (eB y))], [.box (.agg [.slc 3 1 0 r15.length none]), .dead, .box (.d (eApiValue p0)), .row 1 (List.map eU8 r15) true]⟩) ?_ ?_)))))
  · intro u1_18 h1
    refine sr (s1 (bi rfl rfl q_i64_eql) (s1 (asg rfl) (sn (cB h1 rfl (fun h1 => ?_) (fun h1 => ?_)))))
    · have q := si h1; subst q
      exact SC.skip ((wq rfl))
    · have q := si h1; subst q
      exact SC.region (s1 (bi rfl rfl q_i64_eql) (s1 (asg rfl) (SO.nil ((wq rfl)))))
  · rintro y17 h0
    refine cB h0 rfl (fun h0 => ?_) (fun h0 => ?_)
    · obtain ⟨r19, hq20, h0⟩ := ob h0; have q := si h0; subst q
      exact SC.region (s1 (mv rfl) (s1 (far (k := 1) rfl fo68_1 ts54 rfl) (s1 (lod rfl (ld_box ts54 ta54 rfl rfl)) (ca (σ' := [.box (.agg [.slc 4 1 0 r19.length none]), .dead, .box (.d (eApiValue p0)), .dead, .row 1 (List.map eU8 r19) true]) [0, 3] (ref01_Out_Num_1_ok p0.N (8 : Int) r15 _ hq20) wf rfl rfl rfl cb57 rfl rfl rfl rfl rfl rfl (SO.nil (finN (wc (e' := []) [0, 1, 4] [0, 1] (by kernel_rfl) rfl (by kernel_rfl)) lresN rfl))))))
    · refine sr (s1 (bi rfl rfl q_i64_eql) (s1 (asg rfl) (sn (cB h0 rfl (fun h0 => ?_) (fun h0 => ?_)))))
      · obtain ⟨r21, hq22, h0⟩ := ob h0; have q := si h0; subst q
        exact SC.region (s1 (mv rfl) (s1 (far (k := 1) rfl fo68_1 ts54 rfl) (s1 (lod rfl (ld_box ts54 ta54 rfl rfl)) (ca (σ' := [.box (.agg [.slc 4 1 0 r21.length none]), .dead, .box (.d (eApiValue p0)), .dead, .row 1 (List.map eU8 r21) true]) [0, 3] (ref01_Out_Num_1_ok p0.N (1 : Int) r15 _ hq22) wf rfl rfl rfl cb57 rfl rfl rfl rfl rfl rfl (SO.nil (finN (wc (e' := []) [0, 1, 4] [0, 1] (by kernel_rfl) rfl (by kernel_rfl)) lresN rfl))))))
      · refine SC.seqP h0 (fun y => ⟨mk 31 [(0, .ref 0 0 0), (3, .ref 2 0 0), (24, .d (eB y))], [.box (.agg [.slc 3 1 0 r15.length none]), .dead, .box (.d (eApiValue p0)), .row 1 (List.map eU8 r15) true]⟩) ?_ ?_
        · intro u1_24 h1
          refine sr (s1 (bi rfl rfl q_i64_eql) (s1 (asg rfl) (sn (cB h1 rfl (fun h1 => ?_) (fun h1 => ?_)))))
          · have q := si h1; subst q
            exact SC.skip ((wq rfl))
          · have q := si h1; subst q
            exact SC.region (s1 (bi rfl rfl q_i64_eql) (s1 (asg rfl) (SO.nil ((wq rfl)))))
        · rintro y23 h0
          refine cB h0 rfl (fun h0 => ?_) (fun h0 => ?_)
          · obtain ⟨⟨r25, r26⟩, hq27, h0⟩ := ob h0; have q := si h0; subst q
            exact SC.region (s1 (mv rfl) (s1 (far (k := 2) rfl fo68_2 ts9 rfl) (s1 (lod rfl (ld_box ts9 ta9 rfl rfl)) (ca (σ' := [.box (.agg [.slc 4 1 0 r26.length none]), .dead, .box (.d (eApiValue p0)), .dead, .row 1 (List.map eU8 r26) true]) [0, 3] (ref01_Out_Text_ok p0.S r15 _ hq27) wf rfl rfl rfl cb87 rfl rfl rfl rfl rfl rfl (SO.nil (finN (wc (e' := []) [0, 1, 4] [0, 1] (by kernel_rfl) rfl (by kernel_rfl)) lresN rfl))))))
          · have q := si h0; subst q
            exact SC.skip (finN (wc (e' := []) [0, 1, 3] [0, 1] (by kernel_rfl) rfl (by kernel_rfl)) lresN rfl)

/-- granary/granaryref08.Bytes -/
noncomputable def ref08_Bytes (p0 : List ApiValue) : Option ((List UInt8)) :=
  Option.bind (ref01_Out_Num (u64i (p0.length : Int)) (1 : Int)) fun r38 =>
  Option.bind (α := (List UInt8))
    (Option.bind (α := (List UInt8))
      (loop (Y := Int × (List UInt8)) (W := (List UInt8)) (fun (y61, y62) =>
        bif (decide (y61 < (p0.length : Int))) then
          Option.bind (getI p0 y61) fun v70 =>
          Option.bind (ref08_put v70 y62) fun r71 =>
          some (Sum.inl ((w64 (y61 + (1 : Int))), r71))
        else
          some (Sum.inr y62)) ((0 : Int), r38))
      (fun e => some e))
    fun y56 =>
  some y56
theorem ref08_Bytes_ok (p0 : List ApiValue) (r : (List UInt8)) (h0 : ref08_Bytes p0 = some r) : CallAt Tryz.prog 18 [.d ((eL 3 eApiValue) p0)] [] (.d (eS r)) [] := by
  unfold ref08_Bytes at h0
  refine fn0 [0] Tryz.func18 rfl rfl rfl rfl rfl ?_
  obtain ⟨r38, hq39, h0⟩ := ob h0
  refine sr (s1 (asg (v := .d (eS ([] : List UInt8))) rfl) (sn (sr (s1 (bld rfl (bd127_ )) (s1 (bxo (k := 0) rfl rfl rfl) (s1 (asg rfl) (sn (sr (s1 (mv rfl) ?_)))))))))
  refine s1 (mv rfl) (s1 (len rfl rfl rfl (len_lst un28)) (s1 (cvo rfl (cv_i64_u64 un3 un54 (p0.length : Int))) (ca (σ' := [.box (.agg [.slc 1 1 0 r38.length none]), .row 1 (List.map eU8 r38) true]) [0] (ref01_Out_Num_ok (u64i (p0.length : Int)) (1 : Int) _ hq39) wf rfl rfl rfl cb57 rfl rfl rfl rfl rfl rfl (sn (SC.seqP h0 (fun y => ⟨mk 29 [(3, .ref 0 0 0)], [.box (.agg [.slc 1 1 0 y.length none]), .row 1 (List.map eU8 y) true]⟩) ?_ ?_)))))
  · intro u1_57 h1
    obtain ⟨u2_69, h2, h1⟩ := ob h1
    refine sr (s1 (asg rfl) (sn (SC.blk (SC.loopB h2 (fun y => ⟨mk 29 [(0, .d ((eL 3 eApiValue) p0)), (3, .ref 0 0 0), (4, .d (eI y.1))], [.box (.agg [.slc 1 1 0 y.2.length none]), .row 1 (List.map eU8 y.2) true]⟩) (wq rfl) ?_))))
    intro n73
    rintro ⟨y61, y62⟩ w2_68 h3 hv3
    refine sq (sr (s1 (mv rfl) (s1 (mv rfl) (s1 (len rfl rfl rfl (len_lst un28)) (s1 (bi rfl rfl q_i64_lss) (sn (cB h3 rfl (fun h3 => ?_) (fun h3 => ?_))))))))
    · obtain ⟨v70, hv70, h3⟩ := ob h3; obtain ⟨r71, hq72, h3⟩ := ob h3
      refine sk (sq (SC.blk (SC.region (s1 (mv rfl) (s1 (mv rfl) (s1 (mv rfl) (s1 (ial rfl rfl un28 ts68 (getI_some hv70).1 (map_get (getI_some hv70).2) rfl) (s1 (lod (v := .d (eApiValue v70)) rfl (ld_rop ts68 ta68 rfl)) (ca (σ' := [.box (.agg [.slc 2 1 0 r71.length none]), .dead, .row 1 (List.map eU8 r71) true]) [0, 1] (ref08_put_ok v70 y62 _ hq72) wf rfl rfl rfl cb58 rfl rfl rfl rfl rfl rfl ?_)))))))))
      refine SO.nil ?_
      change SC _ _ _ _ _
      have q := si h3; subst q
      exact SC.region (s1 (mv rfl) (s1 (bi rfl rfl q_i64_add) (s1 (asg rfl) (SO.nil (lf (wc [0, 2] [0] (by kernel_rfl) rfl (by kernel_rfl)))))))
    · have q := si h3; subst q; have q : _ = _ := hv3; subst q; have q := si h1; subst q
      exact SC.exit ((wq rfl))
  · rintro y56 h0
    have q := si h0; subst q
    exact sr (s1 (mv rfl) (s1 (nkr rfl) (s1 (far (k := 0) rfl fo127_0 ts125 rfl) (s1 (lod rfl (ld_box ts125 ta125 rfl rfl)) (s1 (cvo (v := .d (eS y56)) rfl (cv_bytes_str un125 un9 un5 (el_full (xs := y56) rfl) (fun _ hh => by cases hh))) (s1 (asg rfl) (sn (SC.ret (finR (wc (e' := [(2, .d (eS y56))]) [] [] (by kernel_rfl) rfl (by kernel_rfl)) (lresT rfl lresN) rfl)))))))))

/-- granary/granaryref19.Kept -/
noncomputable def ref19_Kept (p0 : ApiIndex) (p1 : Granaryref19Built) (p2 : List UInt8) : Option Bool :=
  Option.bind (α := Bool)
    (bif p0.Ready then
      some true
    else
      bif p1.Any then
        some (ltS p2 p1.Key || p2 == p1.Key)
      else
        some false)
    fun y4 =>
  some y4
theorem ref19_Kept_ok (p0 : ApiIndex) (p1 : Granaryref19Built) (p2 : List UInt8) (r : Bool) (h0 : ref19_Kept p0 p1 p2 = some r) : CallAt Tryz.prog 41 [.d (eApiIndex p0), .d (eGranaryref19Built p1), .d (eS p2)] [] (.d (eB r)) [] := by
  unfold ref19_Kept at h0
  refine fn0 [0, 1, 2] Tryz.func41 rfl rfl rfl rfl rfl ?_
  refine sr (s1 (bxo (k := 0) rfl rfl rfl) (s1 (bxo (k := 1) rfl rfl rfl) (s1 (asg rfl) (sn (SC.seqP h0 (fun y => ⟨mk 19 [(6, .d (eB y))], []⟩) ?_ ?_)))))
  · intro u1_5 h1
    refine SC.region (s1 (far (k := 4) rfl fo82_4 ts4 rfl) (s1 (lod rfl (ld_box ts4 ta4 rfl rfl)) (s1 (mv rfl) (sp h1 (fun h1 => ?_) (fun h1 => ?_)))))
    · have q := si h1; subst q
      refine k1 (wb rfl rfl rfl) (k1 (wb rfl rfl rfl) (k1 (wb rfl rfl rfl) (k1 (wo rfl rfl) (k1 (wo rfl rfl) (k1 (wo rfl rfl) (k1 (wo rfl rfl) (k1 (wb rfl rfl rfl) (s1 (pkt rfl rfl) (s1 (asg rfl) ?_)))))))))
      exact SO.nil ((wc [] [] (by kernel_rfl) rfl (by kernel_rfl)))
    · refine g1 (wb rfl rfl rfl) (far (k := 1) rfl fo105_1 ts4 rfl) (g1 (wb rfl rfl rfl) (lod rfl (ld_box ts4 ta4 rfl rfl)) (g1 (wb rfl rfl rfl) (mv rfl) (sp h1 (fun h1 => ?_) (fun h1 => ?_))))
      · have q := si h1; subst q
        exact g1 (wb rfl rfl rfl) (mv rfl) (g1 (wb rfl rfl rfl) (far (k := 0) rfl fo105_0 ts9 rfl) (g1 (wb rfl rfl rfl) (lod rfl (ld_box ts9 ta9 rfl rfl)) (g1 (wb rfl rfl rfl) (bi rfl rfl q_str_leq) (g1 (wb rfl rfl rfl) (pkt rfl rfl) (s1 (pkf rfl rfl) (s1 (asg rfl) (SO.nil ((wc [] [] (by kernel_rfl) rfl (by kernel_rfl))))))))))
      · have q := si h1; subst q
        exact k1 (wb rfl rfl rfl) (k1 (wb rfl rfl rfl) (k1 (wb rfl rfl rfl) (k1 (wb rfl rfl rfl) (g1 (wb rfl rfl rfl) (pkf rfl rfl) (s1 (pkf rfl rfl) (s1 (asg rfl) (SO.nil ((wc [] [] (by kernel_rfl) rfl (by kernel_rfl))))))))))
  · rintro y4 h0
    have q := si h0; subst q
    exact SC.ret (finR (Wk.refl _) (lresT rfl lresN) rfl)

/-- granary/granaryref17.Front -/
noncomputable def ref17_Front (p0 : ApiIndex) (p1 : List ApiValue) : Option ((List UInt8) × Bool) :=
  Option.bind (ref17_keyed p0.Parts p1) fun (r6, r7) =>
  some (r6, r7)
theorem ref17_Front_ok (p0 : ApiIndex) (p1 : List ApiValue) (r : (List UInt8) × Bool) (h0 : ref17_Front p0 p1 = some r) : CallAt Tryz.prog 75 [.d (eApiIndex p0), .d ((eL 3 eApiValue) p1)] [] (.tuple [.d (eS r.1), .d (eB r.2)]) [] := by
  unfold ref17_Front at h0
  refine fn0 [0, 1] Tryz.func75 rfl rfl rfl rfl rfl ?_
  obtain ⟨⟨r6, r7⟩, hq8, h0⟩ := ob h0; have q := si h0; subst q
  refine sr (s1 (bxo (k := 0) rfl rfl rfl) (s1 (asg (v := .d (eS ([] : List UInt8))) rfl) (s1 (asg rfl) (sn (sr (s1 (far (k := 1) rfl fo82_1 ts80 rfl) (s1 (lod rfl (ld_box ts80 ta80 rfl rfl)) (s1 (mv rfl) (c0 (ref17_keyed_ok p0.Parts p1 _ hq8) wf rfl rfl rfl cb73 rfl (fun _ => rfl) (fun _ => rfl) ?_)))))))))
  exact s1 (ext rfl rfl) (s1 (ext rfl rfl) (s1 (asg rfl) (s1 (asg rfl) (sn (SC.ret (finR (wc (e' := [(4, .d (eS r6)), (5, .d (eB r7))]) [] [] (by kernel_rfl) rfl (by kernel_rfl)) (lresT rfl (lresT rfl lresN)) rfl))))))

/-- granary/granaryref17.Entry -/
noncomputable def ref17_Entry (p0 : ApiTable) (p1 : ApiIndex) (p2 : List ApiValue) : Option ApiPair :=
  Option.bind (ref17_Front p1 p2) fun (r82, r83) =>
  Option.bind (ref17_Primary p0 p2) fun r85 =>
  bif decide (r82.length + r85.length ≤ 9223372036854775807) then
  Option.bind (α := ApiPair)
    (bif (decide ((p1.Extra.length : Int) > (0 : Int))) then
      Option.bind (α := (List ApiValue))
        (Option.bind (α := (List ApiValue))
          (loop (Y := (List ApiValue) × Int) (W := (List ApiValue)) (fun (y147, y148) =>
            bif (decide (y148 < (p1.Extra.length : Int))) then
              Option.bind (getI p1.Extra y148) fun v156 =>
              Option.bind (getI p2 v156) fun v157 =>
              bif decide ((y147.length + [v157].length) * 32 ≤ room) then
              some (Sum.inl ((y147 ++ [v157]), (w64 (y148 + (1 : Int)))))
              else none
            else
              some (Sum.inr y147)) (([] : List ApiValue), (0 : Int)))
          (fun e => some e))
        fun y142 =>
      Option.bind (ref08_Bytes y142) fun r160 =>
      some (ApiPair.mk (r82 ++ r85) r160)
    else
      some (ApiPair.mk (r82 ++ r85) ([] : List UInt8)))
    fun y124 =>
  some y124
  else none
theorem ref17_Entry_ok (p0 : ApiTable) (p1 : ApiIndex) (p2 : List ApiValue) (r : ApiPair) (h0 : ref17_Entry p0 p1 p2 = some r) : CallAt Tryz.prog 74 [.d (eApiTable p0), .d (eApiIndex p1), .d ((eL 3 eApiValue) p2)] [] (.d (eApiPair r)) [.box (.d (eApiPair r))] := by
  unfold ref17_Entry at h0
  refine fn0 [0, 1, 2] Tryz.func74 rfl rfl rfl rfl rfl ?_
  obtain ⟨⟨r82, r83⟩, hq84, h0⟩ := ob h0; obtain ⟨r85, hq86, h0⟩ := ob h0; obtain ⟨hg87, h0⟩ := gd h0
  refine sr (s1 (bxo (k := 0) rfl rfl rfl) (s1 (bxo (k := 1) rfl rfl rfl) (s1 (alo (k := 2) zo145 rfl) (sn (sr (s1 (lod (v := .d (eApiIndex p1)) rfl (ld_box ts82 ta82 rfl rfl)) (s1 (mv rfl) (c0 (ref17_Front_ok p1 p2 _ hq84) wf rfl rfl rfl cb75 rfl (fun _ => rfl) (fun _ => rfl) (s1 (mv rfl) ?_)))))))))
  refine s1 (ext rfl rfl) (s1 (ext rfl rfl) (s1 (asg rfl) (s1 (asg rfl) (sn (sr (s1 (mv rfl) (s1 (lod (v := .d (eApiTable p0)) rfl (ld_box ts26 ta26 rfl rfl)) (s1 (mv rfl) (c0 (ref17_Primary_ok p0 p2 _ hq86) wf rfl rfl rfl cb37 rfl (fun _ => rfl) (fun _ => rfl) ?_)))))))))
  refine s1 (bi (v := .d (eS (r82 ++ r85))) rfl rfl (fun X Y => b_str_add _ X Y r82 r85 hg87)) (s1 (bld rfl (bd145_0 (r82 ++ r85))) (s1 (alo (k := 3) zo145 rfl) (s0 (sto rfl rfl (sB (d' := .d (eApiPair (ApiPair.mk (r82 ++ r85) ([] : List UInt8)))) ts145 rfl rfl rfl rfl rfl rfl rfl)) (sn (SC.seqP h0 (fun y => ⟨mk 50 [(6, .ref 0 0 0), (9, .ref 1 0 0)], [.box (.d (eApiPair (ApiPair.mk ([] : List UInt8) ([] : List UInt8)))), .box (.d (eApiPair y))]⟩) ?_ ?_)))))
  · intro u1_125 h1
    refine sr (s1 (far (k := 2) rfl fo82_2 ts23 rfl) (s1 (lod rfl (ld_box ts23 ta23 rfl rfl)) (s1 (len rfl rfl rfl (len_lst un23)) (s1 (bi rfl rfl q_i64_gtr) (sn (cB h1 rfl (fun h1 => ?_) (fun h1 => ?_)))))))
    · refine sr (s1 (asg (v := .d .nils) rfl) (sn (SC.seqP h1 (fun y => ⟨mk 50 [(6, .ref 0 0 0), (9, .ref 1 0 0), (10, .slc 2 3 0 y.length none)], [.box (.d (eApiPair (ApiPair.mk ([] : List UInt8) ([] : List UInt8)))), .box (.d (eApiPair (ApiPair.mk (r82 ++ r85) ([] : List UInt8)))), .row 3 (List.map eApiValue y) true]⟩) ?_ ?_)))
      · intro u2_143 h2
        obtain ⟨u3_155, h3, h2⟩ := ob h2
        refine sr (s1 (asg rfl) (sn (SC.blk (SC.loopB h3 (fun y => ⟨mk 50 [(2, .d ((eL 3 eApiValue) p2)), (4, .ref 0 0 0), (6, .ref 1 0 0), (9, .ref 2 0 0), (10, .slc 3 3 0 y.1.length none), (11, .d (eI y.2))], [.box (.d (eApiIndex p1)), .box (.d (eApiPair (ApiPair.mk ([] : List UInt8) ([] : List UInt8)))), .box (.d (eApiPair (ApiPair.mk (r82 ++ r85) ([] : List UInt8)))), .row 3 (List.map eApiValue y.1) true]⟩) (Wk.trans (Wk.pushE (σ' := [.box (.d (eApiTable p0)), .box (.d (eApiIndex p1)), .box (.d (eApiPair (ApiPair.mk ([] : List UInt8) ([] : List UInt8)))), .box (.d (eApiPair (ApiPair.mk (r82 ++ r85) ([] : List UInt8)))), .row 3 (List.map eApiValue ([] : List ApiValue)) true]) (.row 3 [] true) (fun _ hh => by cases hh) rfl) (Wk.trans (Wk.env (e' := [(2, .d ((eL 3 eApiValue) p2)), (4, .ref 1 0 0), (6, .ref 2 0 0), (9, .ref 3 0 0), (10, .slc 4 3 0 (([] : List ApiValue).length) none), (11, .d (eI (0 : Int)))]) (EW.cons (AW.refl _) (EW.cons (AW.refl _) (EW.cons (AW.refl _) (EW.cons (AW.refl _) (EW.cons (AW.slcn _ _ _) (EW.cons (AW.refl _) EW.nil))))))) (wc [1, 2, 3, 4] [1, 2, 3, 4] (by kernel_rfl) rfl (by kernel_rfl)))) ?_))))
        intro n159
        rintro ⟨y147, y148⟩ w3_154 h4 hv4
        refine sq (sr (s1 (mv rfl) (s1 (far (k := 2) rfl fo82_2 ts23 rfl) (s1 (lod rfl (ld_box ts23 ta23 rfl rfl)) (s1 (len rfl rfl rfl (len_lst un23)) (s1 (bi rfl rfl q_i64_lss) (sn (cB h4 rfl (fun h4 => ?_) (fun h4 => ?_)))))))))
        · obtain ⟨v156, hv156, h4⟩ := ob h4; obtain ⟨v157, hv157, h4⟩ := ob h4; obtain ⟨hg158, h4⟩ := gd h4
          refine sk (sq (SC.blk (SC.region (s1 (mv rfl) (s1 (mv rfl) (s1 (far (k := 2) rfl fo82_2 ts23 rfl) (s1 (lod rfl (ld_box ts23 ta23 rfl rfl)) (s1 (mv rfl) (s1 (ial rfl rfl un23 ts3 (getI_some hv156).1 (map_get (getI_some hv156).2) rfl) ?_)))))))))
          refine s1 (lod rfl (ld_rop ts3 ta3 rfl)) (s1 (ial rfl rfl un28 ts68 (getI_some hv157).1 (map_get (getI_some hv157).2) rfl) (s1 (lod (v := .d (eApiValue v157)) rfl (ld_rop ts68 ta68 rfl)) (s1 (bsn (k := 4) (ds := List.map eApiValue [v157]) (off := 0) (l' := [v157].length) rfl un28 ei68 rfl rfl (by rfl) rfl rfl rfl) (s1 (app rfl rfl rfl rfl bc28 (aF (f := eApiValue) (xs := y147) (k := 5) rfl un28 ei68 rfl (el_full (xs := [v157]) rfl) hg158 rfl)) (s1 (asg rfl) (SO.nil ?_))))))
          change SC _ _ _ _ _
          have q := si h4; subst q
          exact SC.region (s1 (mv rfl) (s1 (bi rfl rfl q_i64_add) (s1 (asg rfl) (SO.nil (lf (wc [0, 1, 2, 5] [0, 1, 2, 5] (by kernel_rfl) rfl (by kernel_rfl)))))))
        · have q := si h4; subst q; have q : _ = _ := hv4; subst q; have q := si h2; subst q
          exact SC.exit ((wc [1, 2, 3] [1, 2, 3] (by kernel_rfl) rfl (by kernel_rfl)))
      · rintro y142 h1
        obtain ⟨r160, hq161, h1⟩ := ob h1; have q := si h1; subst q
        exact SC.region (s1 (mv rfl) (ca (args' := [.slc 0 3 0 y142.length none]) (σc := [.row 3 (List.map eApiValue y142) true]) (σ' := [.box (.d (eApiPair (ApiPair.mk ([] : List UInt8) ([] : List UInt8)))), .box (.d (eApiPair (ApiPair.mk (r82 ++ r85) ([] : List UInt8)))), .row 3 (List.map eApiValue y142) false]) [2] (CallAt.frz (ArgF.frz (fF rfl rfl rfl) (ArgF.nil _)) (fm [] (ref08_Bytes_ok y142 _ hq161) rfl rfl rfl rfl rfl rfl)) wf rfl rfl rfl cb18 rfl rfl rfl rfl rfl rfl (s1 (far (k := 1) rfl fo145_1 ts9 rfl) (s0 (sto rfl rfl (sB (d' := .d (eApiPair (ApiPair.mk (r82 ++ r85) r160))) ts9 rfl rfl rfl rfl rfl rfl rfl)) (SO.nil ((wc [0, 1] [0, 1] (by kernel_rfl) rfl (by kernel_rfl))))))))
    · have q := si h1; subst q
      exact SC.skip ((wc [2, 3] [2, 3] (by kernel_rfl) rfl (by kernel_rfl)))
  · rintro y124 h0
    have q := si h0; subst q
    exact sr (s1 (lod (v := .d (eApiPair y124)) rfl (ld_box ts145 ta145 rfl rfl)) (s0 (sto rfl rfl (sB (d' := .d (eApiPair y124)) ts145 rfl rfl rfl rfl rfl rfl rfl)) (sn (SC.ret (finR (wc (e' := [(6, .ref 0 0 0)]) [0] [0] (by kernel_rfl) rfl (by kernel_rfl)) (lresC rfl (ld_box ts145 ta145 rfl rfl) lresN) rfl)))))

/-- granary/granaryref07.After -/
noncomputable def ref07_After (p0 : List UInt8) : Option ((List UInt8) × Bool) :=
  bindE (Y := Unit) (E := (List UInt8) × Bool)
    (Option.bind (α := Unit ⊕ ((List UInt8) × Bool))
      (loop (Y := Int) (W := Unit ⊕ ((List UInt8) × Bool)) (fun y60 =>
        bif (decide (y60 ≥ (0 : Int))) then
          Option.bind (getI p0 y60) fun v68 =>
          bif (decide (v68 < (255 : UInt8))) then
            bif decide (0 ≤ y60 ∧ y60 ≤ (p0.length : Int)) then
            Option.bind (getI p0 y60) fun v70 =>
            bif decide ((List.take y60.toNat p0).length + [(v70 + (1 : UInt8))].length ≤ 9223372036854775807) then
            some (Sum.inr (Sum.inr (((List.take y60.toNat p0) ++ [(v70 + (1 : UInt8))]), true)))
            else none
            else none
          else
            some (Sum.inl (w64 (y60 - (1 : Int))))
        else
          some (Sum.inr (Sum.inl ()))) (w64 ((p0.length : Int) - (1 : Int))))
      (Sum.elim (fun e => some (Sum.inl e)) (fun e => some (Sum.inr e))))
    (fun _ =>
      some (([] : List UInt8), false))
    (fun e => some e)
theorem ref07_After_ok (p0 : List UInt8) (r : (List UInt8) × Bool) (h0 : ref07_After p0 = some r) : CallAt Tryz.prog 106 [.d (eS p0)] [] (.tuple [.d (eS r.1), .d (eB r.2)]) [] := by
  unfold ref07_After at h0
  refine fn0 [0] Tryz.func106 rfl rfl rfl rfl rfl ?_
  refine sr (s1 (asg (v := .d (eS ([] : List UInt8))) rfl) (s1 (asg rfl) (sn (SC.seqB h0 (fun y => ⟨mk 26 [], []⟩) ?_ ?_))))
  · intro u1_55 h1 h0
    obtain ⟨u2_67, h2, h1⟩ := ob h1
    refine sr (s1 (mv rfl) (s1 (len rfl rfl rfl (len_str un9)) (s1 (bi rfl rfl q_i64_sub) (s1 (asg rfl) (sn (SC.blk (SC.loopB h2 (fun y => ⟨mk 26 [(0, .d (eS p0)), (4, .d (eI y))], []⟩) (wq rfl) ?_)))))))
    intro n72
    rintro y60 w2_66 h3 hv3
    refine sq (sr (s1 (mv rfl) (s1 (bi rfl rfl q_i64_geq) (sn (cB h3 rfl (fun h3 => ?_) (fun h3 => ?_))))))
    · obtain ⟨v68, hv68, h3⟩ := ob h3
      refine sk (sq (SC.blk (sr (s1 (mv rfl) (s1 (mv rfl) (s1 (ixs rfl rfl rfl rfl (ix_str un9 (getI_some hv68).1 (getI_some hv68).2)) (s1 (bi rfl rfl (q_u8_lss (b := (255 : UInt8)))) (sn (cB h3 rfl (fun h3 => ?_) (fun h3 => ?_))))))))))
      · obtain ⟨hg69, h3⟩ := gd h3; obtain ⟨v70, hv70, h3⟩ := ob h3; obtain ⟨hg71, h3⟩ := gd h3; have q := si h3; subst q; have q : _ = _ := hv3; subst q; have q := si h1; subst q; have q := si h0; subst q
        refine sd (by kernel_rfl) (t1 ([], false) (mv rfl) rfl (t1 ([], false) (mv rfl) rfl (t1 ([], false) (slo rfl rfl rfl rfl (sl_str_hi un9 hg69)) rfl (t1 ([], false) (mv rfl) rfl (t1 ([], false) (mv rfl) rfl (t1 ([], false) (ixs rfl rfl rfl rfl (ix_str un9 (getI_some hv70).1 (getI_some hv70).2)) rfl (t1 ([], false) (bi rfl rfl (q_u8_add (b := (1 : UInt8)))) rfl (t1 ([0], true) (bsn (k := 0) (ds := List.map eU8 [(v70 + (1 : UInt8))]) (off := 0) (l' := [(v70 + (1 : UInt8))].length) rfl un125 ei5 rfl rfl (by rfl) rfl rfl rfl) rfl (t1 ([0], false) (cvo (v := .d (eS [(v70 + (1 : UInt8))])) rfl (cv_bytes_str un125 un9 un5 (el_full (xs := [(v70 + (1 : UInt8))]) rfl) (fun _ hh => by cases hh))) rfl ?_)))))))))
        exact t1 ([], false) (bi (v := .d (eS ((List.take y60.toNat p0) ++ [(v70 + (1 : UInt8))]))) rfl rfl (fun X Y => b_str_add _ X Y (List.take y60.toNat p0) [(v70 + (1 : UInt8))] hg71)) rfl (t1 ([], false) (asg rfl) rfl (t1 ([], false) (asg rfl) rfl (tn (by decide +kernel) (SC.ret (finR (wc (e' := [(2, .d (eS ((List.take y60.toNat p0) ++ [(v70 + (1 : UInt8))]))), (3, .d (eB true))]) [] [] (by kernel_rfl) rfl (by kernel_rfl)) (lresT rfl (lresT rfl lresN)) rfl)))))
      · refine SC.skip ?_
        change SC _ _ _ _ _
        have q := si h3; subst q
        exact SC.region (s1 (mv rfl) (s1 (bi rfl rfl q_i64_sub) (s1 (asg rfl) (SO.nil (lf (wq rfl))))))
    · have q := si h3; subst q; have q : _ = _ := hv3; subst q; have q := si h1; subst q
      exact SC.exit (lf (wq rfl))
  · intro _ h0
    have q := si h0; subst q
    exact sr (s1 (asg (v := .d (eS ([] : List UInt8))) rfl) (s1 (asg rfl) (sn (SC.ret (finR (Wk.refl _) (lresT rfl (lresT rfl lresN)) rfl)))))

/-- granary/granaryref07.Under -/
noncomputable def ref07_Under (p0 : List UInt8) : Option ApiSpan :=
  Option.bind (ref07_After p0) fun (r5, r6) =>
  some (ApiSpan.mk p0 r5 (!r6))
theorem ref07_Under_ok (p0 : List UInt8) (r : ApiSpan) (h0 : ref07_Under p0 = some r) : CallAt Tryz.prog 76 [.d (eS p0)] [] (.d (eApiSpan r)) [.box (.d (eApiSpan r))] := by
  unfold ref07_Under at h0
  refine fn0 [0] Tryz.func76 rfl rfl rfl rfl rfl ?_
  obtain ⟨⟨r5, r6⟩, hq7, h0⟩ := ob h0; have q := si h0; subst q
  refine sr (s1 (alo (k := 0) zo31 rfl) (sn (sr (s1 (mv rfl) (c0 (ref07_After_ok p0 _ hq7) wf rfl rfl rfl cb106 rfl (fun _ => rfl) (fun _ => rfl) (s1 (mv rfl) (s1 (ext rfl rfl) (s1 (ext rfl rfl) (s1 (asg rfl) ?_)))))))))
  refine s1 (asg rfl) (sn (sr (s1 (mv rfl) (s1 (mv rfl) (s1 (mv rfl) (s1 (nt rfl) (s1 (bld rfl (bd31_0_1_2 p0 r5 (!r6))) (s0 (sto rfl rfl (sB (d' := .d (eApiSpan (ApiSpan.mk p0 r5 (!r6)))) ts31 rfl rfl rfl rfl rfl rfl rfl)) (sn ?_)))))))))
  exact SC.ret (finR (Wk.refl _) (lresC rfl (ld_box ts31 ta31 rfl rfl) lresN) rfl)

/-- (*granary/granaryref19.Work).op -/
noncomputable def ref19_Work_op_2 (p0 : Int) (p1 : Int) (p2 : List UInt8) (p3 : List UInt8) (p4 : List Granaryref14Op) (p5 : List ApiLock) (p6 : List Granaryref19Probe) : Option Unit :=
  bif decide ((p4.length + [(Granaryref14Op.mk (1 : Int) p0 (ApiMsg.mk (0 : UInt64) p1 p2 (0 : UInt64) p3 (0 : Int) (0 : UInt64)))].length) * 88 ≤ room) then
  some ()
  else none
theorem ref19_Work_op_2_ok (p0 : Int) (p1 : Int) (p2 : List UInt8) (p3 : List UInt8) (p4 : List Granaryref14Op) (p5 : List ApiLock) (p6 : List Granaryref19Probe) (r : Unit) (h0 : ref19_Work_op_2 p0 p1 p2 p3 p4 p5 p6 = some r) : CallAt Tryz.prog 40 [.ref 0 0 0, .d (eI p0), .d (eI p1), .d (eS p2), .d (eS p3)] [.box (.agg [.slc 1 9 0 p4.length none, .slc 2 5 0 p5.length none, .slc 3 4 0 p6.length none]), .row 9 (List.map eGranaryref14Op p4) true, .row 5 (List.map eApiLock p5) true, .row 4 (List.map eGranaryref19Probe p6) true] (.tuple []) [.box (.agg [.slc 4 9 0 ((p4 ++ [(Granaryref14Op.mk (1 : Int) p0 (ApiMsg.mk (0 : UInt64) p1 p2 (0 : UInt64) p3 (0 : Int) (0 : UInt64)))]).length) none, .slc 2 5 0 p5.length none, .slc 3 4 0 p6.length none]), .dead, .row 5 (List.map eApiLock p5) true, .row 4 (List.map eGranaryref19Probe p6) true, .row 9 (List.map eGranaryref14Op (p4 ++ [(Granaryref14Op.mk (1 : Int) p0 (ApiMsg.mk (0 : UInt64) p1 p2 (0 : UInt64) p3 (0 : Int) (0 : UInt64)))])) true] := by
  unfold ref19_Work_op_2 at h0
  refine fn0 [0, 1, 2, 3, 4] Tryz.func40 rfl rfl rfl rfl rfl ?_
  obtain ⟨hg2, h0⟩ := gd h0; have q := si h0; subst q
  refine SC.region (s1 (mv rfl) (s1 (mv rfl) (s1 (nkr rfl) (s1 (far (k := 0) rfl fo46_0 ts43 rfl) (s1 (lod rfl (ld_box ts43 ta43 rfl rfl)) (s1 (mv rfl) (s1 (mv rfl) (s1 (mv rfl) (s1 (mv rfl) ?_)))))))))
  exact s1 (bld rfl (bd63_1_2_4 p1 p2 p3)) (s1 (bld rfl (bd108_0_1_2 (1 : Int) p0 (ApiMsg.mk (0 : UInt64) p1 p2 (0 : UInt64) p3 (0 : Int) (0 : UInt64)))) (s1 (bsn (k := 4) (ds := List.map eGranaryref14Op [(Granaryref14Op.mk (1 : Int) p0 (ApiMsg.mk (0 : UInt64) p1 p2 (0 : UInt64) p3 (0 : Int) (0 : UInt64)))]) (off := 0) (l' := [(Granaryref14Op.mk (1 : Int) p0 (ApiMsg.mk (0 : UInt64) p1 p2 (0 : UInt64) p3 (0 : Int) (0 : UInt64)))].length) rfl un43 ei108 rfl rfl (by rfl) rfl rfl rfl) (s1 (app rfl rfl rfl rfl bc43 (aF (f := eGranaryref14Op) (xs := p4) (k := 5) rfl un43 ei108 rfl (el_full (xs := [(Granaryref14Op.mk (1 : Int) p0 (ApiMsg.mk (0 : UInt64) p1 p2 (0 : UInt64) p3 (0 : Int) (0 : UInt64)))]) rfl) hg2 rfl)) (s1 (nkr rfl) (s1 (far (k := 0) rfl fo46_0 ts43 rfl) (s0 (sto rfl rfl (sB (d' := .agg [.slc 5 9 0 ((p4 ++ [(Granaryref14Op.mk (1 : Int) p0 (ApiMsg.mk (0 : UInt64) p1 p2 (0 : UInt64) p3 (0 : Int) (0 : UInt64)))]).length) none, .slc 2 5 0 p5.length none, .slc 3 4 0 p6.length none]) ts43 rfl rfl rfl rfl rfl rfl rfl)) (SO.nil (finN (wc (e' := []) [0, 1, 2, 3, 5] [0, 1, 2, 3] (by kernel_rfl) rfl (by kernel_rfl)) lresN rfl))))))))

/-- (*granary/granaryref19.Work).own -/
noncomputable def ref19_Work_own_2 (p0 : Int) (p1 : List UInt8) (p2 : List Granaryref14Op) (p3 : List ApiLock) (p4 : List Granaryref19Probe) : Option Unit :=
  Option.bind (ref19_Point p1) fun _ =>
  bif decide ((p3.length + [(ApiLock.mk p0 (ApiSpan.mk p1 (p1 ++ ([0] : List UInt8)) false) true)].length) * 56 ≤ room) then
  some ()
  else none
theorem ref19_Work_own_2_ok (p0 : Int) (p1 : List UInt8) (p2 : List Granaryref14Op) (p3 : List ApiLock) (p4 : List Granaryref19Probe) (r : Unit) (h0 : ref19_Work_own_2 p0 p1 p2 p3 p4 = some r) : CallAt Tryz.prog 38 [.ref 0 0 0, .d (eI p0), .d (eS p1)] [.box (.agg [.slc 1 9 0 p2.length none, .slc 2 5 0 p3.length none, .slc 3 4 0 p4.length none]), .row 9 (List.map eGranaryref14Op p2) true, .row 5 (List.map eApiLock p3) true, .row 4 (List.map eGranaryref19Probe p4) true] (.tuple []) [.box (.agg [.slc 1 9 0 p2.length none, .slc 4 5 0 ((p3 ++ [(ApiLock.mk p0 (ApiSpan.mk p1 (p1 ++ ([0] : List UInt8)) false) true)]).length) none, .slc 3 4 0 p4.length none]), .row 9 (List.map eGranaryref14Op p2) true, .dead, .row 4 (List.map eGranaryref19Probe p4) true, .row 5 (List.map eApiLock (p3 ++ [(ApiLock.mk p0 (ApiSpan.mk p1 (p1 ++ ([0] : List UInt8)) false) true)])) true] := by
  unfold ref19_Work_own_2 at h0
  refine fn0 [0, 1, 2] Tryz.func38 rfl rfl rfl rfl rfl ?_
  obtain ⟨_, hq3, h0⟩ := ob h0; obtain ⟨hg4, h0⟩ := gd h0; have q := si h0; subst q
  refine SC.draws (by kernel_rfl) (t1 ([], false) (mv rfl) rfl (t1 ([], false) (mv rfl) rfl (t1 ([], false) (nkr rfl) rfl (t1 ([], false) (far (k := 1) rfl fo46_1 ts37 rfl) rfl (t1 ([0], false) (lod rfl (ld_box ts37 ta37 rfl rfl)) rfl (t1 ([], false) (mv rfl) rfl (t1 ([], false) (mv rfl) rfl (ta' [] ([4], true) (ref19_Point_ok p1 _ hq3) wf rfl rfl rfl cb7 rfl rfl rfl rfl rfl rfl rfl (t1 ([], false) (bld rfl (bd137_0_1_2 p0 (ApiSpan.mk p1 (p1 ++ ([0] : List UInt8)) false) true)) rfl ?_)))))))))
  refine t1 ([5], true) (bsn (k := 5) (ds := List.map eApiLock [(ApiLock.mk p0 (ApiSpan.mk p1 (p1 ++ ([0] : List UInt8)) false) true)]) (off := 0) (l' := [(ApiLock.mk p0 (ApiSpan.mk p1 (p1 ++ ([0] : List UInt8)) false) true)].length) rfl un37 ei137 rfl rfl (by rfl) rfl rfl rfl) rfl (t1 ([2, 5, 6], true) (app rfl rfl rfl rfl bc37 (aF (f := eApiLock) (xs := p3) (k := 6) rfl un37 ei137 rfl (el_full (xs := [(ApiLock.mk p0 (ApiSpan.mk p1 (p1 ++ ([0] : List UInt8)) false) true)]) rfl) hg4 rfl)) rfl (t1 ([], false) (nkr rfl) rfl (t1 ([], false) (far (k := 1) rfl fo46_1 ts37 rfl) rfl (t0 ([0, 6], true) (sto rfl rfl (sB (d' := .agg [.slc 1 9 0 p2.length none, .slc 6 5 0 ((p3 ++ [(ApiLock.mk p0 (ApiSpan.mk p1 (p1 ++ ([0] : List UInt8)) false) true)]).length) none, .slc 3 4 0 p4.length none]) ts37 rfl rfl rfl rfl rfl rfl rfl)) rfl (ST.nil (And.intro (by decide +kernel) ?_))))))
  exact finN (wc (e' := []) [0, 1, 2, 3, 6] [0, 1, 2, 3] (by kernel_rfl) rfl (by kernel_rfl)) lresN rfl

/-- (*granary/granaryref19.Work).index -/
noncomputable def ref19_Work_index_1 (p0 : ApiTable) (p1 : ApiIndex) (p2 : List ApiValue) (p3 : List ApiValue) (p4 : List Granaryref14Op) (p5 : List ApiLock) (p6 : List Granaryref19Probe) : Option ((List Granaryref14Op) × (List ApiLock) × (List Granaryref19Probe)) :=
  Option.bind (α := (List UInt8) × ApiPair)
    (bif (decide ((p2.length : Int) > (0 : Int))) then
      Option.bind (ref17_Entry p0 p1 p2) fun r57 =>
      Option.bind (ref17_Front p1 p2) fun (r59, r60) =>
      some (r59, r57)
    else
      some (([] : List UInt8), (ApiPair.mk ([] : List UInt8) ([] : List UInt8))))
    fun (y54, y55) =>
  Option.bind (α := ApiPair)
    (bif (decide ((p3.length : Int) > (0 : Int))) then
      Option.bind (ref17_Entry p0 p1 p3) fun r66 =>
      some r66
    else
      some (ApiPair.mk ([] : List UInt8) ([] : List UInt8)))
    fun y64 =>
  Option.bind (α := Bool)
    (bif (decide ((p2.length : Int) > (0 : Int))) then
      bif (decide ((p3.length : Int) > (0 : Int))) then
        some (eqApiPair y55 y64)
      else
        some false
    else
      some false)
    fun y68 =>
  bif y68 then
    some (p4, p5, p6)
  else
    Option.bind (α := (List Granaryref14Op) × (List ApiLock))
      (Option.bind (α := Bool)
        (bif (decide ((p2.length : Int) > (0 : Int))) then
          bif ((p3.length : Int) == (0 : Int)) then
            some true
          else
            some (y55.Key != y64.Key)
        else
          some false)
        fun y77 =>
      bif y77 then
        Option.bind (ref19_Work_op_2 p1.Tree (2 : Int) y55.Key ([] : List UInt8) p4 p5 p6) fun _ =>
        bif p1.Ready then
          Option.bind (ref19_Work_own_2 p1.Tree y55.Key (p4 ++ [(Granaryref14Op.mk (1 : Int) p1.Tree (ApiMsg.mk (0 : UInt64) (2 : Int) y55.Key (0 : UInt64) ([] : List UInt8) (0 : Int) (0 : UInt64)))]) p5 p6) fun _ =>
          some ((p4 ++ [(Granaryref14Op.mk (1 : Int) p1.Tree (ApiMsg.mk (0 : UInt64) (2 : Int) y55.Key (0 : UInt64) ([] : List UInt8) (0 : Int) (0 : UInt64)))]), (p5 ++ [(ApiLock.mk p1.Tree (ApiSpan.mk y55.Key (y55.Key ++ ([0] : List UInt8)) false) true)]))
        else
          some ((p4 ++ [(Granaryref14Op.mk (1 : Int) p1.Tree (ApiMsg.mk (0 : UInt64) (2 : Int) y55.Key (0 : UInt64) ([] : List UInt8) (0 : Int) (0 : UInt64)))]), p5)
      else
        some (p4, p5))
      fun (y74, y75) =>
    bif ((p3.length : Int) == (0 : Int)) then
      some (y74, y75, p6)
    else
      Option.bind (ref19_Work_op_2 p1.Tree (1 : Int) y64.Key y64.Val y74 y75 p6) fun _ =>
      bif (!p1.Ready) then
        some ((y74 ++ [(Granaryref14Op.mk (1 : Int) p1.Tree (ApiMsg.mk (0 : UInt64) (1 : Int) y64.Key (0 : UInt64) y64.Val (0 : Int) (0 : UInt64)))]), y75, p6)
      else
        Option.bind (ref19_Work_own_2 p1.Tree y64.Key (y74 ++ [(Granaryref14Op.mk (1 : Int) p1.Tree (ApiMsg.mk (0 : UInt64) (1 : Int) y64.Key (0 : UInt64) y64.Val (0 : Int) (0 : UInt64)))]) y75 p6) fun _ =>
        Option.bind (ref17_Front p1 p3) fun (r83, r84) =>
        Option.bind (α := Bool)
          (bif p1.Unique then
            bif (!r84) then
              bif ((p2.length : Int) == (0 : Int)) then
                some true
              else
                some (y54 != r83)
            else
              some false
          else
            some false)
          fun y86 =>
        bif y86 then
          Option.bind (ref07_Under r83) fun r88 =>
          bif decide (((y75 ++ [(ApiLock.mk p1.Tree (ApiSpan.mk y64.Key (y64.Key ++ ([0] : List UInt8)) false) true)]).length + [(ApiLock.mk p1.Tree r88 false)].length) * 56 ≤ room) then
          Option.bind (ref07_Under r83) fun r91 =>
          bif decide ((p6.length + [(Granaryref19Probe.mk p1.Tree r91)].length) * 48 ≤ room) then
          some ((y74 ++ [(Granaryref14Op.mk (1 : Int) p1.Tree (ApiMsg.mk (0 : UInt64) (1 : Int) y64.Key (0 : UInt64) y64.Val (0 : Int) (0 : UInt64)))]), ((y75 ++ [(ApiLock.mk p1.Tree (ApiSpan.mk y64.Key (y64.Key ++ ([0] : List UInt8)) false) true)]) ++ [(ApiLock.mk p1.Tree r88 false)]), (p6 ++ [(Granaryref19Probe.mk p1.Tree r91)]))
          else none
          else none
        else
          some ((y74 ++ [(Granaryref14Op.mk (1 : Int) p1.Tree (ApiMsg.mk (0 : UInt64) (1 : Int) y64.Key (0 : UInt64) y64.Val (0 : Int) (0 : UInt64)))]), (y75 ++ [(ApiLock.mk p1.Tree (ApiSpan.mk y64.Key (y64.Key ++ ([0] : List UInt8)) false) true)]), p6)
theorem ref19_Work_index_1_ok (p0 : ApiTable) (p1 : ApiIndex) (p2 : List ApiValue) (p3 : List ApiValue) (p4 : List Granaryref14Op) (p5 : List ApiLock) (p6 : List Granaryref19Probe) (r : (List Granaryref14Op) × (List ApiLock) × (List Granaryref19Probe)) (h0 : ref19_Work_index_1 p0 p1 p2 p3 p4 p5 p6 = some r) : CallAt Tryz.prog 42 [.ref 0 0 0, .d (eApiTable p0), .d (eApiIndex p1), .d ((eL 3 eApiValue) p2), .d ((eL 3 eApiValue) p3)] [.box (.agg [.slc 1 9 0 p4.length none, .slc 2 5 0 p5.length none, .slc 3 4 0 p6.length none]), .row 9 (List.map eGranaryref14Op p4) true, .row 5 (List.map eApiLock p5) true, .row 4 (List.map eGranaryref19Probe p6) true] (.tuple []) [.box (.agg [.slc 4 9 0 r.1.length none, .slc 5 5 0 r.2.1.length none, .slc 6 4 0 r.2.2.length none]), .dead, .dead, .dead, .row 9 (List.map eGranaryref14Op r.1) true, .row 5 (List.map eApiLock r.2.1) true, .row 4 (List.map eGranaryref19Probe r.2.2) true] := by
  unfold ref19_Work_index_1 at h0
  refine fn0 [0, 1, 2, 3, 4] Tryz.func42 rfl rfl rfl rfl rfl ?_
  refine sr (s1 (bxo (k := 4) rfl rfl rfl) (s1 (bxo (k := 5) rfl rfl rfl) (sn (sr (s1 (bld rfl (bd145_ )) (s1 (alo (k := 6) zo145 rfl) (s0 (sto rfl rfl (sB (d' := .d (eApiPair (ApiPair.mk ([] : List UInt8) ([] : List UInt8)))) ts145 rfl rfl rfl rfl rfl rfl rfl)) (sn (sr ?_)))))))))
  refine s1 (bld rfl (bd145_ )) (s1 (alo (k := 7) zo145 rfl) (s0 (sto rfl rfl (sB (d' := .d (eApiPair (ApiPair.mk ([] : List UInt8) ([] : List UInt8)))) ts145 rfl rfl rfl rfl rfl rfl rfl)) (sn (sr (s1 (asg (v := .d (eS ([] : List UInt8))) rfl) (sn (SC.seqP h0 (fun y => ⟨mk 149 [(0, .ref 0 0 0), (3, .d ((eL 3 eApiValue) p2)), (4, .d ((eL 3 eApiValue) p3)), (6, .ref 4 0 0), (7, .ref 5 0 0), (10, .ref 6 0 0), (11, .ref 7 0 0), (12, .d (eS y.1))], [.box (.agg [.slc 1 9 0 p4.length none, .slc 2 5 0 p5.length none, .slc 3 4 0 p6.length none]), .row 9 (List.map eGranaryref14Op p4) true, .row 5 (List.map eApiLock p5) true, .row 4 (List.map eGranaryref19Probe p6) true, .box (.d (eApiTable p0)), .box (.d (eApiIndex p1)), .box (.d (eApiPair y.2)), .box (.d (eApiPair (ApiPair.mk ([] : List UInt8) ([] : List UInt8))))]⟩) ?_ ?_)))))))
  · intro u1_56 h1
    refine sr (s1 (mv rfl) (s1 (len rfl rfl rfl (len_lst un28)) (s1 (bi rfl rfl q_i64_gtr) (sn (cB h1 rfl (fun h1 => ?_) (fun h1 => ?_))))))
    · obtain ⟨r57, hq58, h1⟩ := ob h1; obtain ⟨⟨r59, r60⟩, hq61, h1⟩ := ob h1; have q := si h1; subst q
      refine sr (s1 (lod (v := .d (eApiTable p0)) rfl (ld_box ts26 ta26 rfl rfl)) (s1 (lod (v := .d (eApiIndex p1)) rfl (ld_box ts82 ta82 rfl rfl)) (s1 (mv rfl) (ca [] (ref17_Entry_ok p0 p1 p2 _ hq58) wf rfl rfl rfl cb74 rfl rfl rfl rfl rfl rfl (s0 (sto rfl rfl (sB (d' := .d (eApiPair r57)) ts145 rfl rfl rfl rfl rfl rfl rfl)) (sn (SC.region (s1 (lod (v := .d (eApiIndex p1)) rfl (ld_box ts82 ta82 rfl rfl)) (s1 (mv rfl) ?_)))))))))
      exact c0 (ref17_Front_ok p1 p2 _ hq61) wf rfl rfl rfl cb75 rfl (fun _ => rfl) (fun _ => rfl) (s1 (mv rfl) (s1 (ext rfl rfl) (s1 (ext rfl rfl) (s1 (asg rfl) (SO.nil ((wc [0, 1, 2, 3, 4, 5, 6, 7] [0, 1, 2, 3, 0, 4, 5, 6, 7] (by kernel_rfl) rfl (by kernel_rfl))))))))
    · have q := si h1; subst q
      exact SC.skip ((wq rfl))
  · rintro ⟨y54, y55⟩ h0
    refine SC.seqP h0 (fun y => ⟨mk 149 [(0, .ref 0 0 0), (3, .d ((eL 3 eApiValue) p2)), (4, .d ((eL 3 eApiValue) p3)), (7, .ref 4 0 0), (10, .ref 5 0 0), (11, .ref 6 0 0), (12, .d (eS y54))], [.box (.agg [.slc 1 9 0 p4.length none, .slc 2 5 0 p5.length none, .slc 3 4 0 p6.length none]), .row 9 (List.map eGranaryref14Op p4) true, .row 5 (List.map eApiLock p5) true, .row 4 (List.map eGranaryref19Probe p6) true, .box (.d (eApiIndex p1)), .box (.d (eApiPair y55)), .box (.d (eApiPair y))]⟩) ?_ ?_
    · intro u1_65 h1
      refine sr (s1 (mv rfl) (s1 (len rfl rfl rfl (len_lst un28)) (s1 (bi rfl rfl q_i64_gtr) (sn (cB h1 rfl (fun h1 => ?_) (fun h1 => ?_))))))
      · obtain ⟨r66, hq67, h1⟩ := ob h1; have q := si h1; subst q
        exact SC.region (s1 (lod (v := .d (eApiTable p0)) rfl (ld_box ts26 ta26 rfl rfl)) (s1 (lod (v := .d (eApiIndex p1)) rfl (ld_box ts82 ta82 rfl rfl)) (s1 (mv rfl) (ca [] (ref17_Entry_ok p0 p1 p3 _ hq67) wf rfl rfl rfl cb74 rfl rfl rfl rfl rfl rfl (s0 (sto rfl rfl (sB (d' := .d (eApiPair r66)) ts145 rfl rfl rfl rfl rfl rfl rfl)) (SO.nil ((wc [0, 1, 2, 3, 5, 6, 7] [0, 1, 2, 3, 0, 5, 6, 7] (by kernel_rfl) rfl (by kernel_rfl)))))))))
      · have q := si h1; subst q
        exact SC.skip ((wc [0, 1, 2, 3, 5, 6, 7] [0, 1, 2, 3, 0, 5, 6, 7] (by kernel_rfl) rfl (by kernel_rfl)))
    · rintro y64 h0
      refine sq (SC.seqP h0 (fun y => ⟨mk 149 [(0, .ref 0 0 0), (3, .d ((eL 3 eApiValue) p2)), (4, .d ((eL 3 eApiValue) p3)), (7, .ref 4 0 0), (10, .ref 5 0 0), (11, .ref 6 0 0), (12, .d (eS y54)), (49, .d (eB y))], [.box (.agg [.slc 1 9 0 p4.length none, .slc 2 5 0 p5.length none, .slc 3 4 0 p6.length none]), .row 9 (List.map eGranaryref14Op p4) true, .row 5 (List.map eApiLock p5) true, .row 4 (List.map eGranaryref19Probe p6) true, .box (.d (eApiIndex p1)), .box (.d (eApiPair y55)), .box (.d (eApiPair y64))]⟩) ?_ ?_)
      · intro u1_69 h1
        refine SC.region (s1 (mv rfl) (s1 (len rfl rfl rfl (len_lst un28)) (s1 (bi rfl rfl q_i64_gtr) (s1 (mv rfl) (sp h1 (fun h1 => ?_) (fun h1 => ?_))))))
        · refine g1 (wb rfl rfl rfl) (mv rfl) (g1 (wb rfl rfl rfl) (len rfl rfl rfl (len_lst un28)) (g1 (wb rfl rfl rfl) (bi rfl rfl q_i64_gtr) (s1 (pkt rfl rfl) (s1 (mv rfl) (sp h1 (fun h1 => ?_) (fun h1 => ?_))))))
          · have q := si h1; subst q
            exact g1 (wb rfl rfl rfl) (lod (v := .d (eApiPair y55)) rfl (ld_box ts145 ta145 rfl rfl)) (g1 (wb rfl rfl rfl) (lod (v := .d (eApiPair y64)) rfl (ld_box ts145 ta145 rfl rfl)) (g1 (wb rfl rfl rfl) (bi (v := .d (eB (eqApiPair y55 y64))) rfl rfl (fun X Y => eqApiPair_eql_145 X Y y55 y64)) (s1 (pkt rfl rfl) (SO.nil ((wq rfl))))))
          · have q := si h1; subst q
            exact k1 (wb rfl rfl rfl) (k1 (wb rfl rfl rfl) (k1 (wb rfl rfl rfl) (s1 (pkf rfl rfl) (SO.nil ((wq rfl))))))
        · have q := si h1; subst q
          refine k1 (wb rfl rfl rfl) (k1 (wb rfl rfl rfl) (k1 (wb rfl rfl rfl) (s1 (pkf rfl rfl) (s1 (mv rfl) (k1 (wb rfl rfl rfl) (k1 (wb rfl rfl rfl) (k1 (wb rfl rfl rfl) (s1 (pkf rfl rfl) (SO.nil ?_)))))))))
          exact (wq rfl)
      · rintro y68 h0
        refine cB h0 rfl (fun h0 => ?_) (fun h0 => ?_)
        · have q := si h0; subst q
          exact SC.ret (finR (Wk.trans (wq (e' := []) rfl) (Wk.trans (Wk.move (e' := []) (os := [.box (.agg [.slc 7 9 0 p4.length none, .slc 2 5 0 p5.length none, .slc 3 4 0 p6.length none]), .row 9 (List.map eGranaryref14Op p4) true, .row 5 (List.map eApiLock p5) true, .row 4 (List.map eGranaryref19Probe p6) true, .box (.d (eApiIndex p1)), .box (.d (eApiPair y55)), .box (.d (eApiPair y64))]) (o := .row 9 (List.map eGranaryref14Op p4) true) (σ' := [.box (.agg [.slc 7 9 0 p4.length none, .slc 2 5 0 p5.length none, .slc 3 4 0 p6.length none]), .dead, .row 5 (List.map eApiLock p5) true, .row 4 (List.map eGranaryref19Probe p6) true, .box (.d (eApiIndex p1)), .box (.d (eApiPair y55)), .box (.d (eApiPair y64)), .row 9 (List.map eGranaryref14Op p4) true]) 1 (Nat.le_of_ble_eq_true rfl) rfl rfl rfl rfl) (Wk.trans (Wk.move (e' := []) (os := [.box (.agg [.slc 7 9 0 p4.length none, .slc 8 5 0 p5.length none, .slc 3 4 0 p6.length none]), .dead, .row 5 (List.map eApiLock p5) true, .row 4 (List.map eGranaryref19Probe p6) true, .box (.d (eApiIndex p1)), .box (.d (eApiPair y55)), .box (.d (eApiPair y64)), .row 9 (List.map eGranaryref14Op p4) true]) (o := .row 5 (List.map eApiLock p5) true) (σ' := [.box (.agg [.slc 7 9 0 p4.length none, .slc 8 5 0 p5.length none, .slc 3 4 0 p6.length none]), .dead, .dead, .row 4 (List.map eGranaryref19Probe p6) true, .box (.d (eApiIndex p1)), .box (.d (eApiPair y55)), .box (.d (eApiPair y64)), .row 9 (List.map eGranaryref14Op p4) true, .row 5 (List.map eApiLock p5) true]) 2 (Nat.le_of_ble_eq_true rfl) rfl rfl rfl rfl) (Wk.trans (Wk.move (e' := []) (os := [.box (.agg [.slc 7 9 0 p4.length none, .slc 8 5 0 p5.length none, .slc 9 4 0 p6.length none]), .dead, .dead, .row 4 (List.map eGranaryref19Probe p6) true, .box (.d (eApiIndex p1)), .box (.d (eApiPair y55)), .box (.d (eApiPair y64)), .row 9 (List.map eGranaryref14Op p4) true, .row 5 (List.map eApiLock p5) true]) (o := .row 4 (List.map eGranaryref19Probe p6) true) (σ' := [.box (.agg [.slc 7 9 0 p4.length none, .slc 8 5 0 p5.length none, .slc 9 4 0 p6.length none]), .dead, .dead, .dead, .box (.d (eApiIndex p1)), .box (.d (eApiPair y55)), .box (.d (eApiPair y64)), .row 9 (List.map eGranaryref14Op p4) true, .row 5 (List.map eApiLock p5) true, .row 4 (List.map eGranaryref19Probe p6) true]) 3 (Nat.le_of_ble_eq_true rfl) rfl rfl rfl rfl) (wc (e' := []) [0, 1, 2, 3, 7, 8, 9] [0, 1, 2, 3] (by kernel_rfl) rfl (by kernel_rfl)))))) lresN rfl)
        · refine sk (SC.seqP h0 (fun y => ⟨mk 149 [(0, .ref 0 0 0), (3, .d ((eL 3 eApiValue) p2)), (4, .d ((eL 3 eApiValue) p3)), (7, .ref 4 0 0), (11, .ref 5 0 0), (12, .d (eS y54))], [.box (.agg [.slc 6 9 0 y.1.length none, .slc 7 5 0 y.2.length none, .slc 3 4 0 p6.length none]), .dead, .dead, .row 4 (List.map eGranaryref19Probe p6) true, .box (.d (eApiIndex p1)), .box (.d (eApiPair y64)), .row 9 (List.map eGranaryref14Op y.1) true, .row 5 (List.map eApiLock y.2) true]⟩) ?_ ?_)
          · intro u1_76 h1
            refine SC.seqP h1 (fun y => ⟨mk 149 [(0, .ref 0 0 0), (3, .d ((eL 3 eApiValue) p2)), (4, .d ((eL 3 eApiValue) p3)), (7, .ref 4 0 0), (10, .ref 5 0 0), (11, .ref 6 0 0), (12, .d (eS y54)), (64, .d (eB y))], [.box (.agg [.slc 1 9 0 p4.length none, .slc 2 5 0 p5.length none, .slc 3 4 0 p6.length none]), .row 9 (List.map eGranaryref14Op p4) true, .row 5 (List.map eApiLock p5) true, .row 4 (List.map eGranaryref19Probe p6) true, .box (.d (eApiIndex p1)), .box (.d (eApiPair y55)), .box (.d (eApiPair y64))]⟩) ?_ ?_
            · intro u2_78 h2
              refine SC.region (s1 (mv rfl) (s1 (len rfl rfl rfl (len_lst un28)) (s1 (bi rfl rfl q_i64_gtr) (s1 (mv rfl) (sp h2 (fun h2 => ?_) (fun h2 => ?_))))))
              · refine g1 (wb rfl rfl rfl) (mv rfl) (g1 (wb rfl rfl rfl) (len rfl rfl rfl (len_lst un28)) (g1 (wb rfl rfl rfl) (bi rfl rfl q_i64_eql) (g1 (wb rfl rfl rfl) (mv rfl) (sp h2 (fun h2 => ?_) (fun h2 => ?_)))))
                · have q := si h2; subst q
                  exact k1 (wb rfl rfl rfl) (k1 (wb rfl rfl rfl) (k1 (wb rfl rfl rfl) (k1 (wb rfl rfl rfl) (k1 (wb rfl rfl rfl) (g1 (wb rfl rfl rfl) (pkt rfl rfl) (s1 (pkt rfl rfl) (SO.nil ((wq rfl)))))))))
                · have q := si h2; subst q
                  exact g1 (wb rfl rfl rfl) (far (k := 0) rfl fo145_0 ts9 rfl) (g1 (wb rfl rfl rfl) (lod rfl (ld_box ts9 ta9 rfl rfl)) (g1 (wb rfl rfl rfl) (far (k := 0) rfl fo145_0 ts9 rfl) (g1 (wb rfl rfl rfl) (lod rfl (ld_box ts9 ta9 rfl rfl)) (g1 (wb rfl rfl rfl) (bi rfl rfl q_str_neq) (g1 (wb rfl rfl rfl) (pkf rfl rfl) (s1 (pkt rfl rfl) (SO.nil ((wq rfl)))))))))
              · have q := si h2; subst q
                refine k1 (wb rfl rfl rfl) (k1 (wb rfl rfl rfl) (k1 (wb rfl rfl rfl) (k1 (wb rfl rfl rfl) (k1 (wo rfl rfl) (k1 (wo rfl rfl) (k1 (wo rfl rfl) (k1 (wo rfl rfl) (k1 (wo rfl rfl) (k1 (wb rfl rfl rfl) ?_)))))))))
                exact s1 (pkf rfl rfl) (SO.nil ((wq rfl)))
            · rintro y77 h1
              refine cB h1 rfl (fun h1 => ?_) (fun h1 => ?_)
              · obtain ⟨_, hq79, h1⟩ := ob h1
                refine sr (s1 (mv rfl) (s1 (far (k := 5) rfl fo82_5 ts3 rfl) (s1 (lod rfl (ld_box ts3 ta3 rfl rfl)) (s1 (far (k := 0) rfl fo145_0 ts9 rfl) (s1 (lod rfl (ld_box ts9 ta9 rfl rfl)) (ca (σ' := [.box (.agg [.slc 7 9 0 ((p4 ++ [(Granaryref14Op.mk (1 : Int) p1.Tree (ApiMsg.mk (0 : UInt64) (2 : Int) y55.Key (0 : UInt64) ([] : List UInt8) (0 : Int) (0 : UInt64)))]).length) none, .slc 2 5 0 p5.length none, .slc 3 4 0 p6.length none]), .dead, .row 5 (List.map eApiLock p5) true, .row 4 (List.map eGranaryref19Probe p6) true, .box (.d (eApiIndex p1)), .box (.d (eApiPair y55)), .box (.d (eApiPair y64)), .row 9 (List.map eGranaryref14Op (p4 ++ [(Granaryref14Op.mk (1 : Int) p1.Tree (ApiMsg.mk (0 : UInt64) (2 : Int) y55.Key (0 : UInt64) ([] : List UInt8) (0 : Int) (0 : UInt64)))])) true]) [0, 1, 2, 3] (ref19_Work_op_2_ok p1.Tree (2 : Int) y55.Key ([] : List UInt8) p4 p5 p6 _ hq79) wf rfl rfl rfl cb40 rfl rfl rfl rfl rfl rfl (sn (sr (s1 (far (k := 4) rfl fo82_4 ts4 rfl) ?_)))))))))
                refine s1 (lod rfl (ld_box ts4 ta4 rfl rfl)) (sn (cB h1 rfl (fun h1 => ?_) (fun h1 => ?_)))
                · obtain ⟨_, hq80, h1⟩ := ob h1; have q := si h1; subst q
                  exact SC.region (s1 (mv rfl) (s1 (far (k := 5) rfl fo82_5 ts3 rfl) (s1 (lod rfl (ld_box ts3 ta3 rfl rfl)) (s1 (far (k := 0) rfl fo145_0 ts9 rfl) (s1 (lod rfl (ld_box ts9 ta9 rfl rfl)) (ca (σ' := [.box (.agg [.slc 7 9 0 ((p4 ++ [(Granaryref14Op.mk (1 : Int) p1.Tree (ApiMsg.mk (0 : UInt64) (2 : Int) y55.Key (0 : UInt64) ([] : List UInt8) (0 : Int) (0 : UInt64)))]).length) none, .slc 8 5 0 ((p5 ++ [(ApiLock.mk p1.Tree (ApiSpan.mk y55.Key (y55.Key ++ ([0] : List UInt8)) false) true)]).length) none, .slc 3 4 0 p6.length none]), .dead, .dead, .row 4 (List.map eGranaryref19Probe p6) true, .box (.d (eApiIndex p1)), .box (.d (eApiPair y55)), .box (.d (eApiPair y64)), .row 9 (List.map eGranaryref14Op (p4 ++ [(Granaryref14Op.mk (1 : Int) p1.Tree (ApiMsg.mk (0 : UInt64) (2 : Int) y55.Key (0 : UInt64) ([] : List UInt8) (0 : Int) (0 : UInt64)))])) true, .row 5 (List.map eApiLock (p5 ++ [(ApiLock.mk p1.Tree (ApiSpan.mk y55.Key (y55.Key ++ ([0] : List UInt8)) false) true)])) true]) [0, 7, 2, 3] (ref19_Work_own_2_ok p1.Tree y55.Key (p4 ++ [(Granaryref14Op.mk (1 : Int) p1.Tree (ApiMsg.mk (0 : UInt64) (2 : Int) y55.Key (0 : UInt64) ([] : List UInt8) (0 : Int) (0 : UInt64)))]) p5 p6 _ hq80) wf rfl rfl rfl cb38 rfl rfl rfl rfl rfl rfl (SO.nil ((Wk.trans (wq (e' := [(0, .ref 0 0 0), (3, .d ((eL 3 eApiValue) p2)), (4, .d ((eL 3 eApiValue) p3)), (7, .ref 4 0 0), (11, .ref 6 0 0), (12, .d (eS y54))]) rfl) (wc [0, 1, 2, 3, 4, 6, 7, 8] [0, 1, 2, 3, 0, 4, 6] (by kernel_rfl) rfl (by kernel_rfl)))))))))))
                · have q := si h1; subst q
                  exact SC.skip ((Wk.trans (wq (e' := [(0, .ref 0 0 0), (3, .d ((eL 3 eApiValue) p2)), (4, .d ((eL 3 eApiValue) p3)), (7, .ref 4 0 0), (11, .ref 6 0 0), (12, .d (eS y54))]) rfl) (Wk.trans (Wk.move (e' := [(0, .ref 0 0 0), (3, .d ((eL 3 eApiValue) p2)), (4, .d ((eL 3 eApiValue) p3)), (7, .ref 4 0 0), (11, .ref 6 0 0), (12, .d (eS y54))]) (os := [.box (.agg [.slc 7 9 0 ((p4 ++ [(Granaryref14Op.mk (1 : Int) p1.Tree (ApiMsg.mk (0 : UInt64) (2 : Int) y55.Key (0 : UInt64) ([] : List UInt8) (0 : Int) (0 : UInt64)))]).length) none, .slc 8 5 0 p5.length none, .slc 3 4 0 p6.length none]), .dead, .row 5 (List.map eApiLock p5) true, .row 4 (List.map eGranaryref19Probe p6) true, .box (.d (eApiIndex p1)), .box (.d (eApiPair y55)), .box (.d (eApiPair y64)), .row 9 (List.map eGranaryref14Op (p4 ++ [(Granaryref14Op.mk (1 : Int) p1.Tree (ApiMsg.mk (0 : UInt64) (2 : Int) y55.Key (0 : UInt64) ([] : List UInt8) (0 : Int) (0 : UInt64)))])) true]) (o := .row 5 (List.map eApiLock p5) true) (σ' := [.box (.agg [.slc 7 9 0 ((p4 ++ [(Granaryref14Op.mk (1 : Int) p1.Tree (ApiMsg.mk (0 : UInt64) (2 : Int) y55.Key (0 : UInt64) ([] : List UInt8) (0 : Int) (0 : UInt64)))]).length) none, .slc 8 5 0 p5.length none, .slc 3 4 0 p6.length none]), .dead, .dead, .row 4 (List.map eGranaryref19Probe p6) true, .box (.d (eApiIndex p1)), .box (.d (eApiPair y55)), .box (.d (eApiPair y64)), .row 9 (List.map eGranaryref14Op (p4 ++ [(Granaryref14Op.mk (1 : Int) p1.Tree (ApiMsg.mk (0 : UInt64) (2 : Int) y55.Key (0 : UInt64) ([] : List UInt8) (0 : Int) (0 : UInt64)))])) true, .row 5 (List.map eApiLock p5) true]) 2 (Nat.le_of_ble_eq_true rfl) rfl rfl rfl rfl) (wc [0, 1, 2, 3, 4, 6, 7, 8] [0, 1, 2, 3, 0, 4, 6] (by kernel_rfl) rfl (by kernel_rfl)))))
              · have q := si h1; subst q
                exact SC.skip ((Wk.trans (wq (e' := [(0, .ref 0 0 0), (3, .d ((eL 3 eApiValue) p2)), (4, .d ((eL 3 eApiValue) p3)), (7, .ref 4 0 0), (11, .ref 6 0 0), (12, .d (eS y54))]) rfl) (Wk.trans (Wk.move (e' := [(0, .ref 0 0 0), (3, .d ((eL 3 eApiValue) p2)), (4, .d ((eL 3 eApiValue) p3)), (7, .ref 4 0 0), (11, .ref 6 0 0), (12, .d (eS y54))]) (os := [.box (.agg [.slc 7 9 0 p4.length none, .slc 2 5 0 p5.length none, .slc 3 4 0 p6.length none]), .row 9 (List.map eGranaryref14Op p4) true, .row 5 (List.map eApiLock p5) true, .row 4 (List.map eGranaryref19Probe p6) true, .box (.d (eApiIndex p1)), .box (.d (eApiPair y55)), .box (.d (eApiPair y64))]) (o := .row 9 (List.map eGranaryref14Op p4) true) (σ' := [.box (.agg [.slc 7 9 0 p4.length none, .slc 2 5 0 p5.length none, .slc 3 4 0 p6.length none]), .dead, .row 5 (List.map eApiLock p5) true, .row 4 (List.map eGranaryref19Probe p6) true, .box (.d (eApiIndex p1)), .box (.d (eApiPair y55)), .box (.d (eApiPair y64)), .row 9 (List.map eGranaryref14Op p4) true]) 1 (Nat.le_of_ble_eq_true rfl) rfl rfl rfl rfl) (Wk.trans (Wk.move (e' := [(0, .ref 0 0 0), (3, .d ((eL 3 eApiValue) p2)), (4, .d ((eL 3 eApiValue) p3)), (7, .ref 4 0 0), (11, .ref 6 0 0), (12, .d (eS y54))]) (os := [.box (.agg [.slc 7 9 0 p4.length none, .slc 8 5 0 p5.length none, .slc 3 4 0 p6.length none]), .dead, .row 5 (List.map eApiLock p5) true, .row 4 (List.map eGranaryref19Probe p6) true, .box (.d (eApiIndex p1)), .box (.d (eApiPair y55)), .box (.d (eApiPair y64)), .row 9 (List.map eGranaryref14Op p4) true]) (o := .row 5 (List.map eApiLock p5) true) (σ' := [.box (.agg [.slc 7 9 0 p4.length none, .slc 8 5 0 p5.length none, .slc 3 4 0 p6.length none]), .dead, .dead, .row 4 (List.map eGranaryref19Probe p6) true, .box (.d (eApiIndex p1)), .box (.d (eApiPair y55)), .box (.d (eApiPair y64)), .row 9 (List.map eGranaryref14Op p4) true, .row 5 (List.map eApiLock p5) true]) 2 (Nat.le_of_ble_eq_true rfl) rfl rfl rfl rfl) (wc [0, 1, 2, 3, 4, 6, 7, 8] [0, 1, 2, 3, 0, 4, 6] (by kernel_rfl) rfl (by kernel_rfl))))))
          · rintro ⟨y74, y75⟩ h0
            refine sq (sr (s1 (mv rfl) (s1 (len rfl rfl rfl (len_lst un28)) (s1 (bi rfl rfl q_i64_eql) (sn (cB h0 rfl (fun h0 => ?_) (fun h0 => ?_)))))))
            · have q := si h0; subst q
              exact SC.ret (finR (Wk.trans (wq (e' := []) rfl) (Wk.trans (Wk.move (e' := []) (os := [.box (.agg [.slc 6 9 0 y74.length none, .slc 7 5 0 y75.length none, .slc 8 4 0 p6.length none]), .dead, .dead, .row 4 (List.map eGranaryref19Probe p6) true, .box (.d (eApiIndex p1)), .box (.d (eApiPair y64)), .row 9 (List.map eGranaryref14Op y74) true, .row 5 (List.map eApiLock y75) true]) (o := .row 4 (List.map eGranaryref19Probe p6) true) (σ' := [.box (.agg [.slc 6 9 0 y74.length none, .slc 7 5 0 y75.length none, .slc 8 4 0 p6.length none]), .dead, .dead, .dead, .box (.d (eApiIndex p1)), .box (.d (eApiPair y64)), .row 9 (List.map eGranaryref14Op y74) true, .row 5 (List.map eApiLock y75) true, .row 4 (List.map eGranaryref19Probe p6) true]) 3 (Nat.le_of_ble_eq_true rfl) rfl rfl rfl rfl) (wc (e' := []) [0, 1, 2, 3, 6, 7, 8] [0, 1, 2, 3] (by kernel_rfl) rfl (by kernel_rfl)))) lresN rfl)
            · obtain ⟨_, hq81, h0⟩ := ob h0
              refine sk (sr (s1 (mv rfl) (s1 (far (k := 5) rfl fo82_5 ts3 rfl) (s1 (lod rfl (ld_box ts3 ta3 rfl rfl)) (s1 (far (k := 0) rfl fo145_0 ts9 rfl) (s1 (lod rfl (ld_box ts9 ta9 rfl rfl)) (s1 (far (k := 1) rfl fo145_1 ts9 rfl) (s1 (lod rfl (ld_box ts9 ta9 rfl rfl)) (ca (σ' := [.box (.agg [.slc 8 9 0 ((y74 ++ [(Granaryref14Op.mk (1 : Int) p1.Tree (ApiMsg.mk (0 : UInt64) (1 : Int) y64.Key (0 : UInt64) y64.Val (0 : Int) (0 : UInt64)))]).length) none, .slc 7 5 0 y75.length none, .slc 3 4 0 p6.length none]), .dead, .dead, .row 4 (List.map eGranaryref19Probe p6) true, .box (.d (eApiIndex p1)), .box (.d (eApiPair y64)), .dead, .row 5 (List.map eApiLock y75) true, .row 9 (List.map eGranaryref14Op (y74 ++ [(Granaryref14Op.mk (1 : Int) p1.Tree (ApiMsg.mk (0 : UInt64) (1 : Int) y64.Key (0 : UInt64) y64.Val (0 : Int) (0 : UInt64)))])) true]) [0, 6, 7, 3] (ref19_Work_op_2_ok p1.Tree (1 : Int) y64.Key y64.Val y74 y75 p6 _ hq81) wf rfl rfl rfl cb40 rfl rfl rfl rfl rfl rfl ?_)))))))))
              refine sn (sq (sr (s1 (far (k := 4) rfl fo82_4 ts4 rfl) (s1 (lod rfl (ld_box ts4 ta4 rfl rfl)) (s1 (nt rfl) (sn (cB h0 rfl (fun h0 => ?_) (fun h0 => ?_))))))))
              · have q := si h0; subst q
                exact SC.ret (finR (Wk.trans (wq (e' := []) rfl) (Wk.trans (Wk.move (e' := []) (os := [.box (.agg [.slc 8 9 0 ((y74 ++ [(Granaryref14Op.mk (1 : Int) p1.Tree (ApiMsg.mk (0 : UInt64) (1 : Int) y64.Key (0 : UInt64) y64.Val (0 : Int) (0 : UInt64)))]).length) none, .slc 7 5 0 y75.length none, .slc 9 4 0 p6.length none]), .dead, .dead, .row 4 (List.map eGranaryref19Probe p6) true, .box (.d (eApiIndex p1)), .box (.d (eApiPair y64)), .dead, .row 5 (List.map eApiLock y75) true, .row 9 (List.map eGranaryref14Op (y74 ++ [(Granaryref14Op.mk (1 : Int) p1.Tree (ApiMsg.mk (0 : UInt64) (1 : Int) y64.Key (0 : UInt64) y64.Val (0 : Int) (0 : UInt64)))])) true]) (o := .row 4 (List.map eGranaryref19Probe p6) true) (σ' := [.box (.agg [.slc 8 9 0 ((y74 ++ [(Granaryref14Op.mk (1 : Int) p1.Tree (ApiMsg.mk (0 : UInt64) (1 : Int) y64.Key (0 : UInt64) y64.Val (0 : Int) (0 : UInt64)))]).length) none, .slc 7 5 0 y75.length none, .slc 9 4 0 p6.length none]), .dead, .dead, .dead, .box (.d (eApiIndex p1)), .box (.d (eApiPair y64)), .dead, .row 5 (List.map eApiLock y75) true, .row 9 (List.map eGranaryref14Op (y74 ++ [(Granaryref14Op.mk (1 : Int) p1.Tree (ApiMsg.mk (0 : UInt64) (1 : Int) y64.Key (0 : UInt64) y64.Val (0 : Int) (0 : UInt64)))])) true, .row 4 (List.map eGranaryref19Probe p6) true]) 3 (Nat.le_of_ble_eq_true rfl) rfl rfl rfl rfl) (wc (e' := []) [0, 1, 2, 3, 8, 7, 9] [0, 1, 2, 3] (by kernel_rfl) rfl (by kernel_rfl)))) lresN rfl)
              · obtain ⟨_, hq82, h0⟩ := ob h0; obtain ⟨⟨r83, r84⟩, hq85, h0⟩ := ob h0
                refine sk (sr (s1 (mv rfl) (s1 (far (k := 5) rfl fo82_5 ts3 rfl) (s1 (lod rfl (ld_box ts3 ta3 rfl rfl)) (s1 (far (k := 0) rfl fo145_0 ts9 rfl) (s1 (lod rfl (ld_box ts9 ta9 rfl rfl)) (ca (σ' := [.box (.agg [.slc 8 9 0 ((y74 ++ [(Granaryref14Op.mk (1 : Int) p1.Tree (ApiMsg.mk (0 : UInt64) (1 : Int) y64.Key (0 : UInt64) y64.Val (0 : Int) (0 : UInt64)))]).length) none, .slc 9 5 0 ((y75 ++ [(ApiLock.mk p1.Tree (ApiSpan.mk y64.Key (y64.Key ++ ([0] : List UInt8)) false) true)]).length) none, .slc 3 4 0 p6.length none]), .dead, .dead, .row 4 (List.map eGranaryref19Probe p6) true, .box (.d (eApiIndex p1)), .box (.d (eApiPair y64)), .dead, .dead, .row 9 (List.map eGranaryref14Op (y74 ++ [(Granaryref14Op.mk (1 : Int) p1.Tree (ApiMsg.mk (0 : UInt64) (1 : Int) y64.Key (0 : UInt64) y64.Val (0 : Int) (0 : UInt64)))])) true, .row 5 (List.map eApiLock (y75 ++ [(ApiLock.mk p1.Tree (ApiSpan.mk y64.Key (y64.Key ++ ([0] : List UInt8)) false) true)])) true]) [0, 8, 7, 3] (ref19_Work_own_2_ok p1.Tree y64.Key (y74 ++ [(Granaryref14Op.mk (1 : Int) p1.Tree (ApiMsg.mk (0 : UInt64) (1 : Int) y64.Key (0 : UInt64) y64.Val (0 : Int) (0 : UInt64)))]) y75 p6 _ hq82) wf rfl rfl rfl cb38 rfl rfl rfl rfl rfl rfl (sn (sr ?_)))))))))
                refine s1 (lod (v := .d (eApiIndex p1)) rfl (ld_box ts82 ta82 rfl rfl)) (s1 (mv rfl) (c0 (ref17_Front_ok p1 p3 _ hq85) wf rfl rfl rfl cb75 rfl (fun _ => rfl) (fun _ => rfl) (s1 (mv rfl) (s1 (ext rfl rfl) (s1 (ext rfl rfl) (s1 (asg rfl) (s1 (asg rfl) (sn (SC.seqP h0 (fun y => ⟨mk 149 [(0, .ref 0 0 0), (7, .ref 4 0 0), (13, .d (eS r83)), (120, .d (eB y))], [.box (.agg [.slc 5 9 0 ((y74 ++ [(Granaryref14Op.mk (1 : Int) p1.Tree (ApiMsg.mk (0 : UInt64) (1 : Int) y64.Key (0 : UInt64) y64.Val (0 : Int) (0 : UInt64)))]).length) none, .slc 6 5 0 ((y75 ++ [(ApiLock.mk p1.Tree (ApiSpan.mk y64.Key (y64.Key ++ ([0] : List UInt8)) false) true)]).length) none, .slc 3 4 0 p6.length none]), .dead, .dead, .row 4 (List.map eGranaryref19Probe p6) true, .box (.d (eApiIndex p1)), .row 9 (List.map eGranaryref14Op (y74 ++ [(Granaryref14Op.mk (1 : Int) p1.Tree (ApiMsg.mk (0 : UInt64) (1 : Int) y64.Key (0 : UInt64) y64.Val (0 : Int) (0 : UInt64)))])) true, .row 5 (List.map eApiLock (y75 ++ [(ApiLock.mk p1.Tree (ApiSpan.mk y64.Key (y64.Key ++ ([0] : List UInt8)) false) true)])) true]⟩) ?_ ?_)))))))))
                · intro u1_87 h1
                  refine SC.region (s1 (far (k := 3) rfl fo82_3 ts4 rfl) (s1 (lod rfl (ld_box ts4 ta4 rfl rfl)) (s1 (mv rfl) (sp h1 (fun h1 => ?_) (fun h1 => ?_)))))
                  · refine g1 (wb rfl rfl rfl) (mv rfl) (g1 (wb rfl rfl rfl) (nt rfl) (s1 (pkt rfl rfl) (s1 (mv rfl) (sp h1 (fun h1 => ?_) (fun h1 => ?_)))))
                    · refine g1 (wb rfl rfl rfl) (mv rfl) (g1 (wb rfl rfl rfl) (len rfl rfl rfl (len_lst un28)) (g1 (wb rfl rfl rfl) (bi rfl rfl q_i64_eql) (g1 (wb rfl rfl rfl) (mv rfl) (sp h1 (fun h1 => ?_) (fun h1 => ?_)))))
                      · have q := si h1; subst q
                        exact k1 (wb rfl rfl rfl) (k1 (wb rfl rfl rfl) (k1 (wb rfl rfl rfl) (g1 (wb rfl rfl rfl) (pkt rfl rfl) (s1 (pkt rfl rfl) (SO.nil ((wc [0, 1, 2, 3, 4, 8, 9] [0, 1, 2, 3, 0, 4] (by kernel_rfl) rfl (by kernel_rfl))))))))
                      · have q := si h1; subst q
                        exact g1 (wb rfl rfl rfl) (mv rfl) (g1 (wb rfl rfl rfl) (mv rfl) (g1 (wb rfl rfl rfl) (bi rfl rfl q_str_neq) (g1 (wb rfl rfl rfl) (pkf rfl rfl) (s1 (pkt rfl rfl) (SO.nil ((wc [0, 1, 2, 3, 4, 8, 9] [0, 1, 2, 3, 0, 4] (by kernel_rfl) rfl (by kernel_rfl))))))))
                    · have q := si h1; subst q
                      refine k1 (wb rfl rfl rfl) (k1 (wb rfl rfl rfl) (k1 (wb rfl rfl rfl) (k1 (wb rfl rfl rfl) (k1 (wo rfl rfl) (k1 (wo rfl rfl) (k1 (wo rfl rfl) (k1 (wb rfl rfl rfl) (s1 (pkf rfl rfl) (SO.nil ?_)))))))))
                      exact (wc [0, 1, 2, 3, 4, 8, 9] [0, 1, 2, 3, 0, 4] (by kernel_rfl) rfl (by kernel_rfl))
                  · have q := si h1; subst q
                    refine k1 (wb rfl rfl rfl) (k1 (wb rfl rfl rfl) (s1 (pkf rfl rfl) (s1 (mv rfl) (k1 (wb rfl rfl rfl) (k1 (wb rfl rfl rfl) (k1 (wb rfl rfl rfl) (k1 (wb rfl rfl rfl) (k1 (wo rfl rfl) (k1 (wo rfl rfl) ?_)))))))))
                    exact k1 (wo rfl rfl) (k1 (wb rfl rfl rfl) (s1 (pkf rfl rfl) (SO.nil ((wc [0, 1, 2, 3, 4, 8, 9] [0, 1, 2, 3, 0, 4] (by kernel_rfl) rfl (by kernel_rfl))))))
                · rintro y86 h0
                  refine cB h0 rfl (fun h0 => ?_) (fun h0 => ?_)
                  · obtain ⟨r88, hq89, h0⟩ := ob h0; obtain ⟨hg90, h0⟩ := gd h0; obtain ⟨r91, hq92, h0⟩ := ob h0; obtain ⟨hg93, h0⟩ := gd h0; have q := si h0; subst q
                    refine sd (by kernel_rfl) (t1 ([], false) (mv rfl) rfl (t1 ([], false) (mv rfl) rfl (t1 ([], false) (nkr rfl) rfl (t1 ([], false) (far (k := 1) rfl fo46_1 ts37 rfl) rfl (t1 ([0], false) (lod rfl (ld_box ts37 ta37 rfl rfl)) rfl (t1 ([], false) (far (k := 5) rfl fo82_5 ts3 rfl) rfl (t1 ([4], false) (lod rfl (ld_box ts3 ta3 rfl rfl)) rfl (t1 ([], false) (mv rfl) rfl (ta' [] ([7], true) (ref07_Under_ok r83 _ hq89) wf rfl rfl rfl cb76 rfl rfl rfl rfl rfl rfl rfl ?_)))))))))
                    refine t1 ([], false) (bld rfl (bd137_0_1 p1.Tree r88)) rfl (t1 ([8], true) (bsn (k := 8) (ds := List.map eApiLock [(ApiLock.mk p1.Tree r88 false)]) (off := 0) (l' := [(ApiLock.mk p1.Tree r88 false)].length) rfl un37 ei137 rfl rfl (by rfl) rfl rfl rfl) rfl (t1 ([6, 8, 9], true) (app rfl rfl rfl rfl bc37 (aF (f := eApiLock) (xs := (y75 ++ [(ApiLock.mk p1.Tree (ApiSpan.mk y64.Key (y64.Key ++ ([0] : List UInt8)) false) true)])) (k := 9) rfl un37 ei137 rfl (el_full (xs := [(ApiLock.mk p1.Tree r88 false)]) rfl) hg90 rfl)) rfl (t1 ([], false) (nkr rfl) rfl (t1 ([], false) (far (k := 1) rfl fo46_1 ts37 rfl) rfl (t0 ([0, 9], true) (sto rfl rfl (sB (d' := .agg [.slc 5 9 0 ((y74 ++ [(Granaryref14Op.mk (1 : Int) p1.Tree (ApiMsg.mk (0 : UInt64) (1 : Int) y64.Key (0 : UInt64) y64.Val (0 : Int) (0 : UInt64)))]).length) none, .slc 9 5 0 (((y75 ++ [(ApiLock.mk p1.Tree (ApiSpan.mk y64.Key (y64.Key ++ ([0] : List UInt8)) false) true)]) ++ [(ApiLock.mk p1.Tree r88 false)]).length) none, .slc 3 4 0 p6.length none]) ts37 rfl rfl rfl rfl rfl rfl rfl)) rfl (tn (by decide +kernel) (SC.draws (by kernel_rfl) (t1 ([], false) (mv rfl) rfl (t1 ([], false) (mv rfl) rfl ?_)))))))))
                    refine t1 ([], false) (nkr rfl) rfl (t1 ([], false) (far (k := 2) rfl fo46_2 ts44 rfl) rfl (t1 ([0], false) (lod rfl (ld_box ts44 ta44 rfl rfl)) rfl (t1 ([], false) (far (k := 5) rfl fo82_5 ts3 rfl) rfl (t1 ([4], false) (lod rfl (ld_box ts3 ta3 rfl rfl)) rfl (t1 ([], false) (mv rfl) rfl (ta' [] ([10], true) (ref07_Under_ok r83 _ hq92) wf rfl rfl rfl cb76 rfl rfl rfl rfl rfl rfl rfl (t1 ([], false) (bld rfl (bd111_0_1 p1.Tree r91)) rfl (t1 ([11], true) (bsn (k := 11) (ds := List.map eGranaryref19Probe [(Granaryref19Probe.mk p1.Tree r91)]) (off := 0) (l' := [(Granaryref19Probe.mk p1.Tree r91)].length) rfl un44 ei111 rfl rfl (by rfl) rfl rfl rfl) rfl (t1 ([3, 11, 12], true) (app rfl rfl rfl rfl bc44 (aF (f := eGranaryref19Probe) (xs := p6) (k := 12) rfl un44 ei111 rfl (el_full (xs := [(Granaryref19Probe.mk p1.Tree r91)]) rfl) hg93 rfl)) rfl ?_)))))))))
                    refine t1 ([], false) (nkr rfl) rfl (t1 ([], false) (far (k := 2) rfl fo46_2 ts44 rfl) rfl (t0 ([0, 12], true) (sto rfl rfl (sB (d' := .agg [.slc 5 9 0 ((y74 ++ [(Granaryref14Op.mk (1 : Int) p1.Tree (ApiMsg.mk (0 : UInt64) (1 : Int) y64.Key (0 : UInt64) y64.Val (0 : Int) (0 : UInt64)))]).length) none, .slc 9 5 0 (((y75 ++ [(ApiLock.mk p1.Tree (ApiSpan.mk y64.Key (y64.Key ++ ([0] : List UInt8)) false) true)]) ++ [(ApiLock.mk p1.Tree r88 false)]).length) none, .slc 12 4 0 ((p6 ++ [(Granaryref19Probe.mk p1.Tree r91)]).length) none]) ts44 rfl rfl rfl rfl rfl rfl rfl)) rfl (ST.nil (And.intro (by decide +kernel) ?_))))
                    exact finN (Wk.trans (wq (e' := []) rfl) (wc (e' := []) [0, 1, 2, 3, 5, 9, 12] [0, 1, 2, 3] (by kernel_rfl) rfl (by kernel_rfl))) lresN rfl
                  · have q := si h0; subst q
                    exact SC.skip (finN (Wk.trans (wq (e' := []) rfl) (Wk.trans (Wk.move (e' := []) (os := [.box (.agg [.slc 5 9 0 ((y74 ++ [(Granaryref14Op.mk (1 : Int) p1.Tree (ApiMsg.mk (0 : UInt64) (1 : Int) y64.Key (0 : UInt64) y64.Val (0 : Int) (0 : UInt64)))]).length) none, .slc 6 5 0 ((y75 ++ [(ApiLock.mk p1.Tree (ApiSpan.mk y64.Key (y64.Key ++ ([0] : List UInt8)) false) true)]).length) none, .slc 7 4 0 p6.length none]), .dead, .dead, .row 4 (List.map eGranaryref19Probe p6) true, .box (.d (eApiIndex p1)), .row 9 (List.map eGranaryref14Op (y74 ++ [(Granaryref14Op.mk (1 : Int) p1.Tree (ApiMsg.mk (0 : UInt64) (1 : Int) y64.Key (0 : UInt64) y64.Val (0 : Int) (0 : UInt64)))])) true, .row 5 (List.map eApiLock (y75 ++ [(ApiLock.mk p1.Tree (ApiSpan.mk y64.Key (y64.Key ++ ([0] : List UInt8)) false) true)])) true]) (o := .row 4 (List.map eGranaryref19Probe p6) true) (σ' := [.box (.agg [.slc 5 9 0 ((y74 ++ [(Granaryref14Op.mk (1 : Int) p1.Tree (ApiMsg.mk (0 : UInt64) (1 : Int) y64.Key (0 : UInt64) y64.Val (0 : Int) (0 : UInt64)))]).length) none, .slc 6 5 0 ((y75 ++ [(ApiLock.mk p1.Tree (ApiSpan.mk y64.Key (y64.Key ++ ([0] : List UInt8)) false) true)]).length) none, .slc 7 4 0 p6.length none]), .dead, .dead, .dead, .box (.d (eApiIndex p1)), .row 9 (List.map eGranaryref14Op (y74 ++ [(Granaryref14Op.mk (1 : Int) p1.Tree (ApiMsg.mk (0 : UInt64) (1 : Int) y64.Key (0 : UInt64) y64.Val (0 : Int) (0 : UInt64)))])) true, .row 5 (List.map eApiLock (y75 ++ [(ApiLock.mk p1.Tree (ApiSpan.mk y64.Key (y64.Key ++ ([0] : List UInt8)) false) true)])) true, .row 4 (List.map eGranaryref19Probe p6) true]) 3 (Nat.le_of_ble_eq_true rfl) rfl rfl rfl rfl) (wc (e' := []) [0, 1, 2, 3, 5, 6, 7] [0, 1, 2, 3] (by kernel_rfl) rfl (by kernel_rfl)))) lresN rfl)

/-- granary/granaryref19.Change -/
noncomputable def ref19_Change (p0 : ApiTable) (p1 : List Granaryref19Built) (p2 : List ApiValue) (p3 : List ApiValue) : Option (Int × (List Granaryref14Op) × (List ApiLock) × (List Granaryref19Probe)) :=
  Option.bind (α := Bool)
    (bif ((p1.length : Int) != (p0.Indexes.length : Int)) then
      some true
    else
      bif ((p2.length : Int) == (0 : Int)) then
        some ((p3.length : Int) == (0 : Int))
      else
        some false)
    fun y280 =>
  bif y280 then
    some ((1 : Int), ([] : List Granaryref14Op), ([] : List ApiLock), ([] : List Granaryref19Probe))
  else
    bindE (Y := (List UInt8)) (E := Int × (List Granaryref14Op) × (List ApiLock) × (List Granaryref19Probe))
      (Option.bind (α := ((List UInt8)) ⊕ (Int × (List Granaryref14Op) × (List ApiLock) × (List Granaryref19Probe)))
        (loop (Y := (List UInt8) × Int) (W := ((List UInt8)) ⊕ (Int × (List Granaryref14Op) × (List ApiLock) × (List Granaryref19Probe))) (fun (y343, y344) =>
          bif (decide (y344 < (2 : Int))) then
            bindE (Y := (List UInt8)) (E := Int × (List Granaryref14Op) × (List ApiLock) × (List Granaryref19Probe))
              (Option.bind (α := (List ApiValue))
                (bif (y344 == (1 : Int)) then
                  some p3
                else
                  some p2)
                fun y371 =>
              bif ((y371.length : Int) == (0 : Int)) then
                some (Sum.inl y343)
              else
                Option.bind (ref08_Fits p0.Cols y371) fun r373 =>
                bif (r373 != (0 : Int)) then
                  some (Sum.inr (r373, ([] : List Granaryref14Op), ([] : List ApiLock), ([] : List Granaryref19Probe)))
                else
                  Option.bind (ref17_Primary p0 y371) fun r375 =>
                  some (Sum.inl r375))
              (fun y369 =>
                some (Sum.inl (y369, (w64 (y344 + (1 : Int))))))
              (fun e => some (Sum.inr (Sum.inr e)))
          else
            some (Sum.inr (Sum.inl y343))) (([] : List UInt8), (0 : Int)))
        (Sum.elim (fun e => some (Sum.inl e)) (fun e => some (Sum.inr e))))
      (fun y329 =>
        Option.bind (α := Bool)
          (bif (decide ((p2.length : Int) > (0 : Int))) then
            bif (decide ((p3.length : Int) > (0 : Int))) then
              Option.bind (ref17_Primary p0 p2) fun r382 =>
              some (r382 != y329)
            else
              some false
          else
            some false)
          fun y380 =>
        bif y380 then
          some ((1 : Int), ([] : List Granaryref14Op), ([] : List ApiLock), ([] : List Granaryref19Probe))
        else
          Option.bind (ref19_Work_own p0.Tree y329) fun _ =>
          Option.bind (ref08_Same p2 p3) fun r385 =>
          bif r385 then
            some ((0 : Int), ([] : List Granaryref14Op), [(ApiLock.mk p0.Tree (ApiSpan.mk y329 (y329 ++ ([0] : List UInt8)) false) true)], ([] : List Granaryref19Probe))
          else
            Option.bind (α := (List Granaryref14Op))
              (bif ((p3.length : Int) == (0 : Int)) then
                Option.bind (ref19_Work_op p0.Tree (2 : Int) y329 ([] : List UInt8) [(ApiLock.mk p0.Tree (ApiSpan.mk y329 (y329 ++ ([0] : List UInt8)) false) true)]) fun _ =>
                some [(Granaryref14Op.mk (1 : Int) p0.Tree (ApiMsg.mk (0 : UInt64) (2 : Int) y329 (0 : UInt64) ([] : List UInt8) (0 : Int) (0 : UInt64)))]
              else
                Option.bind (ref08_Bytes p3) fun r394 =>
                Option.bind (ref19_Work_op p0.Tree (1 : Int) y329 r394 [(ApiLock.mk p0.Tree (ApiSpan.mk y329 (y329 ++ ([0] : List UInt8)) false) true)]) fun _ =>
                some [(Granaryref14Op.mk (1 : Int) p0.Tree (ApiMsg.mk (0 : UInt64) (1 : Int) y329 (0 : UInt64) r394 (0 : Int) (0 : UInt64)))])
              fun y391 =>
            Option.bind (α := (List Granaryref14Op) × (List ApiLock) × (List Granaryref19Probe))
              (Option.bind (α := (List Granaryref14Op) × (List ApiLock) × (List Granaryref19Probe))
                (loop (Y := Int × (List Granaryref14Op) × (List ApiLock) × (List Granaryref19Probe)) (W := (List Granaryref14Op) × (List ApiLock) × (List Granaryref19Probe)) (fun (y500, y501, y502, y503) =>
                  bif (decide (y500 < (p0.Indexes.length : Int))) then
                    Option.bind (α := (List Granaryref14Op) × (List ApiLock) × (List Granaryref19Probe))
                      (Option.bind (getI p0.Indexes y500) fun v545 =>
                      Option.bind (getI p1 y500) fun v546 =>
                      Option.bind (ref19_Kept v545 v546 y329) fun r547 =>
                      bif r547 then
                        Option.bind (getI p0.Indexes y500) fun v549 =>
                        Option.bind (ref19_Work_index_1 p0 v549 p2 p3 y501 y502 y503) fun (r550, r551, r552) =>
                        some (r550, r551, r552)
                      else
                        some (y501, y502, y503))
                      fun (y541, y542, y543) =>
                    some (Sum.inl ((w64 (y500 + (1 : Int))), y541, y542, y543))
                  else
                    some (Sum.inr (y501, y502, y503))) ((0 : Int), y391, [(ApiLock.mk p0.Tree (ApiSpan.mk y329 (y329 ++ ([0] : List UInt8)) false) true)], ([] : List Granaryref19Probe)))
                (fun e => some e))
              fun (y474, y475, y476) =>
            some ((0 : Int), y474, y475, y476))
      (fun e => some e)
theorem ref19_Change_ok (p0 : ApiTable) (p1 : List Granaryref19Built) (p2 : List ApiValue) (p3 : List ApiValue) (r : Int × (List Granaryref14Op) × (List ApiLock) × (List Granaryref19Probe)) (h0 : ref19_Change p0 p1 p2 p3 = some r) : CallAt Tryz.prog 11 [.d (eApiTable p0), .d ((eL 2 eGranaryref19Built) p1), .d ((eL 3 eApiValue) p2), .d ((eL 3 eApiValue) p3)] [] (.tuple [.agg [.slc 1 9 0 r.2.1.length none, .slc 2 5 0 r.2.2.1.length none, .slc 3 4 0 r.2.2.2.length none], .d (eI r.1)]) [.box (.agg [.slc 1 9 0 r.2.1.length none, .slc 2 5 0 r.2.2.1.length none, .slc 3 4 0 r.2.2.2.length none]), .row 9 (List.map eGranaryref14Op r.2.1) true, .row 5 (List.map eApiLock r.2.2.1) true, .row 4 (List.map eGranaryref19Probe r.2.2.2) true] := by
  unfold ref19_Change at h0
  refine fn0 [0, 1, 2, 3] Tryz.func11 rfl rfl rfl rfl rfl ?_
  refine sr (s1 (bxo (k := 0) rfl rfl rfl) (s1 (alo (k := 1) zo46 rfl) (s1 (asg rfl) (sn (sq (SC.seqP h0 (fun y => ⟨mk 121 [(1, .d ((eL 2 eGranaryref19Built) p1)), (2, .d ((eL 3 eApiValue) p2)), (3, .d ((eL 3 eApiValue) p3)), (4, .ref 0 0 0), (8, .ref 1 0 0), (31, .d (eB y))], [.box (.d (eApiTable p0)), .box (.d (.agg [.nils, .nils, .nils]))]⟩) ?_ ?_))))))
  · intro u1_281 h1
    refine SC.region (s1 (mv rfl) (s1 (len rfl rfl rfl (len_lst un49)) (s1 (far (k := 3) rfl fo26_3 ts24 rfl) (s1 (lod rfl (ld_box ts24 ta24 rfl rfl)) (s1 (len rfl rfl rfl (len_lst un24)) (s1 (bi rfl rfl q_i64_neq) (s1 (mv rfl) (sp h1 (fun h1 => ?_) (fun h1 => ?_)))))))))
    · have q := si h1; subst q
      refine k1 (wb rfl rfl rfl) (k1 (wb rfl rfl rfl) (k1 (wb rfl rfl rfl) (k1 (wb rfl rfl rfl) (k1 (wo rfl rfl) (k1 (wo rfl rfl) (k1 (wo rfl rfl) (k1 (wb rfl rfl rfl) (s1 (pkt rfl rfl) (SO.nil ?_)))))))))
      exact (wq rfl)
    · refine g1 (wb rfl rfl rfl) (mv rfl) (g1 (wb rfl rfl rfl) (len rfl rfl rfl (len_lst un28)) (g1 (wb rfl rfl rfl) (bi rfl rfl q_i64_eql) (g1 (wb rfl rfl rfl) (mv rfl) (sp h1 (fun h1 => ?_) (fun h1 => ?_)))))
      · have q := si h1; subst q
        exact g1 (wb rfl rfl rfl) (mv rfl) (g1 (wb rfl rfl rfl) (len rfl rfl rfl (len_lst un28)) (g1 (wb rfl rfl rfl) (bi rfl rfl q_i64_eql) (g1 (wb rfl rfl rfl) (pkt rfl rfl) (s1 (pkf rfl rfl) (SO.nil ((wq rfl)))))))
      · have q := si h1; subst q
        exact k1 (wb rfl rfl rfl) (k1 (wb rfl rfl rfl) (k1 (wb rfl rfl rfl) (g1 (wb rfl rfl rfl) (pkf rfl rfl) (s1 (pkf rfl rfl) (SO.nil ((wq rfl)))))))
  · rintro y280 h0
    refine cB h0 rfl (fun h0 => ?_) (fun h0 => ?_)
    · have q := si h0; subst q
      exact sr (s1 (bld rfl (bd46_ )) (s0 (sto rfl rfl (sB (d' := .d (.agg [.nils, .nils, .nils])) ts46 rfl rfl rfl rfl rfl rfl rfl)) (s1 (asg rfl) (sn (SC.ret (finR (Wk.trans (Wk.pushE (σ' := [.box (.d (eApiTable p0)), .box (.d (.agg [.nils, .nils, .nils])), .row 9 (List.map eGranaryref14Op ([] : List Granaryref14Op)) true]) (.row 9 [] true) (fun _ hh => by cases hh) rfl) (Wk.trans (Wk.boxE (id := 1) (y := .agg [.slc 2 9 0 (([] : List Granaryref14Op).length) none, .d .nils, .d .nils]) (σ' := [.box (.d (eApiTable p0)), .box (.agg [.slc 2 9 0 (([] : List Granaryref14Op).length) none, .d .nils, .d .nils]), .row 9 (List.map eGranaryref14Op ([] : List Granaryref14Op)) true]) rfl (AWs.cons (AW.slcn _ _ _) (AWs.cons (AW.refl _) (AWs.cons (AW.refl _) AWs.nil))) rfl) (Wk.trans (Wk.pushE (σ' := [.box (.d (eApiTable p0)), .box (.agg [.slc 2 9 0 (([] : List Granaryref14Op).length) none, .d .nils, .d .nils]), .row 9 (List.map eGranaryref14Op ([] : List Granaryref14Op)) true, .row 5 (List.map eApiLock ([] : List ApiLock)) true]) (.row 5 [] true) (fun _ hh => by cases hh) rfl) (Wk.trans (Wk.boxE (id := 1) (y := .agg [.slc 2 9 0 (([] : List Granaryref14Op).length) none, .slc 3 5 0 (([] : List ApiLock).length) none, .d .nils]) (σ' := [.box (.d (eApiTable p0)), .box (.agg [.slc 2 9 0 (([] : List Granaryref14Op).length) none, .slc 3 5 0 (([] : List ApiLock).length) none, .d .nils]), .row 9 (List.map eGranaryref14Op ([] : List Granaryref14Op)) true, .row 5 (List.map eApiLock ([] : List ApiLock)) true]) rfl (AWs.cons (AW.refl _) (AWs.cons (AW.slcn _ _ _) (AWs.cons (AW.refl _) AWs.nil))) rfl) (Wk.trans (Wk.pushE (σ' := [.box (.d (eApiTable p0)), .box (.agg [.slc 2 9 0 (([] : List Granaryref14Op).length) none, .slc 3 5 0 (([] : List ApiLock).length) none, .d .nils]), .row 9 (List.map eGranaryref14Op ([] : List Granaryref14Op)) true, .row 5 (List.map eApiLock ([] : List ApiLock)) true, .row 4 (List.map eGranaryref19Probe ([] : List Granaryref19Probe)) true]) (.row 4 [] true) (fun _ hh => by cases hh) rfl) (Wk.trans (Wk.boxE (id := 1) (y := .agg [.slc 2 9 0 (([] : List Granaryref14Op).length) none, .slc 3 5 0 (([] : List ApiLock).length) none, .slc 4 4 0 (([] : List Granaryref19Probe).length) none]) (σ' := [.box (.d (eApiTable p0)), .box (.agg [.slc 2 9 0 (([] : List Granaryref14Op).length) none, .slc 3 5 0 (([] : List ApiLock).length) none, .slc 4 4 0 (([] : List Granaryref19Probe).length) none]), .row 9 (List.map eGranaryref14Op ([] : List Granaryref14Op)) true, .row 5 (List.map eApiLock ([] : List ApiLock)) true, .row 4 (List.map eGranaryref19Probe ([] : List Granaryref19Probe)) true]) rfl (AWs.cons (AW.refl _) (AWs.cons (AW.refl _) (AWs.cons (AW.slcn _ _ _) AWs.nil))) rfl) (wc (e' := [(8, .ref 0 0 0), (9, .d (eI (1 : Int)))]) [1, 2, 3, 4] [1] (by kernel_rfl) rfl (by kernel_rfl)))))))) (lresC rfl (ld_box ts46 ta46 rfl rfl) (lresT rfl lresN)) rfl))))))
    · refine sk (sr (s1 (asg (v := .d (eS ([] : List UInt8))) rfl) (sn (SC.seqB h0 (fun y => ⟨mk 121 [(1, .d ((eL 2 eGranaryref19Built) p1)), (2, .d ((eL 3 eApiValue) p2)), (3, .d ((eL 3 eApiValue) p3)), (4, .ref 0 0 0), (8, .ref 1 0 0), (10, .d (eS y))], [.box (.d (eApiTable p0)), .box (.d (.agg [.nils, .nils, .nils]))]⟩) ?_ ?_))))
      · intro u1_330 h1 h0
        obtain ⟨u2_362, h2, h1⟩ := ob h1
        refine sr (s1 (asg rfl) (sn (SC.blk (SC.loopB h2 (fun y => ⟨mk 121 [(1, .d ((eL 2 eGranaryref19Built) p1)), (2, .d ((eL 3 eApiValue) p2)), (3, .d ((eL 3 eApiValue) p3)), (4, .ref 0 0 0), (8, .ref 1 0 0), (10, .d (eS y.1)), (11, .d (eI y.2))], [.box (.d (eApiTable p0)), .box (.d (.agg [.nils, .nils, .nils]))]⟩) (wq rfl) ?_))))
        intro n377
        rintro ⟨y343, y344⟩ w2_361 h3 hv3
        refine sq (sr (s1 (mv rfl) (s1 (bi rfl rfl q_i64_lss) (sn (cB h3 rfl (fun h3 => ?_) (fun h3 => ?_))))))
        · refine sk (SC.seqB h3 (fun y => ⟨mk 121 [(1, .d ((eL 2 eGranaryref19Built) p1)), (2, .d ((eL 3 eApiValue) p2)), (3, .d ((eL 3 eApiValue) p3)), (4, .ref 0 0 0), (8, .ref 1 0 0), (10, .d (eS y)), (11, .d (eI y344))], [.box (.d (eApiTable p0)), .box (.d (.agg [.nils, .nils, .nils]))]⟩) ?_ ?_)
          · intro u4_370 h4 h3
            refine SC.blk (sr (s1 (mv rfl) (s1 (asg rfl) (sn (SC.seqP h4 (fun y => ⟨mk 121 [(1, .d ((eL 2 eGranaryref19Built) p1)), (2, .d ((eL 3 eApiValue) p2)), (3, .d ((eL 3 eApiValue) p3)), (4, .ref 0 0 0), (8, .ref 1 0 0), (10, .d (eS y343)), (11, .d (eI y344)), (12, .d ((eL 3 eApiValue) y))], [.box (.d (eApiTable p0)), .box (.d (.agg [.nils, .nils, .nils]))]⟩) ?_ ?_)))))
            · intro u5_372 h5
              refine sr (s1 (mv rfl) (s1 (bi rfl rfl q_i64_eql) (sn (cB h5 rfl (fun h5 => ?_) (fun h5 => ?_)))))
              · have q := si h5; subst q
                exact SC.region (s1 (mv rfl) (s1 (asg rfl) (SO.nil ((wq rfl)))))
              · have q := si h5; subst q
                exact SC.skip ((wq rfl))
            · rintro y371 h4
              refine sq (sr (s1 (mv rfl) (s1 (len rfl rfl rfl (len_lst un28)) (s1 (bi rfl rfl q_i64_eql) (sn (cB h4 rfl (fun h4 => ?_) (fun h4 => ?_)))))))
              · have q := si h4; subst q
                exact SC.exit (lf (wq rfl))
              · obtain ⟨r373, hq374, h4⟩ := ob h4
                refine sk (sr (s1 (far (k := 1) rfl fo26_1 ts22 rfl) (s1 (lod rfl (ld_box ts22 ta22 rfl rfl)) (s1 (mv rfl) (c0 (ref08_Fits_ok p0.Cols y371 _ hq374) wf rfl rfl rfl cb36 rfl (fun _ => rfl) (fun _ => rfl) (s1 (asg rfl) (sn (sq (sr ?_)))))))))
                refine s1 (mv rfl) (s1 (bi rfl rfl q_i64_neq) (sn (cB h4 rfl (fun h4 => ?_) (fun h4 => ?_))))
                · have q := si h4; subst q; have q := si h3; subst q; have q : _ = _ := hv3; subst q; have q := si h1; subst q; have q := si h0; subst q
                  exact sr (s1 (bld rfl (bd46_ )) (s1 (mv rfl) (s0 (sto rfl rfl (sB (d' := .d (.agg [.nils, .nils, .nils])) ts46 rfl rfl rfl rfl rfl rfl rfl)) (s1 (asg rfl) (sn (SC.ret (finR (Wk.trans (Wk.pushE (σ' := [.box (.d (eApiTable p0)), .box (.d (.agg [.nils, .nils, .nils])), .row 9 (List.map eGranaryref14Op ([] : List Granaryref14Op)) true]) (.row 9 [] true) (fun _ hh => by cases hh) rfl) (Wk.trans (Wk.boxE (id := 1) (y := .agg [.slc 2 9 0 (([] : List Granaryref14Op).length) none, .d .nils, .d .nils]) (σ' := [.box (.d (eApiTable p0)), .box (.agg [.slc 2 9 0 (([] : List Granaryref14Op).length) none, .d .nils, .d .nils]), .row 9 (List.map eGranaryref14Op ([] : List Granaryref14Op)) true]) rfl (AWs.cons (AW.slcn _ _ _) (AWs.cons (AW.refl _) (AWs.cons (AW.refl _) AWs.nil))) rfl) (Wk.trans (Wk.pushE (σ' := [.box (.d (eApiTable p0)), .box (.agg [.slc 2 9 0 (([] : List Granaryref14Op).length) none, .d .nils, .d .nils]), .row 9 (List.map eGranaryref14Op ([] : List Granaryref14Op)) true, .row 5 (List.map eApiLock ([] : List ApiLock)) true]) (.row 5 [] true) (fun _ hh => by cases hh) rfl) (Wk.trans (Wk.boxE (id := 1) (y := .agg [.slc 2 9 0 (([] : List Granaryref14Op).length) none, .slc 3 5 0 (([] : List ApiLock).length) none, .d .nils]) (σ' := [.box (.d (eApiTable p0)), .box (.agg [.slc 2 9 0 (([] : List Granaryref14Op).length) none, .slc 3 5 0 (([] : List ApiLock).length) none, .d .nils]), .row 9 (List.map eGranaryref14Op ([] : List Granaryref14Op)) true, .row 5 (List.map eApiLock ([] : List ApiLock)) true]) rfl (AWs.cons (AW.refl _) (AWs.cons (AW.slcn _ _ _) (AWs.cons (AW.refl _) AWs.nil))) rfl) (Wk.trans (Wk.pushE (σ' := [.box (.d (eApiTable p0)), .box (.agg [.slc 2 9 0 (([] : List Granaryref14Op).length) none, .slc 3 5 0 (([] : List ApiLock).length) none, .d .nils]), .row 9 (List.map eGranaryref14Op ([] : List Granaryref14Op)) true, .row 5 (List.map eApiLock ([] : List ApiLock)) true, .row 4 (List.map eGranaryref19Probe ([] : List Granaryref19Probe)) true]) (.row 4 [] true) (fun _ hh => by cases hh) rfl) (Wk.trans (Wk.boxE (id := 1) (y := .agg [.slc 2 9 0 (([] : List Granaryref14Op).length) none, .slc 3 5 0 (([] : List ApiLock).length) none, .slc 4 4 0 (([] : List Granaryref19Probe).length) none]) (σ' := [.box (.d (eApiTable p0)), .box (.agg [.slc 2 9 0 (([] : List Granaryref14Op).length) none, .slc 3 5 0 (([] : List ApiLock).length) none, .slc 4 4 0 (([] : List Granaryref19Probe).length) none]), .row 9 (List.map eGranaryref14Op ([] : List Granaryref14Op)) true, .row 5 (List.map eApiLock ([] : List ApiLock)) true, .row 4 (List.map eGranaryref19Probe ([] : List Granaryref19Probe)) true]) rfl (AWs.cons (AW.refl _) (AWs.cons (AW.refl _) (AWs.cons (AW.slcn _ _ _) AWs.nil))) rfl) (wc (e' := [(8, .ref 0 0 0), (9, .d (eI r373))]) [1, 2, 3, 4] [1] (by kernel_rfl) rfl (by kernel_rfl)))))))) (lresC rfl (ld_box ts46 ta46 rfl rfl) (lresT rfl lresN)) rfl)))))))
                · obtain ⟨r375, hq376, h4⟩ := ob h4; have q := si h4; subst q
                  exact sk (SC.region (s1 (lod (v := .d (eApiTable p0)) rfl (ld_box ts26 ta26 rfl rfl)) (s1 (mv rfl) (c0 (ref17_Primary_ok p0 y371 _ hq376) wf rfl rfl rfl cb37 rfl (fun _ => rfl) (fun _ => rfl) (s1 (asg rfl) (SO.nil (lf (wq rfl))))))))
          · rintro y369 h3
            have q := si h3; subst q
            exact SC.region (s1 (mv rfl) (s1 (bi rfl rfl q_i64_add) (s1 (asg rfl) (SO.nil (lf (wq rfl))))))
        · have q := si h3; subst q; have q : _ = _ := hv3; subst q; have q := si h1; subst q
          exact SC.exit (lf (wq rfl))
      · rintro y329 h0
        refine sq (SC.seqP h0 (fun y => ⟨mk 121 [(1, .d ((eL 2 eGranaryref19Built) p1)), (2, .d ((eL 3 eApiValue) p2)), (3, .d ((eL 3 eApiValue) p3)), (4, .ref 0 0 0), (8, .ref 1 0 0), (10, .d (eS y329)), (69, .d (eB y))], [.box (.d (eApiTable p0)), .box (.d (.agg [.nils, .nils, .nils]))]⟩) ?_ ?_)
        · intro u1_381 h1
          refine SC.region (s1 (mv rfl) (s1 (len rfl rfl rfl (len_lst un28)) (s1 (bi rfl rfl q_i64_gtr) (s1 (mv rfl) (sp h1 (fun h1 => ?_) (fun h1 => ?_))))))
          · refine g1 (wb rfl rfl rfl) (mv rfl) (g1 (wb rfl rfl rfl) (len rfl rfl rfl (len_lst un28)) (g1 (wb rfl rfl rfl) (bi rfl rfl q_i64_gtr) (s1 (pkt rfl rfl) (s1 (mv rfl) (sp h1 (fun h1 => ?_) (fun h1 => ?_))))))
            · obtain ⟨r382, hq383, h1⟩ := ob h1; have q := si h1; subst q
              exact g1 (wb rfl rfl rfl) (lod (v := .d (eApiTable p0)) rfl (ld_box ts26 ta26 rfl rfl)) (g1 (wb rfl rfl rfl) (mv rfl) (c0 (ref17_Primary_ok p0 p2 _ hq383) (wb rfl rfl rfl) rfl rfl rfl cb37 rfl (fun _ => rfl) (fun _ => rfl) (g1 (wb rfl rfl rfl) (mv rfl) (g1 (wb rfl rfl rfl) (bi rfl rfl q_str_neq) (s1 (pkt rfl rfl) (SO.nil ((wq rfl))))))))
            · have q := si h1; subst q
              exact k1 (wb rfl rfl rfl) (k1 (wb rfl rfl rfl) (k1 (wb rfl rfl rfl) (k1 (wb rfl rfl rfl) (k1 (wb rfl rfl rfl) (s1 (pkf rfl rfl) (SO.nil ((wq rfl))))))))
          · have q := si h1; subst q
            refine k1 (wb rfl rfl rfl) (k1 (wb rfl rfl rfl) (k1 (wb rfl rfl rfl) (s1 (pkf rfl rfl) (s1 (mv rfl) (k1 (wb rfl rfl rfl) (k1 (wb rfl rfl rfl) (k1 (wb rfl rfl rfl) (k1 (wb rfl rfl rfl) (k1 (wb rfl rfl rfl) ?_)))))))))
            exact s1 (pkf rfl rfl) (SO.nil ((wq rfl)))
        · rintro y380 h0
          refine cB h0 rfl (fun h0 => ?_) (fun h0 => ?_)
          · have q := si h0; subst q
            exact sr (s1 (bld rfl (bd46_ )) (s0 (sto rfl rfl (sB (d' := .d (.agg [.nils, .nils, .nils])) ts46 rfl rfl rfl rfl rfl rfl rfl)) (s1 (asg rfl) (sn (SC.ret (finR (Wk.trans (Wk.pushE (σ' := [.box (.d (eApiTable p0)), .box (.d (.agg [.nils, .nils, .nils])), .row 9 (List.map eGranaryref14Op ([] : List Granaryref14Op)) true]) (.row 9 [] true) (fun _ hh => by cases hh) rfl) (Wk.trans (Wk.boxE (id := 1) (y := .agg [.slc 2 9 0 (([] : List Granaryref14Op).length) none, .d .nils, .d .nils]) (σ' := [.box (.d (eApiTable p0)), .box (.agg [.slc 2 9 0 (([] : List Granaryref14Op).length) none, .d .nils, .d .nils]), .row 9 (List.map eGranaryref14Op ([] : List Granaryref14Op)) true]) rfl (AWs.cons (AW.slcn _ _ _) (AWs.cons (AW.refl _) (AWs.cons (AW.refl _) AWs.nil))) rfl) (Wk.trans (Wk.pushE (σ' := [.box (.d (eApiTable p0)), .box (.agg [.slc 2 9 0 (([] : List Granaryref14Op).length) none, .d .nils, .d .nils]), .row 9 (List.map eGranaryref14Op ([] : List Granaryref14Op)) true, .row 5 (List.map eApiLock ([] : List ApiLock)) true]) (.row 5 [] true) (fun _ hh => by cases hh) rfl) (Wk.trans (Wk.boxE (id := 1) (y := .agg [.slc 2 9 0 (([] : List Granaryref14Op).length) none, .slc 3 5 0 (([] : List ApiLock).length) none, .d .nils]) (σ' := [.box (.d (eApiTable p0)), .box (.agg [.slc 2 9 0 (([] : List Granaryref14Op).length) none, .slc 3 5 0 (([] : List ApiLock).length) none, .d .nils]), .row 9 (List.map eGranaryref14Op ([] : List Granaryref14Op)) true, .row 5 (List.map eApiLock ([] : List ApiLock)) true]) rfl (AWs.cons (AW.refl _) (AWs.cons (AW.slcn _ _ _) (AWs.cons (AW.refl _) AWs.nil))) rfl) (Wk.trans (Wk.pushE (σ' := [.box (.d (eApiTable p0)), .box (.agg [.slc 2 9 0 (([] : List Granaryref14Op).length) none, .slc 3 5 0 (([] : List ApiLock).length) none, .d .nils]), .row 9 (List.map eGranaryref14Op ([] : List Granaryref14Op)) true, .row 5 (List.map eApiLock ([] : List ApiLock)) true, .row 4 (List.map eGranaryref19Probe ([] : List Granaryref19Probe)) true]) (.row 4 [] true) (fun _ hh => by cases hh) rfl) (Wk.trans (Wk.boxE (id := 1) (y := .agg [.slc 2 9 0 (([] : List Granaryref14Op).length) none, .slc 3 5 0 (([] : List ApiLock).length) none, .slc 4 4 0 (([] : List Granaryref19Probe).length) none]) (σ' := [.box (.d (eApiTable p0)), .box (.agg [.slc 2 9 0 (([] : List Granaryref14Op).length) none, .slc 3 5 0 (([] : List ApiLock).length) none, .slc 4 4 0 (([] : List Granaryref19Probe).length) none]), .row 9 (List.map eGranaryref14Op ([] : List Granaryref14Op)) true, .row 5 (List.map eApiLock ([] : List ApiLock)) true, .row 4 (List.map eGranaryref19Probe ([] : List Granaryref19Probe)) true]) rfl (AWs.cons (AW.refl _) (AWs.cons (AW.refl _) (AWs.cons (AW.slcn _ _ _) AWs.nil))) rfl) (wc (e' := [(8, .ref 0 0 0), (9, .d (eI (1 : Int)))]) [1, 2, 3, 4] [1] (by kernel_rfl) rfl (by kernel_rfl)))))))) (lresC rfl (ld_box ts46 ta46 rfl rfl) (lresT rfl lresN)) rfl))))))
          · obtain ⟨_, hq384, h0⟩ := ob h0; obtain ⟨r385, hq386, h0⟩ := ob h0
            refine sk (sr (s1 (bld rfl (bd46_ )) (s1 (alo (k := 2) zo46 rfl) (s0 (sto rfl rfl (sB (d' := .d (.agg [.nils, .nils, .nils])) ts46 rfl rfl rfl rfl rfl rfl rfl)) (sn (sr (s1 (far (k := 4) rfl fo26_4 ts3 rfl) (s1 (lod rfl (ld_box ts3 ta3 rfl rfl)) (s1 (mv rfl) ?_)))))))))
            refine ca (σ' := [.box (.d (eApiTable p0)), .box (.d (.agg [.nils, .nils, .nils])), .box (.agg [.d .nils, .slc 3 5 0 ([(ApiLock.mk p0.Tree (ApiSpan.mk y329 (y329 ++ ([0] : List UInt8)) false) true)].length) none, .d .nils]), .row 5 (List.map eApiLock [(ApiLock.mk p0.Tree (ApiSpan.mk y329 (y329 ++ ([0] : List UInt8)) false) true)]) true]) [2] (ref19_Work_own_ok p0.Tree y329 _ hq384) wf rfl rfl rfl cb38 rfl rfl rfl rfl rfl rfl (sn (sq (sr (s1 (mv rfl) (s1 (mv rfl) (c0 (ref08_Same_ok p2 p3 _ hq386) wf rfl rfl rfl cb39 rfl (fun _ => rfl) (fun _ => rfl) (sn (cB h0 rfl (fun h0 => ?_) (fun h0 => ?_)))))))))
            · have q := si h0; subst q
              exact sr (s1 (lod (v := .agg [.d .nils, .slc 3 5 0 ([(ApiLock.mk p0.Tree (ApiSpan.mk y329 (y329 ++ ([0] : List UInt8)) false) true)].length) none, .d .nils]) rfl (ld_box ts46 ta46 rfl rfl)) (s0 (sto rfl rfl (sB (d' := .agg [.d .nils, .slc 3 5 0 ([(ApiLock.mk p0.Tree (ApiSpan.mk y329 (y329 ++ ([0] : List UInt8)) false) true)].length) none, .d .nils]) ts46 rfl rfl rfl rfl rfl rfl rfl)) (s1 (asg rfl) (sn (SC.ret (finR (Wk.trans (Wk.pushE (σ' := [.box (.d (eApiTable p0)), .box (.agg [.d .nils, .slc 3 5 0 ([(ApiLock.mk p0.Tree (ApiSpan.mk y329 (y329 ++ ([0] : List UInt8)) false) true)].length) none, .d .nils]), .box (.agg [.d .nils, .slc 3 5 0 ([(ApiLock.mk p0.Tree (ApiSpan.mk y329 (y329 ++ ([0] : List UInt8)) false) true)].length) none, .d .nils]), .row 5 (List.map eApiLock [(ApiLock.mk p0.Tree (ApiSpan.mk y329 (y329 ++ ([0] : List UInt8)) false) true)]) true, .row 9 (List.map eGranaryref14Op ([] : List Granaryref14Op)) true]) (.row 9 [] true) (fun _ hh => by cases hh) rfl) (Wk.trans (Wk.boxE (id := 1) (y := .agg [.slc 4 9 0 (([] : List Granaryref14Op).length) none, .slc 3 5 0 ([(ApiLock.mk p0.Tree (ApiSpan.mk y329 (y329 ++ ([0] : List UInt8)) false) true)].length) none, .d .nils]) (σ' := [.box (.d (eApiTable p0)), .box (.agg [.slc 4 9 0 (([] : List Granaryref14Op).length) none, .slc 3 5 0 ([(ApiLock.mk p0.Tree (ApiSpan.mk y329 (y329 ++ ([0] : List UInt8)) false) true)].length) none, .d .nils]), .box (.agg [.d .nils, .slc 3 5 0 ([(ApiLock.mk p0.Tree (ApiSpan.mk y329 (y329 ++ ([0] : List UInt8)) false) true)].length) none, .d .nils]), .row 5 (List.map eApiLock [(ApiLock.mk p0.Tree (ApiSpan.mk y329 (y329 ++ ([0] : List UInt8)) false) true)]) true, .row 9 (List.map eGranaryref14Op ([] : List Granaryref14Op)) true]) rfl (AWs.cons (AW.slcn _ _ _) (AWs.cons (AW.refl _) (AWs.cons (AW.refl _) AWs.nil))) rfl) (Wk.trans (Wk.pushE (σ' := [.box (.d (eApiTable p0)), .box (.agg [.slc 4 9 0 (([] : List Granaryref14Op).length) none, .slc 3 5 0 ([(ApiLock.mk p0.Tree (ApiSpan.mk y329 (y329 ++ ([0] : List UInt8)) false) true)].length) none, .d .nils]), .box (.agg [.d .nils, .slc 3 5 0 ([(ApiLock.mk p0.Tree (ApiSpan.mk y329 (y329 ++ ([0] : List UInt8)) false) true)].length) none, .d .nils]), .row 5 (List.map eApiLock [(ApiLock.mk p0.Tree (ApiSpan.mk y329 (y329 ++ ([0] : List UInt8)) false) true)]) true, .row 9 (List.map eGranaryref14Op ([] : List Granaryref14Op)) true, .row 4 (List.map eGranaryref19Probe ([] : List Granaryref19Probe)) true]) (.row 4 [] true) (fun _ hh => by cases hh) rfl) (Wk.trans (Wk.boxE (id := 1) (y := .agg [.slc 4 9 0 (([] : List Granaryref14Op).length) none, .slc 3 5 0 ([(ApiLock.mk p0.Tree (ApiSpan.mk y329 (y329 ++ ([0] : List UInt8)) false) true)].length) none, .slc 5 4 0 (([] : List Granaryref19Probe).length) none]) (σ' := [.box (.d (eApiTable p0)), .box (.agg [.slc 4 9 0 (([] : List Granaryref14Op).length) none, .slc 3 5 0 ([(ApiLock.mk p0.Tree (ApiSpan.mk y329 (y329 ++ ([0] : List UInt8)) false) true)].length) none, .slc 5 4 0 (([] : List Granaryref19Probe).length) none]), .box (.agg [.d .nils, .slc 3 5 0 ([(ApiLock.mk p0.Tree (ApiSpan.mk y329 (y329 ++ ([0] : List UInt8)) false) true)].length) none, .d .nils]), .row 5 (List.map eApiLock [(ApiLock.mk p0.Tree (ApiSpan.mk y329 (y329 ++ ([0] : List UInt8)) false) true)]) true, .row 9 (List.map eGranaryref14Op ([] : List Granaryref14Op)) true, .row 4 (List.map eGranaryref19Probe ([] : List Granaryref19Probe)) true]) rfl (AWs.cons (AW.refl _) (AWs.cons (AW.refl _) (AWs.cons (AW.slcn _ _ _) AWs.nil))) rfl) (wc (e' := [(8, .ref 0 0 0), (9, .d (eI (0 : Int)))]) [1, 4, 3, 5] [1] (by kernel_rfl) rfl (by kernel_rfl)))))) (lresC rfl (ld_box ts46 ta46 rfl rfl) (lresT rfl lresN)) rfl))))))
            · refine sk (SC.seqP h0 (fun y => ⟨mk 121 [(1, .d ((eL 2 eGranaryref19Built) p1)), (2, .d ((eL 3 eApiValue) p2)), (3, .d ((eL 3 eApiValue) p3)), (4, .ref 0 0 0), (8, .ref 1 0 0), (10, .d (eS y329)), (14, .ref 2 0 0)], [.box (.d (eApiTable p0)), .box (.d (.agg [.nils, .nils, .nils])), .box (.agg [.slc 3 9 0 y.length none, .slc 4 5 0 ([(ApiLock.mk p0.Tree (ApiSpan.mk y329 (y329 ++ ([0] : List UInt8)) false) true)].length) none, .d .nils]), .row 9 (List.map eGranaryref14Op y) true, .row 5 (List.map eApiLock [(ApiLock.mk p0.Tree (ApiSpan.mk y329 (y329 ++ ([0] : List UInt8)) false) true)]) true]⟩) ?_ ?_)
              · intro u1_392 h1
                refine sr (s1 (mv rfl) (s1 (len rfl rfl rfl (len_lst un28)) (s1 (bi rfl rfl q_i64_eql) (sn (cB h1 rfl (fun h1 => ?_) (fun h1 => ?_))))))
                · obtain ⟨_, hq393, h1⟩ := ob h1; have q := si h1; subst q
                  exact SC.region (s1 (far (k := 4) rfl fo26_4 ts3 rfl) (s1 (lod rfl (ld_box ts3 ta3 rfl rfl)) (s1 (mv rfl) (ca (σ' := [.box (.d (eApiTable p0)), .box (.d (.agg [.nils, .nils, .nils])), .box (.agg [.slc 4 9 0 ([(Granaryref14Op.mk (1 : Int) p0.Tree (ApiMsg.mk (0 : UInt64) (2 : Int) y329 (0 : UInt64) ([] : List UInt8) (0 : Int) (0 : UInt64)))].length) none, .slc 3 5 0 ([(ApiLock.mk p0.Tree (ApiSpan.mk y329 (y329 ++ ([0] : List UInt8)) false) true)].length) none, .d .nils]), .row 5 (List.map eApiLock [(ApiLock.mk p0.Tree (ApiSpan.mk y329 (y329 ++ ([0] : List UInt8)) false) true)]) true, .row 9 (List.map eGranaryref14Op [(Granaryref14Op.mk (1 : Int) p0.Tree (ApiMsg.mk (0 : UInt64) (2 : Int) y329 (0 : UInt64) ([] : List UInt8) (0 : Int) (0 : UInt64)))]) true]) [2, 3] (ref19_Work_op_ok p0.Tree (2 : Int) y329 ([] : List UInt8) [(ApiLock.mk p0.Tree (ApiSpan.mk y329 (y329 ++ ([0] : List UInt8)) false) true)] _ hq393) wf rfl rfl rfl cb40 rfl rfl rfl rfl rfl rfl (SO.nil ((wc [0, 1, 2, 4, 3] [0, 1, 2] (by kernel_rfl) rfl (by kernel_rfl))))))))
                · obtain ⟨r394, hq395, h1⟩ := ob h1; obtain ⟨_, hq396, h1⟩ := ob h1; have q := si h1; subst q
                  refine SC.draws (by kernel_rfl) (t1 ([], false) (far (k := 4) rfl fo26_4 ts3 rfl) rfl (t1 ([0], false) (lod rfl (ld_box ts3 ta3 rfl rfl)) rfl (t1 ([], false) (mv rfl) rfl (t1 ([], false) (mv rfl) rfl (tc0 (ref08_Bytes_ok p3 _ hq395) wf rfl rfl rfl cb18 rfl (fun _ => rfl) (fun _ => rfl) (ta' (σ' := [.box (.d (eApiTable p0)), .box (.d (.agg [.nils, .nils, .nils])), .box (.agg [.slc 4 9 0 ([(Granaryref14Op.mk (1 : Int) p0.Tree (ApiMsg.mk (0 : UInt64) (1 : Int) y329 (0 : UInt64) r394 (0 : Int) (0 : UInt64)))].length) none, .slc 3 5 0 ([(ApiLock.mk p0.Tree (ApiSpan.mk y329 (y329 ++ ([0] : List UInt8)) false) true)].length) none, .d .nils]), .row 5 (List.map eApiLock [(ApiLock.mk p0.Tree (ApiSpan.mk y329 (y329 ++ ([0] : List UInt8)) false) true)]) true, .row 9 (List.map eGranaryref14Op [(Granaryref14Op.mk (1 : Int) p0.Tree (ApiMsg.mk (0 : UInt64) (1 : Int) y329 (0 : UInt64) r394 (0 : Int) (0 : UInt64)))]) true]) [2, 3] ([2, 3, 4], true) (ref19_Work_op_ok p0.Tree (1 : Int) y329 r394 [(ApiLock.mk p0.Tree (ApiSpan.mk y329 (y329 ++ ([0] : List UInt8)) false) true)] _ hq396) wf rfl rfl rfl cb40 rfl rfl rfl rfl rfl rfl rfl (ST.nil (And.intro (by decide +kernel) ?_))))))))
                  exact (wc [0, 1, 2, 4, 3] [0, 1, 2] (by kernel_rfl) rfl (by kernel_rfl))
              · rintro y391 h0
                refine SC.seqP h0 (fun y => ⟨mk 121 [(8, .ref 0 0 0), (14, .ref 1 0 0)], [.box (.d (.agg [.nils, .nils, .nils])), .box (.agg [.slc 2 9 0 y.1.length none, .slc 3 5 0 y.2.1.length none, .slc 4 4 0 y.2.2.length none]), .row 9 (List.map eGranaryref14Op y.1) true, .row 5 (List.map eApiLock y.2.1) true, .row 4 (List.map eGranaryref19Probe y.2.2) true]⟩) ?_ ?_
                · intro u1_477 h1
                  obtain ⟨u2_531, h2, h1⟩ := ob h1
                  refine sr (s1 (asg rfl) (sn (SC.blk (SC.loopB h2 (fun y => ⟨mk 121 [(1, .d ((eL 2 eGranaryref19Built) p1)), (2, .d ((eL 3 eApiValue) p2)), (3, .d ((eL 3 eApiValue) p3)), (4, .ref 0 0 0), (8, .ref 1 0 0), (10, .d (eS y329)), (14, .ref 2 0 0), (15, .d (eI y.1))], [.box (.d (eApiTable p0)), .box (.d (.agg [.nils, .nils, .nils])), .box (.agg [.slc 3 9 0 y.2.1.length none, .slc 4 5 0 y.2.2.1.length none, .slc 5 4 0 y.2.2.2.length none]), .row 9 (List.map eGranaryref14Op y.2.1) true, .row 5 (List.map eApiLock y.2.2.1) true, .row 4 (List.map eGranaryref19Probe y.2.2.2) true]⟩) (Wk.trans (Wk.pushE (σ' := [.box (.d (eApiTable p0)), .box (.d (.agg [.nils, .nils, .nils])), .box (.agg [.slc 3 9 0 y391.length none, .slc 4 5 0 ([(ApiLock.mk p0.Tree (ApiSpan.mk y329 (y329 ++ ([0] : List UInt8)) false) true)].length) none, .d .nils]), .row 9 (List.map eGranaryref14Op y391) true, .row 5 (List.map eApiLock [(ApiLock.mk p0.Tree (ApiSpan.mk y329 (y329 ++ ([0] : List UInt8)) false) true)]) true, .row 4 (List.map eGranaryref19Probe ([] : List Granaryref19Probe)) true]) (.row 4 [] true) (fun _ hh => by cases hh) rfl) (Wk.trans (Wk.boxE (id := 2) (y := .agg [.slc 3 9 0 y391.length none, .slc 4 5 0 ([(ApiLock.mk p0.Tree (ApiSpan.mk y329 (y329 ++ ([0] : List UInt8)) false) true)].length) none, .slc 5 4 0 (([] : List Granaryref19Probe).length) none]) (σ' := [.box (.d (eApiTable p0)), .box (.d (.agg [.nils, .nils, .nils])), .box (.agg [.slc 3 9 0 y391.length none, .slc 4 5 0 ([(ApiLock.mk p0.Tree (ApiSpan.mk y329 (y329 ++ ([0] : List UInt8)) false) true)].length) none, .slc 5 4 0 (([] : List Granaryref19Probe).length) none]), .row 9 (List.map eGranaryref14Op y391) true, .row 5 (List.map eApiLock [(ApiLock.mk p0.Tree (ApiSpan.mk y329 (y329 ++ ([0] : List UInt8)) false) true)]) true, .row 4 (List.map eGranaryref19Probe ([] : List Granaryref19Probe)) true]) rfl (AWs.cons (AW.refl _) (AWs.cons (AW.refl _) (AWs.cons (AW.slcn _ _ _) AWs.nil))) rfl) (wq rfl))) ?_))))
                  intro n554
                  rintro ⟨y500, y501, y502, y503⟩ w2_530 h3 hv3
                  refine sq (sr (s1 (mv rfl) (s1 (far (k := 3) rfl fo26_3 ts24 rfl) (s1 (lod rfl (ld_box ts24 ta24 rfl rfl)) (s1 (len rfl rfl rfl (len_lst un24)) (s1 (bi rfl rfl q_i64_lss) (sn (cB h3 rfl (fun h3 => ?_) (fun h3 => ?_)))))))))
                  · refine sk (SC.seqP h3 (fun y => ⟨mk 121 [(1, .d ((eL 2 eGranaryref19Built) p1)), (2, .d ((eL 3 eApiValue) p2)), (3, .d ((eL 3 eApiValue) p3)), (4, .ref 0 0 0), (8, .ref 1 0 0), (10, .d (eS y329)), (14, .ref 2 0 0), (15, .d (eI y500))], [.box (.d (eApiTable p0)), .box (.d (.agg [.nils, .nils, .nils])), .box (.agg [.slc 3 9 0 y.1.length none, .slc 4 5 0 y.2.1.length none, .slc 5 4 0 y.2.2.length none]), .row 9 (List.map eGranaryref14Op y.1) true, .row 5 (List.map eApiLock y.2.1) true, .row 4 (List.map eGranaryref19Probe y.2.2) true]⟩) ?_ ?_)
                    · intro u4_544 h4
                      obtain ⟨v545, hv545, h4⟩ := ob h4; obtain ⟨v546, hv546, h4⟩ := ob h4; obtain ⟨r547, hq548, h4⟩ := ob h4
                      refine SC.blk (sd (by kernel_rfl) (t1 ([], false) (far (k := 3) rfl fo26_3 ts24 rfl) rfl (t1 ([0], false) (lod rfl (ld_box ts24 ta24 rfl rfl)) rfl (t1 ([], false) (mv rfl) rfl (t1 ([], false) (ial rfl rfl un24 ts82 (getI_some hv545).1 (map_get (getI_some hv545).2) rfl) rfl (t1 ([], false) (lod (v := .d (eApiIndex v545)) rfl (ld_rop ts82 ta82 rfl)) rfl (t1 ([], false) (mv rfl) rfl (t1 ([], false) (mv rfl) rfl (t1 ([], false) (ial rfl rfl un49 ts105 (getI_some hv546).1 (map_get (getI_some hv546).2) rfl) rfl ?_)))))))))
                      refine t1 ([], false) (lod (v := .d (eGranaryref19Built v546)) rfl (ld_rop ts105 ta105 rfl)) rfl (t1 ([], false) (mv rfl) rfl (tc0 (ref19_Kept_ok v545 v546 y329 _ hq548) wf rfl rfl rfl cb41 rfl (fun _ => rfl) (fun _ => rfl) (tn (by decide +kernel) (cB h4 rfl (fun h4 => ?_) (fun h4 => ?_)))))
                      · obtain ⟨v549, hv549, h4⟩ := ob h4; obtain ⟨⟨r550, r551, r552⟩, hq553, h4⟩ := ob h4; have q := si h4; subst q
                        refine SC.draws (by kernel_rfl) (t1 ([0], false) (lod (v := .d (eApiTable p0)) rfl (ld_box ts26 ta26 rfl rfl)) rfl (t1 ([], false) (far (k := 3) rfl fo26_3 ts24 rfl) rfl (t1 ([0], false) (lod rfl (ld_box ts24 ta24 rfl rfl)) rfl (t1 ([], false) (mv rfl) rfl (t1 ([], false) (ial rfl rfl un24 ts82 (getI_some hv549).1 (map_get (getI_some hv549).2) rfl) rfl (t1 ([], false) (lod (v := .d (eApiIndex v549)) rfl (ld_rop ts82 ta82 rfl)) rfl (t1 ([], false) (mv rfl) rfl (t1 ([], false) (mv rfl) rfl (ta' (σ' := [.box (.d (eApiTable p0)), .box (.d (.agg [.nils, .nils, .nils])), .box (.agg [.slc 6 9 0 r550.length none, .slc 7 5 0 r551.length none, .slc 8 4 0 r552.length none]), .dead, .dead, .dead, .row 9 (List.map eGranaryref14Op r550) true, .row 5 (List.map eApiLock r551) true, .row 4 (List.map eGranaryref19Probe r552) true]) [2, 3, 4, 5] ([2, 3, 4, 5, 6, 7, 8], true) (ref19_Work_index_1_ok p0 v549 p2 p3 y501 y502 y503 _ hq553) wf rfl rfl rfl cb42 rfl rfl rfl rfl rfl rfl rfl ?_)))))))))
                        refine ST.nil (And.intro (by decide +kernel) ?_)
                        exact (wc [0, 1, 2, 6, 7, 8] [0, 1, 2] (by kernel_rfl) rfl (by kernel_rfl))
                      · have q := si h4; subst q
                        exact SC.skip ((wq rfl))
                    · rintro ⟨y541, y542, y543⟩ h3
                      have q := si h3; subst q
                      exact SC.region (s1 (mv rfl) (s1 (bi rfl rfl q_i64_add) (s1 (asg rfl) (SO.nil (lf (wq rfl))))))
                  · have q := si h3; subst q; have q : _ = _ := hv3; subst q; have q := si h1; subst q
                    exact SC.exit ((wc [1, 2, 3, 4, 5] [1, 2] (by kernel_rfl) rfl (by kernel_rfl)))
                · rintro ⟨y474, y475, y476⟩ h0
                  have q := si h0; subst q
                  exact sr (s1 (lod (v := .agg [.slc 2 9 0 y474.length none, .slc 3 5 0 y475.length none, .slc 4 4 0 y476.length none]) rfl (ld_box ts46 ta46 rfl rfl)) (s0 (sto rfl rfl (sB (d' := .agg [.slc 2 9 0 y474.length none, .slc 3 5 0 y475.length none, .slc 4 4 0 y476.length none]) ts46 rfl rfl rfl rfl rfl rfl rfl)) (s1 (asg rfl) (sn (SC.ret (finR (wc (e' := [(8, .ref 0 0 0), (9, .d (eI (0 : Int)))]) [0, 2, 3, 4] [0] (by kernel_rfl) rfl (by kernel_rfl)) (lresC rfl (ld_box ts46 ta46 rfl rfl) (lresT rfl lresN)) rfl))))))

/-- granary/granaryraw.Locks -/
noncomputable def raw_Locks (p0 : List ApiLock) (p1 : List ApiLock) : Option Bool :=
  bif ((p0.length : Int) != (p1.length : Int)) then
    some false
  else
    bindE (Y := Unit) (E := Bool)
      (Option.bind (α := Unit ⊕ Bool)
        (loop (Y := Int) (W := Unit ⊕ Bool) (fun y39 =>
          bif (decide (y39 < (p0.length : Int))) then
            Option.bind (getI p0 y39) fun v45 =>
            Option.bind (getI p1 y39) fun v46 =>
            bif (!(eqApiLock v45 v46)) then
              some (Sum.inr (Sum.inr false))
            else
              some (Sum.inl (w64 (y39 + (1 : Int))))
          else
            some (Sum.inr (Sum.inl ()))) (0 : Int))
        (Sum.elim (fun e => some (Sum.inl e)) (fun e => some (Sum.inr e))))
      (fun _ =>
        some true)
      (fun e => some e)
theorem raw_Locks_ok (p0 : List ApiLock) (p1 : List ApiLock) (r : Bool) (h0 : raw_Locks p0 p1 = some r) : CallAt Tryz.prog 43 [.d ((eL 5 eApiLock) p0), .d ((eL 5 eApiLock) p1)] [] (.d (eB r)) [] := by
  unfold raw_Locks at h0
  refine fn0 [0, 1] Tryz.func43 rfl rfl rfl rfl rfl ?_
  refine sr (s1 (asg rfl) (sn (sq (sr (s1 (mv rfl) (s1 (len rfl rfl rfl (len_lst un37)) (s1 (mv rfl) (s1 (len rfl rfl rfl (len_lst un37)) (s1 (bi rfl rfl q_i64_neq) ?_)))))))))
  refine sn (cB h0 rfl (fun h0 => ?_) (fun h0 => ?_))
  · have q := si h0; subst q
    exact sr (s1 (asg rfl) (sn (SC.ret (finR (Wk.refl _) (lresT rfl lresN) rfl))))
  · refine sk (SC.seqB h0 (fun y => ⟨mk 26 [], []⟩) ?_ ?_)
    · intro u1_36 h1 h0
      obtain ⟨u2_44, h2, h1⟩ := ob h1
      refine sr (s1 (asg rfl) (sn (SC.blk (SC.loopB h2 (fun y => ⟨mk 26 [(0, .d ((eL 5 eApiLock) p0)), (1, .d ((eL 5 eApiLock) p1)), (5, .d (eI y))], []⟩) (wq rfl) ?_))))
      intro n47
      rintro y39 w2_43 h3 hv3
      refine sq (sr (s1 (mv rfl) (s1 (mv rfl) (s1 (len rfl rfl rfl (len_lst un37)) (s1 (bi rfl rfl q_i64_lss) (sn (cB h3 rfl (fun h3 => ?_) (fun h3 => ?_))))))))
      · obtain ⟨v45, hv45, h3⟩ := ob h3; obtain ⟨v46, hv46, h3⟩ := ob h3
        refine sk (sq (SC.blk (sd (by kernel_rfl) (t1 ([], false) (mv rfl) rfl (t1 ([], false) (mv rfl) rfl (t1 ([], false) (ial rfl rfl un37 ts137 (getI_some hv45).1 (map_get (getI_some hv45).2) rfl) rfl (t1 ([], false) (lod (v := .d (eApiLock v45)) rfl (ld_rop ts137 ta137 rfl)) rfl (t1 ([], false) (mv rfl) rfl (t1 ([], false) (mv rfl) rfl ?_)))))))))
        refine t1 ([], false) (ial rfl rfl un37 ts137 (getI_some hv46).1 (map_get (getI_some hv46).2) rfl) rfl (t1 ([], false) (lod (v := .d (eApiLock v46)) rfl (ld_rop ts137 ta137 rfl)) rfl (t1 ([], false) (bi (v := .d (eB (!(eqApiLock v45 v46)))) rfl rfl (fun X Y => eqApiLock_neq_137 X Y v45 v46)) rfl (tn (by decide +kernel) (cB h3 rfl (fun h3 => ?_) (fun h3 => ?_)))))
        · have q := si h3; subst q; have q : _ = _ := hv3; subst q; have q := si h1; subst q; have q := si h0; subst q
          exact sr (s1 (asg rfl) (sn (SC.ret (finR (Wk.refl _) (lresT rfl lresN) rfl))))
        · refine SC.skip ?_
          change SC _ _ _ _ _
          have q := si h3; subst q
          exact SC.region (s1 (mv rfl) (s1 (bi rfl rfl q_i64_add) (s1 (asg rfl) (SO.nil (lf (wq rfl))))))
      · have q := si h3; subst q; have q : _ = _ := hv3; subst q; have q := si h1; subst q
        exact SC.exit (lf (wq rfl))
    · intro _ h0
      have q := si h0; subst q
      exact sr (s1 (asg rfl) (sn (SC.ret (finR (Wk.refl _) (lresT rfl lresN) rfl))))

/-- granary/granarylaw19.same -/
noncomputable def law19_same (p0 : FanWork) (p1 : Granaryref19Work) : Option Bool :=
  Option.bind (α := Bool)
    (bif ((p0.Ops.length : Int) != (p1.Ops.length : Int)) then
      some true
    else
      Option.bind (raw_Locks p0.Locks p1.Locks) fun r178 =>
      bif (!r178) then
        some true
      else
        some ((p0.Probes.length : Int) != (p1.Probes.length : Int)))
    fun y176 =>
  bif y176 then
    some false
  else
    bindE (Y := Unit) (E := Bool)
      (Option.bind (α := Unit ⊕ Bool)
        (loop (Y := Int) (W := Unit ⊕ Bool) (fun y242 =>
          bif (decide (y242 < (p0.Ops.length : Int))) then
            Option.bind (α := Bool)
              (Option.bind (getI p0.Ops y242) fun v268 =>
              Option.bind (getI p1.Ops y242) fun v269 =>
              bif (v268.Kind != v269.Kind) then
                some true
              else
                Option.bind (getI p0.Ops y242) fun v270 =>
                Option.bind (getI p1.Ops y242) fun v271 =>
                bif (v270.Tree != v271.Tree) then
                  some true
                else
                  Option.bind (getI p0.Ops y242) fun v272 =>
                  Option.bind (getI p1.Ops y242) fun v273 =>
                  some (!(eqApiMsg v272.Msg v273.Msg)))
              fun y266 =>
            bif y266 then
              some (Sum.inr (Sum.inr false))
            else
              some (Sum.inl (w64 (y242 + (1 : Int))))
          else
            some (Sum.inr (Sum.inl ()))) (0 : Int))
        (Sum.elim (fun e => some (Sum.inl e)) (fun e => some (Sum.inr e))))
      (fun _ =>
        bindE (Y := Unit) (E := Bool)
          (Option.bind (α := Unit ⊕ Bool)
            (loop (Y := Int) (W := Unit ⊕ Bool) (fun y321 =>
              bif (decide (y321 < (p0.Probes.length : Int))) then
                Option.bind (α := Bool)
                  (Option.bind (getI p0.Probes y321) fun v341 =>
                  Option.bind (getI p1.Probes y321) fun v342 =>
                  bif (v341.Tree != v342.Tree) then
                    some true
                  else
                    Option.bind (getI p0.Probes y321) fun v343 =>
                    Option.bind (getI p1.Probes y321) fun v344 =>
                    some (!(eqApiSpan v343.Span v344.Span)))
                  fun y339 =>
                bif y339 then
                  some (Sum.inr (Sum.inr false))
                else
                  some (Sum.inl (w64 (y321 + (1 : Int))))
              else
                some (Sum.inr (Sum.inl ()))) (0 : Int))
            (Sum.elim (fun e => some (Sum.inl e)) (fun e => some (Sum.inr e))))
          (fun _ =>
            some true)
          (fun e => some e))
      (fun e => some e)
theorem law19_same_ok (p0 : FanWork) (p1 : Granaryref19Work) (r : Bool) (h0 : law19_same p0 p1 = some r) : CallAt Tryz.prog 13 [.d (eFanWork p0), .d (eGranaryref19Work p1)] [] (.d (eB r)) [] := by
  unfold law19_same at h0
  refine fn0 [0, 1] Tryz.func13 rfl rfl rfl rfl rfl ?_
  refine sr (s1 (bxo (k := 0) rfl rfl rfl) (s1 (bxo (k := 1) rfl rfl rfl) (s1 (asg rfl) (sn (sq (SC.seqP h0 (fun y => ⟨mk 116 [(2, .ref 0 0 0), (3, .ref 1 0 0), (30, .d (eB y))], [.box (.d (eFanWork p0)), .box (.d (eGranaryref19Work p1))]⟩) ?_ ?_))))))
  · intro u1_177 h1
    refine SC.region (s1 (far (k := 0) rfl fo40_0 ts36 rfl) (s1 (lod rfl (ld_box ts36 ta36 rfl rfl)) (s1 (len rfl rfl rfl (len_lst un36)) (s1 (far (k := 0) rfl fo46_0 ts43 rfl) (s1 (lod rfl (ld_box ts43 ta43 rfl rfl)) (s1 (len rfl rfl rfl (len_lst un43)) (s1 (bi rfl rfl q_i64_neq) (s1 (mv rfl) (sp h1 (fun h1 => ?_) (fun h1 => ?_))))))))))
    · have q := si h1; subst q
      refine k1 (wb rfl rfl rfl) (k1 (wb rfl rfl rfl) (k1 (wb rfl rfl rfl) (k1 (wb rfl rfl rfl) (k1 (wb rfl rfl rfl) (k1 (wb rfl rfl rfl) (s1 (pkt rfl rfl) (s1 (mv rfl) (k1 (wb rfl rfl rfl) (k1 (wb rfl rfl rfl) ?_)))))))))
      exact k1 (wb rfl rfl rfl) (k1 (wb rfl rfl rfl) (k1 (wb rfl rfl rfl) (k1 (wb rfl rfl rfl) (k1 (wb rfl rfl rfl) (s1 (pkt rfl rfl) (SO.nil ((wq rfl))))))))
    · obtain ⟨r178, hq179, h1⟩ := ob h1
      refine g1 (wb rfl rfl rfl) (far (k := 1) rfl fo40_1 ts37 rfl) (g1 (wb rfl rfl rfl) (lod rfl (ld_box ts37 ta37 rfl rfl)) (g1 (wb rfl rfl rfl) (far (k := 1) rfl fo46_1 ts37 rfl) (g1 (wb rfl rfl rfl) (lod rfl (ld_box ts37 ta37 rfl rfl)) (c0 (raw_Locks_ok p0.Locks p1.Locks _ hq179) (wb rfl rfl rfl) rfl rfl rfl cb43 rfl (fun _ => rfl) (fun _ => rfl) (g1 (wb rfl rfl rfl) (nt rfl) (s1 (pkf rfl rfl) (s1 (mv rfl) (sp h1 (fun h1 => ?_) (fun h1 => ?_)))))))))
      · have q := si h1; subst q
        exact k1 (wb rfl rfl rfl) (k1 (wb rfl rfl rfl) (k1 (wb rfl rfl rfl) (k1 (wb rfl rfl rfl) (k1 (wb rfl rfl rfl) (k1 (wb rfl rfl rfl) (k1 (wb rfl rfl rfl) (s1 (pkt rfl rfl) (SO.nil ((wq rfl))))))))))
      · have q := si h1; subst q
        exact g1 (wb rfl rfl rfl) (far (k := 2) rfl fo40_2 ts38 rfl) (g1 (wb rfl rfl rfl) (lod rfl (ld_box ts38 ta38 rfl rfl)) (g1 (wb rfl rfl rfl) (len rfl rfl rfl (len_lst un38)) (g1 (wb rfl rfl rfl) (far (k := 2) rfl fo46_2 ts44 rfl) (g1 (wb rfl rfl rfl) (lod rfl (ld_box ts44 ta44 rfl rfl)) (g1 (wb rfl rfl rfl) (len rfl rfl rfl (len_lst un44)) (g1 (wb rfl rfl rfl) (bi rfl rfl q_i64_neq) (s1 (pkf rfl rfl) (SO.nil ((wq rfl))))))))))
  · rintro y176 h0
    refine cB h0 rfl (fun h0 => ?_) (fun h0 => ?_)
    · have q := si h0; subst q
      exact sr (s1 (asg rfl) (sn (SC.ret (finR (wc (e' := [(4, .d (eB false))]) [] [] (by kernel_rfl) rfl (by kernel_rfl)) (lresT rfl lresN) rfl))))
    · refine sk (SC.seqB h0 (fun y => ⟨mk 116 [(2, .ref 0 0 0), (3, .ref 1 0 0)], [.box (.d (eFanWork p0)), .box (.d (eGranaryref19Work p1))]⟩) ?_ ?_)
      · intro u1_227 h1 h0
        obtain ⟨u2_259, h2, h1⟩ := ob h1
        refine sr (s1 (asg rfl) (sn (SC.blk (SC.loopB h2 (fun y => ⟨mk 116 [(2, .ref 0 0 0), (3, .ref 1 0 0), (5, .d (eI y))], [.box (.d (eFanWork p0)), .box (.d (eGranaryref19Work p1))]⟩) (wq rfl) ?_))))
        intro n274
        rintro y242 w2_258 h3 hv3
        refine sq (sr (s1 (mv rfl) (s1 (far (k := 0) rfl fo40_0 ts36 rfl) (s1 (lod rfl (ld_box ts36 ta36 rfl rfl)) (s1 (len rfl rfl rfl (len_lst un36)) (s1 (bi rfl rfl q_i64_lss) (sn (cB h3 rfl (fun h3 => ?_) (fun h3 => ?_)))))))))
        · refine sk (sq (SC.blk (SC.seqP h3 (fun y => ⟨mk 116 [(2, .ref 0 0 0), (3, .ref 1 0 0), (5, .d (eI y242)), (80, .d (eB y))], [.box (.d (eFanWork p0)), .box (.d (eGranaryref19Work p1))]⟩) ?_ ?_)))
          · intro u4_267 h4
            obtain ⟨v268, hv268, h4⟩ := ob h4; obtain ⟨v269, hv269, h4⟩ := ob h4
            refine SC.draws (by kernel_rfl) (t1 ([], false) (far (k := 0) rfl fo40_0 ts36 rfl) rfl (t1 ([0], false) (lod rfl (ld_box ts36 ta36 rfl rfl)) rfl (t1 ([], false) (mv rfl) rfl (t1 ([], false) (ial rfl rfl un36 ts65 (getI_some hv268).1 (map_get (getI_some hv268).2) rfl) rfl (t1 ([], false) (fap rfl fo65_0 ts3 rfl) rfl (t1 ([], false) (lod rfl (ld_rop ts3 ta3 rfl)) rfl (t1 ([], false) (far (k := 0) rfl fo46_0 ts43 rfl) rfl (t1 ([1], false) (lod rfl (ld_box ts43 ta43 rfl rfl)) rfl (t1 ([], false) (mv rfl) rfl ?_)))))))))
            refine t1 ([], false) (ial rfl rfl un43 ts108 (getI_some hv269).1 (map_get (getI_some hv269).2) rfl) rfl (t1 ([], false) (fap rfl fo108_0 ts3 rfl) rfl (t1 ([], false) (lod rfl (ld_rop ts3 ta3 rfl)) rfl (t1 ([], false) (bi rfl rfl q_i64_neq) rfl (t1 ([], false) (mv rfl) rfl (tp h4 (fun h4 => ?_) (fun h4 => ?_))))))
            · have q := si h4; subst q
              refine j1 (wb rfl rfl rfl) (j1 (wb rfl rfl rfl) (j1 (wb rfl rfl rfl) (j1 (wb rfl rfl rfl) (j1 (wb rfl rfl rfl) (j1 (wb rfl rfl rfl) (j1 (wb rfl rfl rfl) (j1 (wb rfl rfl rfl) (j1 (wb rfl rfl rfl) (j1 (wb rfl rfl rfl) ?_)))))))))
              refine j1 (wb rfl rfl rfl) (j1 (wb rfl rfl rfl) (j1 (wb rfl rfl rfl) (t1 ([], false) (pkt rfl rfl) rfl (t1 ([], false) (mv rfl) rfl (j1 (wb rfl rfl rfl) (j1 (wb rfl rfl rfl) (j1 (wb rfl rfl rfl) (j1 (wb rfl rfl rfl) (j1 (wb rfl rfl rfl) ?_)))))))))
              refine j1 (wb rfl rfl rfl) (j1 (wb rfl rfl rfl) (j1 (wb rfl rfl rfl) (j1 (wb rfl rfl rfl) (j1 (wb rfl rfl rfl) (j1 (wb rfl rfl rfl) (j1 (wb rfl rfl rfl) (j1 (wb rfl rfl rfl) (t1 ([], false) (pkt rfl rfl) rfl (ST.nil (And.intro (by decide +kernel) ?_))))))))))
              exact (wq rfl)
            · obtain ⟨v270, hv270, h4⟩ := ob h4; obtain ⟨v271, hv271, h4⟩ := ob h4
              refine u1 ([], false) (wb rfl rfl rfl) (far (k := 0) rfl fo40_0 ts36 rfl) rfl (u1 ([0], false) (wb rfl rfl rfl) (lod rfl (ld_box ts36 ta36 rfl rfl)) rfl (u1 ([], false) (wb rfl rfl rfl) (mv rfl) rfl (u1 ([], false) (wb rfl rfl rfl) (ial rfl rfl un36 ts65 (getI_some hv270).1 (map_get (getI_some hv270).2) rfl) rfl (u1 ([], false) (wb rfl rfl rfl) (fap rfl fo65_1 ts3 rfl) rfl (u1 ([], false) (wb rfl rfl rfl) (lod rfl (ld_rop ts3 ta3 rfl)) rfl (u1 ([], false) (wb rfl rfl rfl) (far (k := 0) rfl fo46_0 ts43 rfl) rfl (u1 ([1], false) (wb rfl rfl rfl) (lod rfl (ld_box ts43 ta43 rfl rfl)) rfl (u1 ([], false) (wb rfl rfl rfl) (mv rfl) rfl (u1 ([], false) (wb rfl rfl rfl) (ial rfl rfl un43 ts108 (getI_some hv271).1 (map_get (getI_some hv271).2) rfl) rfl ?_)))))))))
              refine u1 ([], false) (wb rfl rfl rfl) (fap rfl fo108_1 ts3 rfl) rfl (u1 ([], false) (wb rfl rfl rfl) (lod rfl (ld_rop ts3 ta3 rfl)) rfl (u1 ([], false) (wb rfl rfl rfl) (bi rfl rfl q_i64_neq) rfl (t1 ([], false) (pkf rfl rfl) rfl (t1 ([], false) (mv rfl) rfl (tp h4 (fun h4 => ?_) (fun h4 => ?_))))))
              · have q := si h4; subst q
                refine j1 (wb rfl rfl rfl) (j1 (wb rfl rfl rfl) (j1 (wb rfl rfl rfl) (j1 (wb rfl rfl rfl) (j1 (wb rfl rfl rfl) (j1 (wb rfl rfl rfl) (j1 (wb rfl rfl rfl) (j1 (wb rfl rfl rfl) (j1 (wb rfl rfl rfl) (j1 (wb rfl rfl rfl) ?_)))))))))
                refine j1 (wb rfl rfl rfl) (j1 (wb rfl rfl rfl) (j1 (wb rfl rfl rfl) (t1 ([], false) (pkt rfl rfl) rfl (ST.nil (And.intro (by decide +kernel) ?_)))))
                exact (wq rfl)
              · obtain ⟨v272, hv272, h4⟩ := ob h4; obtain ⟨v273, hv273, h4⟩ := ob h4; have q := si h4; subst q
                refine u1 ([], false) (wb rfl rfl rfl) (far (k := 0) rfl fo40_0 ts36 rfl) rfl (u1 ([0], false) (wb rfl rfl rfl) (lod rfl (ld_box ts36 ta36 rfl rfl)) rfl (u1 ([], false) (wb rfl rfl rfl) (mv rfl) rfl (u1 ([], false) (wb rfl rfl rfl) (ial rfl rfl un36 ts65 (getI_some hv272).1 (map_get (getI_some hv272).2) rfl) rfl (u1 ([], false) (wb rfl rfl rfl) (fap rfl fo65_2 ts63 rfl) rfl (u1 ([], false) (wb rfl rfl rfl) (lod (v := .d (eApiMsg v272.Msg)) rfl (ld_rop ts63 ta63 rfl)) rfl (u1 ([], false) (wb rfl rfl rfl) (far (k := 0) rfl fo46_0 ts43 rfl) rfl (u1 ([1], false) (wb rfl rfl rfl) (lod rfl (ld_box ts43 ta43 rfl rfl)) rfl (u1 ([], false) (wb rfl rfl rfl) (mv rfl) rfl (u1 ([], false) (wb rfl rfl rfl) (ial rfl rfl un43 ts108 (getI_some hv273).1 (map_get (getI_some hv273).2) rfl) rfl ?_)))))))))
                refine u1 ([], false) (wb rfl rfl rfl) (fap rfl fo108_2 ts63 rfl) rfl (u1 ([], false) (wb rfl rfl rfl) (lod (v := .d (eApiMsg v273.Msg)) rfl (ld_rop ts63 ta63 rfl)) rfl (u1 ([], false) (wb rfl rfl rfl) (bi (v := .d (eB (!(eqApiMsg v272.Msg v273.Msg)))) rfl rfl (fun X Y => eqApiMsg_neq_63 X Y v272.Msg v273.Msg)) rfl (t1 ([], false) (pkf rfl rfl) rfl (ST.nil (And.intro (by decide +kernel) ?_)))))
                exact (wq rfl)
          · rintro y266 h3
            refine cB h3 rfl (fun h3 => ?_) (fun h3 => ?_)
            · have q := si h3; subst q; have q : _ = _ := hv3; subst q; have q := si h1; subst q; have q := si h0; subst q
              exact sr (s1 (asg rfl) (sn (SC.ret (finR (wc (e' := [(4, .d (eB false))]) [] [] (by kernel_rfl) rfl (by kernel_rfl)) (lresT rfl lresN) rfl))))
            · refine SC.skip ?_
              change SC _ _ _ _ _
              have q := si h3; subst q
              exact SC.region (s1 (mv rfl) (s1 (bi rfl rfl q_i64_add) (s1 (asg rfl) (SO.nil (lf (wq rfl))))))
        · have q := si h3; subst q; have q : _ = _ := hv3; subst q; have q := si h1; subst q
          exact SC.exit (lf (wq rfl))
      · intro _ h0
        refine SC.seqB h0 (fun y => ⟨mk 116 [], []⟩) ?_ ?_
        · intro u1_310 h1 h0
          obtain ⟨u2_334, h2, h1⟩ := ob h1
          refine sr (s1 (asg rfl) (sn (SC.blk (SC.loopB h2 (fun y => ⟨mk 116 [(2, .ref 0 0 0), (3, .ref 1 0 0), (6, .d (eI y))], [.box (.d (eFanWork p0)), .box (.d (eGranaryref19Work p1))]⟩) (wq rfl) ?_))))
          intro n345
          rintro y321 w2_333 h3 hv3
          refine sq (sr (s1 (mv rfl) (s1 (far (k := 2) rfl fo40_2 ts38 rfl) (s1 (lod rfl (ld_box ts38 ta38 rfl rfl)) (s1 (len rfl rfl rfl (len_lst un38)) (s1 (bi rfl rfl q_i64_lss) (sn (cB h3 rfl (fun h3 => ?_) (fun h3 => ?_)))))))))
          · refine sk (sq (SC.blk (SC.seqP h3 (fun y => ⟨mk 116 [(2, .ref 0 0 0), (3, .ref 1 0 0), (6, .d (eI y321)), (115, .d (eB y))], [.box (.d (eFanWork p0)), .box (.d (eGranaryref19Work p1))]⟩) ?_ ?_)))
            · intro u4_340 h4
              obtain ⟨v341, hv341, h4⟩ := ob h4; obtain ⟨v342, hv342, h4⟩ := ob h4
              refine SC.draws (by kernel_rfl) (t1 ([], false) (far (k := 2) rfl fo40_2 ts38 rfl) rfl (t1 ([0], false) (lod rfl (ld_box ts38 ta38 rfl rfl)) rfl (t1 ([], false) (mv rfl) rfl (t1 ([], false) (ial rfl rfl un38 ts110 (getI_some hv341).1 (map_get (getI_some hv341).2) rfl) rfl (t1 ([], false) (fap rfl fo110_0 ts3 rfl) rfl (t1 ([], false) (lod rfl (ld_rop ts3 ta3 rfl)) rfl (t1 ([], false) (far (k := 2) rfl fo46_2 ts44 rfl) rfl (t1 ([1], false) (lod rfl (ld_box ts44 ta44 rfl rfl)) rfl (t1 ([], false) (mv rfl) rfl ?_)))))))))
              refine t1 ([], false) (ial rfl rfl un44 ts111 (getI_some hv342).1 (map_get (getI_some hv342).2) rfl) rfl (t1 ([], false) (fap rfl fo111_0 ts3 rfl) rfl (t1 ([], false) (lod rfl (ld_rop ts3 ta3 rfl)) rfl (t1 ([], false) (bi rfl rfl q_i64_neq) rfl (t1 ([], false) (mv rfl) rfl (tp h4 (fun h4 => ?_) (fun h4 => ?_))))))
              · have q := si h4; subst q
                refine j1 (wb rfl rfl rfl) (j1 (wb rfl rfl rfl) (j1 (wb rfl rfl rfl) (j1 (wb rfl rfl rfl) (j1 (wb rfl rfl rfl) (j1 (wb rfl rfl rfl) (j1 (wb rfl rfl rfl) (j1 (wb rfl rfl rfl) (j1 (wb rfl rfl rfl) (j1 (wb rfl rfl rfl) ?_)))))))))
                refine j1 (wb rfl rfl rfl) (j1 (wb rfl rfl rfl) (j1 (wb rfl rfl rfl) (t1 ([], false) (pkt rfl rfl) rfl (ST.nil (And.intro (by decide +kernel) ?_)))))
                exact (wq rfl)
              · obtain ⟨v343, hv343, h4⟩ := ob h4; obtain ⟨v344, hv344, h4⟩ := ob h4; have q := si h4; subst q
                refine u1 ([], false) (wb rfl rfl rfl) (far (k := 2) rfl fo40_2 ts38 rfl) rfl (u1 ([0], false) (wb rfl rfl rfl) (lod rfl (ld_box ts38 ta38 rfl rfl)) rfl (u1 ([], false) (wb rfl rfl rfl) (mv rfl) rfl (u1 ([], false) (wb rfl rfl rfl) (ial rfl rfl un38 ts110 (getI_some hv343).1 (map_get (getI_some hv343).2) rfl) rfl (u1 ([], false) (wb rfl rfl rfl) (fap rfl fo110_1 ts31 rfl) rfl (u1 ([], false) (wb rfl rfl rfl) (lod (v := .d (eApiSpan v343.Span)) rfl (ld_rop ts31 ta31 rfl)) rfl (u1 ([], false) (wb rfl rfl rfl) (far (k := 2) rfl fo46_2 ts44 rfl) rfl (u1 ([1], false) (wb rfl rfl rfl) (lod rfl (ld_box ts44 ta44 rfl rfl)) rfl (u1 ([], false) (wb rfl rfl rfl) (mv rfl) rfl (u1 ([], false) (wb rfl rfl rfl) (ial rfl rfl un44 ts111 (getI_some hv344).1 (map_get (getI_some hv344).2) rfl) rfl ?_)))))))))
                refine u1 ([], false) (wb rfl rfl rfl) (fap rfl fo111_1 ts31 rfl) rfl (u1 ([], false) (wb rfl rfl rfl) (lod (v := .d (eApiSpan v344.Span)) rfl (ld_rop ts31 ta31 rfl)) rfl (u1 ([], false) (wb rfl rfl rfl) (bi (v := .d (eB (!(eqApiSpan v343.Span v344.Span)))) rfl rfl (fun X Y => eqApiSpan_neq_31 X Y v343.Span v344.Span)) rfl (t1 ([], false) (pkf rfl rfl) rfl (ST.nil (And.intro (by decide +kernel) ?_)))))
                exact (wq rfl)
            · rintro y339 h3
              refine cB h3 rfl (fun h3 => ?_) (fun h3 => ?_)
              · have q := si h3; subst q; have q : _ = _ := hv3; subst q; have q := si h1; subst q; have q := si h0; subst q
                exact sr (s1 (asg rfl) (sn (SC.ret (finR (wc (e' := [(4, .d (eB false))]) [] [] (by kernel_rfl) rfl (by kernel_rfl)) (lresT rfl lresN) rfl))))
              · refine SC.skip ?_
                change SC _ _ _ _ _
                have q := si h3; subst q
                exact SC.region (s1 (mv rfl) (s1 (bi rfl rfl q_i64_add) (s1 (asg rfl) (SO.nil (lf (wq rfl))))))
          · have q := si h3; subst q; have q : _ = _ := hv3; subst q; have q := si h1; subst q
            exact SC.exit (lf (wc [] [] (by kernel_rfl) rfl (by kernel_rfl)))
        · intro _ h0
          have q := si h0; subst q
          exact sr (s1 (asg rfl) (sn (SC.ret (finR (Wk.refl _) (lresT rfl lresN) rfl))))

/-- granary/granaryraw.Ints -/
noncomputable def raw_Ints (p0 : List Int) (p1 : List Int) : Option Bool :=
  bif ((p0.length : Int) != (p1.length : Int)) then
    some false
  else
    bindE (Y := Unit) (E := Bool)
      (Option.bind (α := Unit ⊕ Bool)
        (loop (Y := Int) (W := Unit ⊕ Bool) (fun y39 =>
          bif (decide (y39 < (p0.length : Int))) then
            Option.bind (getI p0 y39) fun v45 =>
            Option.bind (getI p1 y39) fun v46 =>
            bif (v45 != v46) then
              some (Sum.inr (Sum.inr false))
            else
              some (Sum.inl (w64 (y39 + (1 : Int))))
          else
            some (Sum.inr (Sum.inl ()))) (0 : Int))
        (Sum.elim (fun e => some (Sum.inl e)) (fun e => some (Sum.inr e))))
      (fun _ =>
        some true)
      (fun e => some e)
theorem raw_Ints_ok (p0 : List Int) (p1 : List Int) (r : Bool) (h0 : raw_Ints p0 p1 = some r) : CallAt Tryz.prog 44 [.d ((eL 1 eI) p0), .d ((eL 1 eI) p1)] [] (.d (eB r)) [] := by
  unfold raw_Ints at h0
  refine fn0 [0, 1] Tryz.func44 rfl rfl rfl rfl rfl ?_
  refine sr (s1 (asg rfl) (sn (sq (sr (s1 (mv rfl) (s1 (len rfl rfl rfl (len_lst un23)) (s1 (mv rfl) (s1 (len rfl rfl rfl (len_lst un23)) (s1 (bi rfl rfl q_i64_neq) ?_)))))))))
  refine sn (cB h0 rfl (fun h0 => ?_) (fun h0 => ?_))
  · have q := si h0; subst q
    exact sr (s1 (asg rfl) (sn (SC.ret (finR (Wk.refl _) (lresT rfl lresN) rfl))))
  · refine sk (SC.seqB h0 (fun y => ⟨mk 26 [], []⟩) ?_ ?_)
    · intro u1_36 h1 h0
      obtain ⟨u2_44, h2, h1⟩ := ob h1
      refine sr (s1 (asg rfl) (sn (SC.blk (SC.loopB h2 (fun y => ⟨mk 26 [(0, .d ((eL 1 eI) p0)), (1, .d ((eL 1 eI) p1)), (5, .d (eI y))], []⟩) (wq rfl) ?_))))
      intro n47
      rintro y39 w2_43 h3 hv3
      refine sq (sr (s1 (mv rfl) (s1 (mv rfl) (s1 (len rfl rfl rfl (len_lst un23)) (s1 (bi rfl rfl q_i64_lss) (sn (cB h3 rfl (fun h3 => ?_) (fun h3 => ?_))))))))
      · obtain ⟨v45, hv45, h3⟩ := ob h3; obtain ⟨v46, hv46, h3⟩ := ob h3
        refine sk (sq (SC.blk (sd (by kernel_rfl) (t1 ([], false) (mv rfl) rfl (t1 ([], false) (mv rfl) rfl (t1 ([], false) (ial rfl rfl un23 ts3 (getI_some hv45).1 (map_get (getI_some hv45).2) rfl) rfl (t1 ([], false) (lod rfl (ld_rop ts3 ta3 rfl)) rfl (t1 ([], false) (mv rfl) rfl (t1 ([], false) (mv rfl) rfl ?_)))))))))
        refine t1 ([], false) (ial rfl rfl un23 ts3 (getI_some hv46).1 (map_get (getI_some hv46).2) rfl) rfl (t1 ([], false) (lod rfl (ld_rop ts3 ta3 rfl)) rfl (t1 ([], false) (bi rfl rfl q_i64_neq) rfl (tn (by decide +kernel) (cB h3 rfl (fun h3 => ?_) (fun h3 => ?_)))))
        · have q := si h3; subst q; have q : _ = _ := hv3; subst q; have q := si h1; subst q; have q := si h0; subst q
          exact sr (s1 (asg rfl) (sn (SC.ret (finR (Wk.refl _) (lresT rfl lresN) rfl))))
        · refine SC.skip ?_
          change SC _ _ _ _ _
          have q := si h3; subst q
          exact SC.region (s1 (mv rfl) (s1 (bi rfl rfl q_i64_add) (s1 (asg rfl) (SO.nil (lf (wq rfl))))))
      · have q := si h3; subst q; have q : _ = _ := hv3; subst q; have q := si h1; subst q
        exact SC.exit (lf (wq rfl))
    · intro _ h0
      have q := si h0; subst q
      exact sr (s1 (asg rfl) (sn (SC.ret (finR (Wk.refl _) (lresT rfl lresN) rfl))))
end Lv
