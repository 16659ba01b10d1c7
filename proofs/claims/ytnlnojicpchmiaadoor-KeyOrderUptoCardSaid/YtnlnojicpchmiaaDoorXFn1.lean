/- Part of the proof of a law: functions and their walks. -/
import Derived.Test.YtnlnojicpchmiaaDoorXFn0
namespace Lv
open Go Go.Proofs
set_option linter.unusedVariables false
set_option linter.unusedSimpArgs false
set_option linter.unusedSectionVars false
set_option maxRecDepth 100000
variable [BaseTab] [TabOk]
/-- cmp.Or[int] -/
noncomputable def cmp_Or_int (p0 : List Int) : Option Int :=
  bindE (Y := Unit) (E := Int)
    (Option.bind (α := Unit ⊕ Int)
      (loop (Y := Int) (W := Unit ⊕ Int) (fun y49 =>
        bif (decide (y49 < (p0.length : Int))) then
          Option.bind (getI p0 y49) fun v57 =>
          bif (v57 != (0 : Int)) then
            some (Sum.inr (Sum.inr v57))
          else
            some (Sum.inl (w64 (y49 + (1 : Int))))
        else
          some (Sum.inr (Sum.inl ()))) (0 : Int))
      (Sum.elim (fun e => some (Sum.inl e)) (fun e => some (Sum.inr e))))
    (fun _ =>
      some (0 : Int))
    (fun e => some e)
theorem cmp_Or_int_ok (p0 : List Int) (r : Int) (h0 : cmp_Or_int p0 = some r) : CallAt Tryd.prog 57 [.slc 0 1 0 p0.length none] [.row 1 (List.map eI p0) true] (.d (eI r)) [.row 1 (List.map eI p0) true] := by
  unfold cmp_Or_int at h0
  refine CallAt.of Tryd.func57 rfl ?_
  refine SC.post (Q' := fun e s => ∃ s1, Wk _ s s1 ∧ Fin _ _ _ _ e s1) ?_ (fun _ _ h => h)
  refine SC.wk (s1 := ⟨mk 18 [(0, .slc 0 1 0 p0.length none)], [.row 1 (List.map eI p0) true]⟩) (Wk.begin (n := 18) (Nat.le_of_ble_eq_true rfl)) ?_
  refine SC.seq ?_
  refine SC.region ?_
  refine SO.op (Wanted.free rfl) rfl (A_assign (v := .d (eI (0 : Int))) rfl rfl) ?_
  refine SO.nil ?_
  change SC _ _ _ _ _
  refine SC.seq ?_
  refine SC.region ?_
  refine SO.op (Wanted.free rfl) rfl (A_assign (v := .d (eI (0 : Int))) rfl rfl) ?_
  refine SO.nil ?_
  change SC _ _ _ _ _
  refine SC.seqB h0 (fun y => ⟨mk 18 [(3, .d (eI (0 : Int)))], [.row 1 (List.map eI p0) true]⟩) ?_ ?_
  · intro u1_45 h1 h0
    refine SC.seq ?_
    refine SC.region ?_
    refine SO.op (Wanted.free rfl) rfl (A_move (v := .slc 0 1 0 p0.length none) rfl rfl) ?_
    refine SO.op (Wanted.free rfl) rfl (A_len (v := .d (eI (p0.length : Int))) rfl rfl rfl rfl (len_slc un24)) ?_
    refine SO.op (Wanted.free rfl) rfl (A_move (v := .d (eI (0 : Int))) rfl rfl) ?_
    refine SO.nil ?_
    change SC _ _ _ _ _
    refine SC.blk ?_
    obtain ⟨u2_55, h2, h1⟩ := ob h1
    refine SC.loopB h2 (fun y => ⟨mk 18 [(3, .d (eI (0 : Int))), (6, .slc 0 1 0 p0.length none), (7, .d (eI (p0.length : Int))), (8, .d (eI y))], [.row 1 (List.map eI p0) true]⟩) (Wk.env (e' := [(3, .d (eI (0 : Int))), (6, .slc 0 1 0 p0.length none), (7, .d (eI (p0.length : Int))), (8, .d (eI (0 : Int)))]) (EW.cons (AW.refl _) (EW.cons (AW.refl _) (EW.cons (AW.refl _) (EW.cons (AW.refl _) EW.nil))))) ?_
    intro n59
    rintro y49 w2_54 h3 hv3
    change SC _ _ _ ⟨mk 18 [(3, .d (eI (0 : Int))), (6, .slc 0 1 0 p0.length none), (7, .d (eI (p0.length : Int))), (8, .d (eI y49))], [.row 1 (List.map eI p0) true]⟩ _
    refine SC.seq ?_
    refine SC.region ?_
    refine SO.op (Wanted.free rfl) rfl (A_bin (v := .d (eB (decide (y49 < (p0.length : Int))))) rfl rfl rfl (fun X Y => b_i64_lss _ X Y y49 (p0.length : Int))) ?_
    refine SO.nil ?_
    change SC _ _ _ _ _
    refine SC.seq ?_
    refine SC.condB (t := (decide (y49 < (p0.length : Int)))) rfl (fun hb56 => ?_) (fun hb56 => ?_)
    · replace h3 := ct hb56 h3
      refine SC.skip ?_
      change SC _ _ _ _ _
      refine SC.seq ?_
      refine SC.blk ?_
      refine SC.seq ?_
      refine SC.region ?_
      obtain ⟨v57, hv57, h3⟩ := ob h3
      refine SO.opW (v' := .ref 0 (y49.toNat) 0) (Wanted.free rfl) rfl (A_indexAddr (v := .ref 0 (0 + y49.toNat) 0) rfl rfl rfl (ia_slc un24 ts3 (getI_lt hv57))) (AW.refz (by simp)) ?_
      refine SO.op (Wanted.free rfl) rfl (A_load (v := .d (eI v57)) rfl rfl (ld_row ts3 ta3 rfl (map_get (getI_some hv57).2) rfl)) ?_
      refine SO.op (Wanted.free rfl) rfl (A_assign (v := .d (eI v57)) rfl rfl) ?_
      refine SO.nil ?_
      change SC _ _ _ _ _
      refine SC.seq ?_
      refine SC.region ?_
      refine SO.op (Wanted.free rfl) rfl (A_move (v := .d (eI v57)) rfl rfl) ?_
      refine SO.op (Wanted.free rfl) rfl (A_move (v := .d (eI (0 : Int))) rfl rfl) ?_
      refine SO.op (Wanted.free rfl) rfl (A_bin (v := .d (eB (v57 != (0 : Int)))) rfl rfl rfl (fun X Y => b_i64_neq _ X Y v57 (0 : Int))) ?_
      refine SO.nil ?_
      change SC _ _ _ _ _
      refine SC.condB (t := (v57 != (0 : Int))) rfl (fun hb58 => ?_) (fun hb58 => ?_)
      · replace h3 := ct hb58 h3
        refine SC.seq ?_
        refine SC.region ?_
        refine SO.op (Wanted.free rfl) rfl (A_move (v := .d (eI v57)) rfl rfl) ?_
        refine SO.op (Wanted.free rfl) rfl (A_assign (v := .d (eI v57)) rfl rfl) ?_
        refine SO.nil ?_
        change SC _ _ _ _ _
        refine SC.ret ?_
        have q := Option.some.inj h3; subst q
        have q : _ = _ := hv3; subst q
        have q := Option.some.inj h1; subst q
        have q := Option.some.inj h0; subst q
        exact finR (Wk.env (e' := [(2, .d (eI v57))]) (EW.cons (AW.refl _) EW.nil)) (lresT rfl lresN) rfl
      · replace h3 := cf hb58 h3
        refine SC.skip ?_
        change SC _ _ _ _ _
        refine SC.region ?_
        refine SO.op (Wanted.free rfl) rfl (A_bin (v := .d (eI (w64 (y49 + (1 : Int))))) rfl rfl rfl (fun X Y => b_i64_add _ X Y y49 (1 : Int))) ?_
        refine SO.op (Wanted.free rfl) rfl (A_move (v := .d (eI (w64 (y49 + (1 : Int))))) rfl rfl) ?_
        refine SO.nil ?_
        have q := Option.some.inj h3; subst q
        exact lf (Wk.env (e' := [(3, .d (eI (0 : Int))), (6, .slc 0 1 0 p0.length none), (7, .d (eI (p0.length : Int))), (8, .d (eI (w64 (y49 + (1 : Int)))))]) (EW.cons (AW.refl _) (EW.cons (AW.refl _) (EW.cons (AW.refl _) (EW.cons (AW.refl _) EW.nil)))))
    · replace h3 := cf hb56 h3
      refine SC.exit ?_
      have q := Option.some.inj h3; subst q
      have q : _ = _ := hv3; subst q
      have q := Option.some.inj h1; subst q
      exact lf (Wk.env (e' := [(3, .d (eI (0 : Int)))]) (EW.cons (AW.refl _) EW.nil))
  · intro _ h0
    change SC _ _ _ ⟨mk 18 [(3, .d (eI (0 : Int)))], [.row 1 (List.map eI p0) true]⟩ _
    refine SC.seq ?_
    refine SC.region ?_
    refine SO.op (Wanted.free rfl) rfl (A_move (v := .d (eI (0 : Int))) rfl rfl) ?_
    refine SO.op (Wanted.free rfl) rfl (A_assign (v := .d (eI (0 : Int))) rfl rfl) ?_
    refine SO.nil ?_
    change SC _ _ _ _ _
    refine SC.ret ?_
    have q := Option.some.inj h0; subst q
    exact finR (Wk.env (e' := [(2, .d (eI (0 : Int)))]) (EW.cons (AW.refl _) EW.nil)) (lresT rfl lresN) rfl

/-- granary/value.Cmp -/
noncomputable def value_Cmp (p0 : ApiValue) (p1 : ApiValue) : Option Int :=
  Option.bind (cmp_Compare_int p0.Kind p1.Kind) fun r26 =>
  Option.bind (α := Int)
    (Option.bind (α := Bool)
      (bif (r26 == (0 : Int)) then
        some (p0.Kind == (1 : Int))
      else
        some false)
      fun y38 =>
    bif y38 then
      Option.bind (cmp_Compare_int64 (i64u p0.N) (i64u p1.N)) fun r42 =>
      some r42
    else
      some r26)
    fun y35 =>
  Option.bind (cmp_Compare_uint64 p0.N p1.N) fun r44 =>
  Option.bind (compareF p0.S p1.S) fun r46 =>
  Option.bind (cmp_Or_int [y35, r44, r46]) fun r48 =>
  some r48
theorem value_Cmp_ok (p0 : ApiValue) (p1 : ApiValue) (r : Int) (h0 : value_Cmp p0 p1 = some r) : CallAt Tryd.prog 36 [.d (eApiValue p0), .d (eApiValue p1)] [] (.d (eI r)) [] := by
  unfold value_Cmp at h0
  refine CallAt.of Tryd.func36 rfl ?_
  refine SC.post (Q' := fun e s => ∃ s1, Wk _ s s1 ∧ Fin _ _ _ _ e s1) ?_ (fun _ _ h => h)
  refine SC.wk (s1 := ⟨mk 38 [(0, .d (eApiValue p0)), (1, .d (eApiValue p1))], []⟩) (Wk.begin (n := 38) (Nat.le_of_ble_eq_true rfl)) ?_
  refine SC.seq ?_
  refine SC.region ?_
  refine SO.op (Wanted.free rfl) rfl (A_box (v := .d (eApiValue p0)) (σ' := [.box (.d (eApiValue p0))]) rfl rfl rfl rfl rfl) ?_
  refine SO.op (Wanted.free rfl) rfl (A_box (v := .d (eApiValue p1)) (σ' := [.box (.d (eApiValue p0)), .box (.d (eApiValue p1))]) rfl rfl rfl rfl rfl) ?_
  refine SO.op (Wanted.free rfl) rfl (A_assign (v := .d (eI (0 : Int))) rfl rfl) ?_
  refine SO.nil ?_
  change SC _ _ _ _ _
  refine SC.seq ?_
  refine SC.region ?_
  refine SO.op (Wanted.free rfl) rfl (A_fieldAddr rfl rfl (fa_ref fo35_0 ts3 rfl)) ?_
  refine SO.op (Wanted.free rfl) rfl (A_load (v := .d (eI p0.Kind)) rfl rfl (ld_box ts3 ta3 rfl rfl)) ?_
  refine SO.op (Wanted.free rfl) rfl (A_fieldAddr rfl rfl (fa_ref fo35_0 ts3 rfl)) ?_
  refine SO.op (Wanted.free rfl) rfl (A_load (v := .d (eI p1.Kind)) rfl rfl (ld_box ts3 ta3 rfl rfl)) ?_
  obtain ⟨r26, hq27, h0⟩ := ob h0
  refine SO.call0 (r := .d (eI r26)) (Wanted.free rfl) rfl rfl rfl rfl rfl cb55 rfl (fun _ => rfl) (fun _ => rfl) (cmp_Compare_int_ok p0.Kind p1.Kind _ hq27) ?_
  refine SO.op (Wanted.free rfl) rfl (A_assign (v := .d (eI r26)) rfl rfl) ?_
  refine SO.nil ?_
  change SC _ _ _ _ _
  refine SC.seqP h0 (fun y => ⟨mk 38 [(2, .ref 0 0 0), (3, .ref 1 0 0), (5, .d (eI y))], [.box (.d (eApiValue p0)), .box (.d (eApiValue p1))]⟩) ?_ ?_
  · intro u1_36 h1
    refine SC.seqP h1 (fun y => ⟨mk 38 [(2, .ref 0 0 0), (3, .ref 1 0 0), (5, .d (eI r26)), (17, .d (eB y))], [.box (.d (eApiValue p0)), .box (.d (eApiValue p1))]⟩) ?_ ?_
    · intro u2_39 h2
      refine SC.region ?_
      refine SO.op (Wanted.free rfl) rfl (A_move (v := .d (eI r26)) rfl rfl) ?_
      refine SO.op (Wanted.free rfl) rfl (A_bin (v := .d (eB (r26 == (0 : Int)))) rfl rfl rfl (fun X Y => b_i64_eql _ X Y r26 (0 : Int))) ?_
      refine SO.op (Wanted.free rfl) rfl (A_move (v := .d (eB (r26 == (0 : Int)))) rfl rfl) ?_
      refine SO.split (fun hb40 => ?_) (fun hb40 => ?_)
      · replace h2 := ct hb40 h2
        refine SO.op (Wanted.by rfl rfl rfl rfl) rfl (A_fieldAddr rfl rfl (fa_ref fo35_0 ts3 rfl)) ?_
        refine SO.op (Wanted.by rfl rfl rfl rfl) rfl (A_load (v := .d (eI p0.Kind)) rfl rfl (ld_box ts3 ta3 rfl rfl)) ?_
        refine SO.op (Wanted.by rfl rfl rfl rfl) rfl (A_bin (v := .d (eB (p0.Kind == (1 : Int)))) rfl rfl rfl (fun X Y => b_i64_eql _ X Y p0.Kind (1 : Int))) ?_
        refine SO.op (Wanted.free rfl) rfl (A_pickT (v := .d (eB (p0.Kind == (1 : Int)))) rfl rfl rfl) ?_
        refine SO.nil ?_
        have q := Option.some.inj h2; subst q
        exact (Wk.env (e' := [(2, .ref 0 0 0), (3, .ref 1 0 0), (5, .d (eI r26)), (17, .d (eB (p0.Kind == (1 : Int))))]) (EW.cons (AW.refl _) (EW.cons (AW.refl _) (EW.cons (AW.refl _) (EW.cons (AW.refl _) EW.nil)))))
      · replace h2 := cf hb40 h2
        refine SO.skip (Wanted.by rfl rfl rfl rfl) rfl ?_
        refine SO.skip (Wanted.by rfl rfl rfl rfl) rfl ?_
        refine SO.skip (Wanted.by rfl rfl rfl rfl) rfl ?_
        refine SO.op (Wanted.free rfl) rfl (A_pickF (v := .d (eB false)) rfl rfl rfl) ?_
        refine SO.nil ?_
        have q := Option.some.inj h2; subst q
        exact (Wk.env (e' := [(2, .ref 0 0 0), (3, .ref 1 0 0), (5, .d (eI r26)), (17, .d (eB false))]) (EW.cons (AW.refl _) (EW.cons (AW.refl _) (EW.cons (AW.refl _) (EW.cons (AW.refl _) EW.nil)))))
    · rintro y38 h1
      change SC _ _ _ ⟨mk 38 [(2, .ref 0 0 0), (3, .ref 1 0 0), (5, .d (eI r26)), (17, .d (eB y38))], [.box (.d (eApiValue p0)), .box (.d (eApiValue p1))]⟩ _
      refine SC.condB (t := y38) rfl (fun hb41 => ?_) (fun hb41 => ?_)
      · replace h1 := ct hb41 h1
        refine SC.region ?_
        refine SO.op (Wanted.free rfl) rfl (A_fieldAddr rfl rfl (fa_ref fo35_1 ts33 rfl)) ?_
        refine SO.op (Wanted.free rfl) rfl (A_load (v := .d (eU64 p0.N)) rfl rfl (ld_box ts33 ta33 rfl rfl)) ?_
        refine SO.op (Wanted.free rfl) rfl (A_conv (v := .d (eI (i64u p0.N))) rfl rfl (cv_u64_i64 un33 un2 p0.N)) ?_
        refine SO.op (Wanted.free rfl) rfl (A_fieldAddr rfl rfl (fa_ref fo35_1 ts33 rfl)) ?_
        refine SO.op (Wanted.free rfl) rfl (A_load (v := .d (eU64 p1.N)) rfl rfl (ld_box ts33 ta33 rfl rfl)) ?_
        refine SO.op (Wanted.free rfl) rfl (A_conv (v := .d (eI (i64u p1.N))) rfl rfl (cv_u64_i64 un33 un2 p1.N)) ?_
        obtain ⟨r42, hq43, h1⟩ := ob h1
        refine SO.call0 (r := .d (eI r42)) (Wanted.free rfl) rfl rfl rfl rfl rfl cb56 rfl (fun _ => rfl) (fun _ => rfl) (cmp_Compare_int64_ok (i64u p0.N) (i64u p1.N) _ hq43) ?_
        refine SO.op (Wanted.free rfl) rfl (A_assign (v := .d (eI r42)) rfl rfl) ?_
        refine SO.nil ?_
        have q := Option.some.inj h1; subst q
        exact (Wk.env (e' := [(2, .ref 0 0 0), (3, .ref 1 0 0), (5, .d (eI r42))]) (EW.cons (AW.refl _) (EW.cons (AW.refl _) (EW.cons (AW.refl _) EW.nil))))
      · replace h1 := cf hb41 h1
        refine SC.skip ?_
        have q := Option.some.inj h1; subst q
        exact (Wk.env (e' := [(2, .ref 0 0 0), (3, .ref 1 0 0), (5, .d (eI r26))]) (EW.cons (AW.refl _) (EW.cons (AW.refl _) (EW.cons (AW.refl _) EW.nil))))
  · rintro y35 h0
    change SC _ _ _ ⟨mk 38 [(2, .ref 0 0 0), (3, .ref 1 0 0), (5, .d (eI y35))], [.box (.d (eApiValue p0)), .box (.d (eApiValue p1))]⟩ _
    refine SC.seq ?_
    refine SC.draws (by kernel_rfl) ?_
    refine ST.op (mk' := ([], false)) (Wanted.free rfl) rfl (A_move (v := .d (eI y35)) rfl rfl) rfl ?_
    refine ST.op (mk' := ([], false)) (Wanted.free rfl) rfl (A_fieldAddr rfl rfl (fa_ref fo35_1 ts33 rfl)) rfl ?_
    refine ST.op (mk' := ([0], false)) (Wanted.free rfl) rfl (A_load (v := .d (eU64 p0.N)) rfl rfl (ld_box ts33 ta33 rfl rfl)) rfl ?_
    refine ST.op (mk' := ([], false)) (Wanted.free rfl) rfl (A_fieldAddr rfl rfl (fa_ref fo35_1 ts33 rfl)) rfl ?_
    refine ST.op (mk' := ([1], false)) (Wanted.free rfl) rfl (A_load (v := .d (eU64 p1.N)) rfl rfl (ld_box ts33 ta33 rfl rfl)) rfl ?_
    obtain ⟨r44, hq45, h0⟩ := ob h0
    refine ST.call0 (r := .d (eI r44)) (Wanted.free rfl) rfl rfl rfl rfl rfl cb58 rfl (fun _ => rfl) (fun _ => rfl) (cmp_Compare_uint64_ok p0.N p1.N _ hq45) ?_
    refine ST.op (mk' := ([], false)) (Wanted.free rfl) rfl (A_fieldAddr rfl rfl (fa_ref fo35_2 ts9 rfl)) rfl ?_
    refine ST.op (mk' := ([0], false)) (Wanted.free rfl) rfl (A_load (v := .d (eS p0.S)) rfl rfl (ld_box ts9 ta9 rfl rfl)) rfl ?_
    refine ST.op (mk' := ([], false)) (Wanted.free rfl) rfl (A_fieldAddr rfl rfl (fa_ref fo35_2 ts9 rfl)) rfl ?_
    refine ST.op (mk' := ([1], false)) (Wanted.free rfl) rfl (A_load (v := .d (eS p1.S)) rfl rfl (ld_box ts9 ta9 rfl rfl)) rfl ?_
    obtain ⟨r46, hq47, h0⟩ := ob h0
    refine ST.call0 (r := .d (eI r46)) (Wanted.free rfl) rfl rfl rfl rfl rfl cb59 rfl (fun _ => rfl) (fun _ => rfl) (compare_ok p0.S p1.S _ hq47) ?_
    refine ST.opW (mk' := ([2], true)) (v' := .slc 2 1 0 ([y35, r44, r46].length) none) (Wanted.free rfl) rfl (A_buildSlice (v := .slc 2 1 0 3 (some 3)) (σ' := [.box (.d (eApiValue p0)), .box (.d (eApiValue p1)), .row 1 (List.map eI [y35, r44, r46]) true]) rfl rfl (bsl un24 ei3 (by decide) rfl (by rfl) rfl rfl)) (AW.slcc rfl rfl) rfl ?_
    obtain ⟨r48, hq49, h0⟩ := ob h0
    refine ST.call (ι := [2]) (σc := [.row 1 (List.map eI [y35, r44, r46]) true]) (args' := [.slc 0 1 0 ([y35, r44, r46].length) none]) (r' := .d (eI r48)) (σ2 := [.row 1 (List.map eI [y35, r44, r46]) true]) (os := [.row 1 (List.map eI [y35, r44, r46]) true]) (r := .d (eI r48)) (σ' := [.box (.d (eApiValue p0)), .box (.d (eApiValue p1)), .row 1 (List.map eI [y35, r44, r46]) true]) (mk' := ([2], true)) (Wanted.free rfl) rfl rfl rfl rfl rfl cb57 rfl rfl (cmp_Or_int_ok [y35, r44, r46] _ hq49) rfl rfl (Nat.le_of_ble_eq_true rfl) rfl rfl ?_
    refine ST.op (mk' := ([], false)) (Wanted.free rfl) rfl (A_assign (v := .d (eI r48)) rfl rfl) rfl ?_
    refine ST.nil (And.intro (by decide +kernel) ?_)
    change SC _ _ _ _ _
    refine SC.ret ?_
    have q := Option.some.inj h0; subst q
    exact finR (Wk.trans (Wk.env (e' := [(4, .d (eI r48))]) (EW.cons (AW.refl _) EW.nil)) (Wk.canon (ι := []) (roots := []) (os := []) (e' := [(4, .d (eI r48))]) rfl rfl rfl)) (lresT rfl lresN) rfl

/-- granary/granarylaw07.order -/
noncomputable def law07_order (p0 : List ApiValue) (p1 : List ApiValue) (p2 : List Bool) : Option Int :=
  bindE (Y := Unit) (E := Int)
    (Option.bind (α := Unit ⊕ Int)
      (loop (Y := Int) (W := Unit ⊕ Int) (fun y139 =>
        bif (decide (y139 < (p0.length : Int))) then
          Option.bind (getI p0 y139) fun v156 =>
          Option.bind (getI p1 y139) fun v157 =>
          Option.bind (value_Cmp v156 v157) fun r158 =>
          Option.bind (α := Int)
            (Option.bind (getI p2 y139) fun v164 =>
            bif v164 then
              some (w64 (0 - r158))
            else
              some r158)
            fun y162 =>
          bif (y162 != (0 : Int)) then
            some (Sum.inr (Sum.inr y162))
          else
            some (Sum.inl (w64 (y139 + (1 : Int))))
        else
          some (Sum.inr (Sum.inl ()))) (0 : Int))
      (Sum.elim (fun e => some (Sum.inl e)) (fun e => some (Sum.inr e))))
    (fun _ =>
      some (0 : Int))
    (fun e => some e)
theorem law07_order_ok (p0 : List ApiValue) (p1 : List ApiValue) (p2 : List Bool) (r : Int) (h0 : law07_order p0 p1 p2 = some r) : CallAt Tryd.prog 23 [.d ((eL 3 eApiValue) p0), .d ((eL 3 eApiValue) p1), .d ((eL 1 eB) p2)] [] (.d (eI r)) [] := by
  unfold law07_order at h0
  refine CallAt.of Tryd.func23 rfl ?_
  refine SC.post (Q' := fun e s => ∃ s1, Wk _ s s1 ∧ Fin _ _ _ _ e s1) ?_ (fun _ _ h => h)
  refine SC.wk (s1 := ⟨mk 33 [(0, .d ((eL 3 eApiValue) p0)), (1, .d ((eL 3 eApiValue) p1)), (2, .d ((eL 1 eB) p2))], []⟩) (Wk.begin (n := 33) (Nat.le_of_ble_eq_true rfl)) ?_
  refine SC.seq ?_
  refine SC.region ?_
  refine SO.op (Wanted.free rfl) rfl (A_assign (v := .d (eI (0 : Int))) rfl rfl) ?_
  refine SO.nil ?_
  change SC _ _ _ _ _
  refine SC.seqB h0 (fun y => ⟨mk 33 [], []⟩) ?_ ?_
  · intro u1_126 h1 h0
    refine SC.seq ?_
    refine SC.region ?_
    refine SO.op (Wanted.free rfl) rfl (A_assign (v := .d (eI (0 : Int))) rfl rfl) ?_
    refine SO.nil ?_
    change SC _ _ _ _ _
    refine SC.blk ?_
    obtain ⟨u2_154, h2, h1⟩ := ob h1
    refine SC.loopB h2 (fun y => ⟨mk 33 [(0, .d ((eL 3 eApiValue) p0)), (1, .d ((eL 3 eApiValue) p1)), (2, .d ((eL 1 eB) p2)), (7, .d (eI y))], []⟩) (Wk.env (e' := [(0, .d ((eL 3 eApiValue) p0)), (1, .d ((eL 3 eApiValue) p1)), (2, .d ((eL 1 eB) p2)), (7, .d (eI (0 : Int)))]) (EW.cons (AW.refl _) (EW.cons (AW.refl _) (EW.cons (AW.refl _) (EW.cons (AW.refl _) EW.nil))))) ?_
    intro n167
    rintro y139 w2_153 h3 hv3
    change SC _ _ _ ⟨mk 33 [(0, .d ((eL 3 eApiValue) p0)), (1, .d ((eL 3 eApiValue) p1)), (2, .d ((eL 1 eB) p2)), (7, .d (eI y139))], []⟩ _
    refine SC.seq ?_
    refine SC.seq ?_
    refine SC.region ?_
    refine SO.op (Wanted.free rfl) rfl (A_move (v := .d (eI y139)) rfl rfl) ?_
    refine SO.op (Wanted.free rfl) rfl (A_move (v := .d ((eL 3 eApiValue) p0)) rfl rfl) ?_
    refine SO.op (Wanted.free rfl) rfl (A_len (v := .d (eI (p0.length : Int))) rfl rfl rfl rfl (len_lst un22)) ?_
    refine SO.op (Wanted.free rfl) rfl (A_bin (v := .d (eB (decide (y139 < (p0.length : Int))))) rfl rfl rfl (fun X Y => b_i64_lss _ X Y y139 (p0.length : Int))) ?_
    refine SO.nil ?_
    change SC _ _ _ _ _
    refine SC.condB (t := (decide (y139 < (p0.length : Int)))) rfl (fun hb155 => ?_) (fun hb155 => ?_)
    · replace h3 := ct hb155 h3
      refine SC.skip ?_
      change SC _ _ _ _ _
      refine SC.seq ?_
      refine SC.blk ?_
      refine SC.seq ?_
      refine SC.draws (by kernel_rfl) ?_
      refine ST.op (mk' := ([], false)) (Wanted.free rfl) rfl (A_move (v := .d ((eL 3 eApiValue) p0)) rfl rfl) rfl ?_
      refine ST.op (mk' := ([], false)) (Wanted.free rfl) rfl (A_move (v := .d (eI y139)) rfl rfl) rfl ?_
      obtain ⟨v156, hv156, h3⟩ := ob h3
      refine ST.op (mk' := ([], false)) (Wanted.free rfl) rfl (A_indexAddr (v := .rop [(eI v156.Kind), (eU64 v156.N), (eS v156.S)]) rfl rfl rfl (ia_lst un22 ts35 (getI_some hv156).1 (map_get (getI_some hv156).2))) rfl ?_
      refine ST.op (mk' := ([], false)) (Wanted.free rfl) rfl (A_load (v := .d (eApiValue v156)) rfl rfl (ld_rop ts35 ta35 rfl)) rfl ?_
      refine ST.op (mk' := ([], false)) (Wanted.free rfl) rfl (A_move (v := .d ((eL 3 eApiValue) p1)) rfl rfl) rfl ?_
      refine ST.op (mk' := ([], false)) (Wanted.free rfl) rfl (A_move (v := .d (eI y139)) rfl rfl) rfl ?_
      obtain ⟨v157, hv157, h3⟩ := ob h3
      refine ST.op (mk' := ([], false)) (Wanted.free rfl) rfl (A_indexAddr (v := .rop [(eI v157.Kind), (eU64 v157.N), (eS v157.S)]) rfl rfl rfl (ia_lst un22 ts35 (getI_some hv157).1 (map_get (getI_some hv157).2))) rfl ?_
      refine ST.op (mk' := ([], false)) (Wanted.free rfl) rfl (A_load (v := .d (eApiValue v157)) rfl rfl (ld_rop ts35 ta35 rfl)) rfl ?_
      obtain ⟨r158, hq159, h3⟩ := ob h3
      refine ST.call0 (r := .d (eI r158)) (Wanted.free rfl) rfl rfl rfl rfl rfl cb36 rfl (fun _ => rfl) (fun _ => rfl) (value_Cmp_ok v156 v157 _ hq159) ?_
      refine ST.op (mk' := ([], false)) (Wanted.free rfl) rfl (A_assign (v := .d (eI r158)) rfl rfl) rfl ?_
      refine ST.nil (And.intro (by decide +kernel) ?_)
      change SC _ _ _ _ _
      refine SC.seqP h3 (fun y => ⟨mk 33 [(0, .d ((eL 3 eApiValue) p0)), (1, .d ((eL 3 eApiValue) p1)), (2, .d ((eL 1 eB) p2)), (7, .d (eI y139)), (8, .d (eI y))], []⟩) ?_ ?_
      · intro u4_163 h4
        refine SC.seq ?_
        refine SC.region ?_
        refine SO.op (Wanted.free rfl) rfl (A_move (v := .d ((eL 1 eB) p2)) rfl rfl) ?_
        refine SO.op (Wanted.free rfl) rfl (A_move (v := .d (eI y139)) rfl rfl) ?_
        obtain ⟨v164, hv164, h4⟩ := ob h4
        refine SO.op (Wanted.free rfl) rfl (A_indexAddr (v := .rop [(eB v164)]) rfl rfl rfl (ia_lst un23 ts4 (getI_some hv164).1 (map_get (getI_some hv164).2))) ?_
        refine SO.op (Wanted.free rfl) rfl (A_load (v := .d (eB v164)) rfl rfl (ld_rop ts4 ta4 rfl)) ?_
        refine SO.nil ?_
        change SC _ _ _ _ _
        refine SC.condB (t := v164) rfl (fun hb165 => ?_) (fun hb165 => ?_)
        · replace h4 := ct hb165 h4
          refine SC.region ?_
          refine SO.op (Wanted.free rfl) rfl (A_move (v := .d (eI r158)) rfl rfl) ?_
          refine SO.op (Wanted.free rfl) rfl (A_un (v := .d (eI (w64 (0 - r158)))) rfl rfl rfl rfl) ?_
          refine SO.op (Wanted.free rfl) rfl (A_assign (v := .d (eI (w64 (0 - r158)))) rfl rfl) ?_
          refine SO.nil ?_
          have q := Option.some.inj h4; subst q
          exact (Wk.env (e' := [(0, .d ((eL 3 eApiValue) p0)), (1, .d ((eL 3 eApiValue) p1)), (2, .d ((eL 1 eB) p2)), (7, .d (eI y139)), (8, .d (eI (w64 (0 - r158))))]) (EW.cons (AW.refl _) (EW.cons (AW.refl _) (EW.cons (AW.refl _) (EW.cons (AW.refl _) (EW.cons (AW.refl _) EW.nil))))))
        · replace h4 := cf hb165 h4
          refine SC.skip ?_
          have q := Option.some.inj h4; subst q
          exact (Wk.env (e' := [(0, .d ((eL 3 eApiValue) p0)), (1, .d ((eL 3 eApiValue) p1)), (2, .d ((eL 1 eB) p2)), (7, .d (eI y139)), (8, .d (eI r158))]) (EW.cons (AW.refl _) (EW.cons (AW.refl _) (EW.cons (AW.refl _) (EW.cons (AW.refl _) (EW.cons (AW.refl _) EW.nil))))))
      · rintro y162 h3
        change SC _ _ _ ⟨mk 33 [(0, .d ((eL 3 eApiValue) p0)), (1, .d ((eL 3 eApiValue) p1)), (2, .d ((eL 1 eB) p2)), (7, .d (eI y139)), (8, .d (eI y162))], []⟩ _
        refine SC.seq ?_
        refine SC.region ?_
        refine SO.op (Wanted.free rfl) rfl (A_move (v := .d (eI y162)) rfl rfl) ?_
        refine SO.op (Wanted.free rfl) rfl (A_bin (v := .d (eB (y162 != (0 : Int)))) rfl rfl rfl (fun X Y => b_i64_neq _ X Y y162 (0 : Int))) ?_
        refine SO.nil ?_
        change SC _ _ _ _ _
        refine SC.condB (t := (y162 != (0 : Int))) rfl (fun hb166 => ?_) (fun hb166 => ?_)
        · replace h3 := ct hb166 h3
          refine SC.seq ?_
          refine SC.region ?_
          refine SO.op (Wanted.free rfl) rfl (A_move (v := .d (eI y162)) rfl rfl) ?_
          refine SO.op (Wanted.free rfl) rfl (A_assign (v := .d (eI y162)) rfl rfl) ?_
          refine SO.nil ?_
          change SC _ _ _ _ _
          refine SC.ret ?_
          have q := Option.some.inj h3; subst q
          have q : _ = _ := hv3; subst q
          have q := Option.some.inj h1; subst q
          have q := Option.some.inj h0; subst q
          exact finR (Wk.env (e' := [(6, .d (eI y162))]) (EW.cons (AW.refl _) EW.nil)) (lresT rfl lresN) rfl
        · replace h3 := cf hb166 h3
          refine SC.skip ?_
          change SC _ _ _ _ _
          refine SC.region ?_
          refine SO.op (Wanted.free rfl) rfl (A_move (v := .d (eI y139)) rfl rfl) ?_
          refine SO.op (Wanted.free rfl) rfl (A_bin (v := .d (eI (w64 (y139 + (1 : Int))))) rfl rfl rfl (fun X Y => b_i64_add _ X Y y139 (1 : Int))) ?_
          refine SO.op (Wanted.free rfl) rfl (A_assign (v := .d (eI (w64 (y139 + (1 : Int))))) rfl rfl) ?_
          refine SO.nil ?_
          have q := Option.some.inj h3; subst q
          exact lf (Wk.env (e' := [(0, .d ((eL 3 eApiValue) p0)), (1, .d ((eL 3 eApiValue) p1)), (2, .d ((eL 1 eB) p2)), (7, .d (eI (w64 (y139 + (1 : Int)))))]) (EW.cons (AW.refl _) (EW.cons (AW.refl _) (EW.cons (AW.refl _) (EW.cons (AW.refl _) EW.nil)))))
    · replace h3 := cf hb155 h3
      refine SC.exit ?_
      have q := Option.some.inj h3; subst q
      have q : _ = _ := hv3; subst q
      have q := Option.some.inj h1; subst q
      exact lf (Wk.env (e' := []) EW.nil)
  · intro _ h0
    change SC _ _ _ ⟨mk 33 [], []⟩ _
    refine SC.seq ?_
    refine SC.region ?_
    refine SO.op (Wanted.free rfl) rfl (A_assign (v := .d (eI (0 : Int))) rfl rfl) ?_
    refine SO.nil ?_
    change SC _ _ _ _ _
    refine SC.ret ?_
    have q := Option.some.inj h0; subst q
    exact finR (Wk.env (e' := [(6, .d (eI (0 : Int)))]) (EW.cons (AW.refl _) EW.nil)) (lresT rfl lresN) rfl

theorem slices_IndexFunc_api_Value_api_Value_ok1 (p0 : List ApiValue) (r : Int) (h0 : slices_IndexFunc_api_Value_api_Value p0 = some r) : CallAt Tryd.prog 37 [.slc 0 3 0 p0.length none, .fn (.func 26) [] []] [.row 3 (List.map eApiValue p0) true] (.d (eI r)) [.row 3 (List.map eApiValue p0) true] := by
  unfold slices_IndexFunc_api_Value_api_Value at h0
  refine CallAt.of Tryd.func37 rfl ?_
  refine SC.post (Q' := fun e s => ∃ s1, Wk _ s s1 ∧ Fin _ _ _ _ e s1) ?_ (fun _ _ h => h)
  refine SC.wk (s1 := ⟨mk 19 [(0, .slc 0 3 0 p0.length none), (1, .fn (.func 26) [] [])], [.row 3 (List.map eApiValue p0) true]⟩) (Wk.begin (n := 19) (Nat.le_of_ble_eq_true rfl)) ?_
  refine SC.seq ?_
  refine SC.region ?_
  refine SO.op (Wanted.free rfl) rfl (A_assign (v := .d (eI (0 : Int))) rfl rfl) ?_
  refine SO.nil ?_
  change SC _ _ _ _ _
  refine SC.seqB h0 (fun y => ⟨mk 19 [], [.row 3 (List.map eApiValue p0) true]⟩) ?_ ?_
  · intro u1_63 h1 h0
    refine SC.seq ?_
    refine SC.region ?_
    refine SO.op (Wanted.free rfl) rfl (A_move (v := .slc 0 3 0 p0.length none) rfl rfl) ?_
    refine SO.op (Wanted.free rfl) rfl (A_len (v := .d (eI (p0.length : Int))) rfl rfl rfl rfl (len_slc un22)) ?_
    refine SO.op (Wanted.free rfl) rfl (A_move (v := .d (eI (0 : Int))) rfl rfl) ?_
    refine SO.nil ?_
    change SC _ _ _ _ _
    refine SC.blk ?_
    obtain ⟨u2_77, h2, h1⟩ := ob h1
    refine SC.loopB h2 (fun y => ⟨mk 19 [(0, .slc 0 3 0 p0.length none), (1, .fn (.func 26) [] []), (7, .d (eI (p0.length : Int))), (8, .d (eI y))], [.row 3 (List.map eApiValue p0) true]⟩) (Wk.env (e' := [(0, .slc 0 3 0 p0.length none), (1, .fn (.func 26) [] []), (7, .d (eI (p0.length : Int))), (8, .d (eI (0 : Int)))]) (EW.cons (AW.refl _) (EW.cons (AW.refl _) (EW.cons (AW.refl _) (EW.cons (AW.refl _) EW.nil))))) ?_
    intro n83
    rintro y69 w2_76 h3 hv3
    change SC _ _ _ ⟨mk 19 [(0, .slc 0 3 0 p0.length none), (1, .fn (.func 26) [] []), (7, .d (eI (p0.length : Int))), (8, .d (eI y69))], [.row 3 (List.map eApiValue p0) true]⟩ _
    refine SC.seq ?_
    refine SC.region ?_
    refine SO.op (Wanted.free rfl) rfl (A_bin (v := .d (eB (decide (y69 < (p0.length : Int))))) rfl rfl rfl (fun X Y => b_i64_lss _ X Y y69 (p0.length : Int))) ?_
    refine SO.nil ?_
    change SC _ _ _ _ _
    refine SC.seq ?_
    refine SC.condB (t := (decide (y69 < (p0.length : Int)))) rfl (fun hb78 => ?_) (fun hb78 => ?_)
    · replace h3 := ct hb78 h3
      refine SC.skip ?_
      change SC _ _ _ _ _
      refine SC.seq ?_
      refine SC.blk ?_
      refine SC.seq ?_
      refine SC.region ?_
      refine SO.op (Wanted.free rfl) rfl (A_move (v := .d (eI y69)) rfl rfl) ?_
      refine SO.op (Wanted.free rfl) rfl (A_assign (v := .d (eI y69)) rfl rfl) ?_
      refine SO.nil ?_
      change SC _ _ _ _ _
      refine SC.seq ?_
      refine SC.region ?_
      refine SO.op (Wanted.free rfl) rfl (A_move (v := .fn (.func 26) [] []) rfl rfl) ?_
      refine SO.op (Wanted.free rfl) rfl (A_move (v := .slc 0 3 0 p0.length none) rfl rfl) ?_
      refine SO.op (Wanted.free rfl) rfl (A_move (v := .d (eI y69)) rfl rfl) ?_
      obtain ⟨v79, hv79, h3⟩ := ob h3
      refine SO.opW (v' := .ref 0 (y69.toNat) 0) (Wanted.free rfl) rfl (A_indexAddr (v := .ref 0 (0 + y69.toNat) 0) rfl rfl rfl (ia_slc un22 ts35 (getI_lt hv79))) (AW.refz (by simp)) ?_
      refine SO.op (Wanted.free rfl) rfl (A_load (v := .d (eApiValue v79)) rfl rfl (ld_row ts35 ta35 rfl (map_get (getI_some hv79).2) rfl)) ?_
      obtain ⟨r80, hq81, h3⟩ := ob h3
      refine SO.call0 (r := .d (eB r80)) (Wanted.free rfl) rfl rfl rfl rfl rfl cb26 rfl (fun _ => rfl) (fun _ => rfl) (key_Encode_1_ok v79 _ hq81) ?_
      refine SO.nil ?_
      change SC _ _ _ _ _
      refine SC.condB (t := r80) rfl (fun hb82 => ?_) (fun hb82 => ?_)
      · replace h3 := ct hb82 h3
        refine SC.seq ?_
        refine SC.region ?_
        refine SO.op (Wanted.free rfl) rfl (A_move (v := .d (eI y69)) rfl rfl) ?_
        refine SO.op (Wanted.free rfl) rfl (A_assign (v := .d (eI y69)) rfl rfl) ?_
        refine SO.nil ?_
        change SC _ _ _ _ _
        refine SC.ret ?_
        have q := Option.some.inj h3; subst q
        have q : _ = _ := hv3; subst q
        have q := Option.some.inj h1; subst q
        have q := Option.some.inj h0; subst q
        exact finR (Wk.env (e' := [(4, .d (eI y69))]) (EW.cons (AW.refl _) EW.nil)) (lresT rfl lresN) rfl
      · replace h3 := cf hb82 h3
        refine SC.skip ?_
        change SC _ _ _ _ _
        refine SC.region ?_
        refine SO.op (Wanted.free rfl) rfl (A_bin (v := .d (eI (w64 (y69 + (1 : Int))))) rfl rfl rfl (fun X Y => b_i64_add _ X Y y69 (1 : Int))) ?_
        refine SO.op (Wanted.free rfl) rfl (A_move (v := .d (eI (w64 (y69 + (1 : Int))))) rfl rfl) ?_
        refine SO.nil ?_
        have q := Option.some.inj h3; subst q
        exact lf (Wk.env (e' := [(0, .slc 0 3 0 p0.length none), (1, .fn (.func 26) [] []), (7, .d (eI (p0.length : Int))), (8, .d (eI (w64 (y69 + (1 : Int)))))]) (EW.cons (AW.refl _) (EW.cons (AW.refl _) (EW.cons (AW.refl _) (EW.cons (AW.refl _) EW.nil)))))
    · replace h3 := cf hb78 h3
      refine SC.exit ?_
      have q := Option.some.inj h3; subst q
      have q : _ = _ := hv3; subst q
      have q := Option.some.inj h1; subst q
      exact lf (Wk.env (e' := []) EW.nil)
  · intro _ h0
    change SC _ _ _ ⟨mk 19 [], [.row 3 (List.map eApiValue p0) true]⟩ _
    refine SC.seq ?_
    refine SC.region ?_
    refine SO.op (Wanted.free rfl) rfl (A_assign (v := .d (eI (-1 : Int))) rfl rfl) ?_
    refine SO.nil ?_
    change SC _ _ _ _ _
    refine SC.ret ?_
    have q := Option.some.inj h0; subst q
    exact finR (Wk.env (e' := [(4, .d (eI (-1 : Int)))]) (EW.cons (AW.refl _) EW.nil)) (lresT rfl lresN) rfl

theorem slices_ContainsFunc_api_Value_api_Value_ok1 (p0 : List ApiValue) (r : Bool) (h0 : slices_ContainsFunc_api_Value_api_Value p0 = some r) : CallAt Tryd.prog 25 [.slc 0 3 0 p0.length none, .fn (.func 26) [] []] [.row 3 (List.map eApiValue p0) true] (.d (eB r)) [.row 3 (List.map eApiValue p0) true] := by
  unfold slices_ContainsFunc_api_Value_api_Value at h0
  refine CallAt.of Tryd.func25 rfl ?_
  refine SC.post (Q' := fun e s => ∃ s1, Wk _ s s1 ∧ Fin _ _ _ _ e s1) ?_ (fun _ _ h => h)
  refine SC.wk (s1 := ⟨mk 9 [(0, .slc 0 3 0 p0.length none), (1, .fn (.func 26) [] [])], [.row 3 (List.map eApiValue p0) true]⟩) (Wk.begin (n := 9) (Nat.le_of_ble_eq_true rfl)) ?_
  refine SC.seq ?_
  refine SC.region ?_
  refine SO.op (Wanted.free rfl) rfl (A_assign (v := .d (eB false)) rfl rfl) ?_
  refine SO.nil ?_
  change SC _ _ _ _ _
  refine SC.seq ?_
  refine SC.region ?_
  refine SO.op (Wanted.free rfl) rfl (A_move (v := .slc 0 3 0 p0.length none) rfl rfl) ?_
  refine SO.op (Wanted.free rfl) rfl (A_move (v := .fn (.func 26) [] []) rfl rfl) ?_
  obtain ⟨r4, hq5, h0⟩ := ob h0
  refine SO.call (ι := [0]) (σc := [.row 3 (List.map eApiValue p0) true]) (args' := [.slc 0 3 0 p0.length none, .fn (.func 26) [] []]) (r' := .d (eI r4)) (σ2 := [.row 3 (List.map eApiValue p0) true]) (os := [.row 3 (List.map eApiValue p0) true]) (r := .d (eI r4)) (σ' := [.row 3 (List.map eApiValue p0) true]) (Wanted.free rfl) rfl rfl rfl rfl rfl cb37 rfl rfl (slices_IndexFunc_api_Value_api_Value_ok1 p0 _ hq5) rfl rfl (Nat.le_of_ble_eq_true rfl) rfl ?_
  refine SO.op (Wanted.free rfl) rfl (A_bin (v := .d (eB (decide (r4 ≥ (0 : Int))))) rfl rfl rfl (fun X Y => b_i64_geq _ X Y r4 (0 : Int))) ?_
  refine SO.op (Wanted.free rfl) rfl (A_assign (v := .d (eB (decide (r4 ≥ (0 : Int))))) rfl rfl) ?_
  refine SO.nil ?_
  change SC _ _ _ _ _
  refine SC.ret ?_
  have q := Option.some.inj h0; subst q
  exact finR (Wk.env (e' := [(4, .d (eB (decide (r4 ≥ (0 : Int)))))]) (EW.cons (AW.refl _) EW.nil)) (lresT rfl lresN) rfl

theorem key_Encode_ok1 (p0 : List ApiValue) (p1 : List Bool) (r : (List UInt8) × Int) (h0 : key_Encode p0 p1 = some r) : CallAt Tryd.prog 10 [.slc 0 3 0 p0.length none, .slc 1 1 0 p1.length none] [.row 3 (List.map eApiValue p0) true, .row 1 (List.map eB p1) true] (.tuple [.d (eS r.1), .d (eI r.2)]) [.row 3 (List.map eApiValue p0) true, .row 1 (List.map eB p1) true] := by
  unfold key_Encode at h0
  refine CallAt.of Tryd.func10 rfl ?_
  refine SC.post (Q' := fun e s => ∃ s1, Wk _ s s1 ∧ Fin _ _ _ _ e s1) ?_ (fun _ _ h => h)
  refine SC.wk (s1 := ⟨mk 37 [(0, .slc 0 3 0 p0.length none), (1, .slc 1 1 0 p1.length none)], [.row 3 (List.map eApiValue p0) true, .row 1 (List.map eB p1) true]⟩) (Wk.begin (n := 37) (Nat.le_of_ble_eq_true rfl)) ?_
  refine SC.seq ?_
  refine SC.region ?_
  refine SO.op (Wanted.free rfl) rfl (A_assign (v := .d (eS ([] : List UInt8))) rfl rfl) ?_
  refine SO.op (Wanted.free rfl) rfl (A_assign (v := .d (eI (0 : Int))) rfl rfl) ?_
  refine SO.nil ?_
  change SC _ _ _ _ _
  refine SC.seq ?_
  refine SC.seq ?_
  refine SC.region ?_
  refine SO.op (Wanted.free rfl) rfl (A_move (v := .slc 0 3 0 p0.length none) rfl rfl) ?_
  refine SO.op (Wanted.free rfl) rfl (A_len (v := .d (eI (p0.length : Int))) rfl rfl rfl rfl (len_slc un22)) ?_
  refine SO.op (Wanted.free rfl) rfl (A_move (v := .slc 1 1 0 p1.length none) rfl rfl) ?_
  refine SO.op (Wanted.free rfl) rfl (A_len (v := .d (eI (p1.length : Int))) rfl rfl rfl rfl (len_slc un23)) ?_
  refine SO.op (Wanted.free rfl) rfl (A_bin (v := .d (eB ((p0.length : Int) != (p1.length : Int)))) rfl rfl rfl (fun X Y => b_i64_neq _ X Y (p0.length : Int) (p1.length : Int))) ?_
  refine SO.nil ?_
  change SC _ _ _ _ _
  refine SC.condB (t := ((p0.length : Int) != (p1.length : Int))) rfl (fun hb60 => ?_) (fun hb60 => ?_)
  · replace h0 := ct hb60 h0
    refine SC.seq ?_
    refine SC.region ?_
    refine SO.op (Wanted.free rfl) rfl (A_assign (v := .d (eS ([] : List UInt8))) rfl rfl) ?_
    refine SO.op (Wanted.free rfl) rfl (A_assign (v := .d (eI (1 : Int))) rfl rfl) ?_
    refine SO.nil ?_
    change SC _ _ _ _ _
    refine SC.ret ?_
    have q := Option.some.inj h0; subst q
    exact finR (Wk.env (e' := [(4, .d (eS ([] : List UInt8))), (5, .d (eI (1 : Int)))]) (EW.cons (AW.refl _) (EW.cons (AW.refl _) EW.nil))) (lresT rfl (lresT rfl lresN)) rfl
  · replace h0 := cf hb60 h0
    refine SC.skip ?_
    change SC _ _ _ _ _
    refine SC.seq ?_
    refine SC.seq ?_
    refine SC.region ?_
    refine SO.op (Wanted.free rfl) rfl (A_move (v := .slc 0 3 0 p0.length none) rfl rfl) ?_
    obtain ⟨r61, hq62, h0⟩ := ob h0
    refine SO.call (ι := [0]) (σc := [.row 3 (List.map eApiValue p0) true]) (args' := [.slc 0 3 0 p0.length none, .fn (.func 26) [] []]) (r' := .d (eB r61)) (σ2 := [.row 3 (List.map eApiValue p0) true]) (os := [.row 3 (List.map eApiValue p0) true]) (r := .d (eB r61)) (σ' := [.row 3 (List.map eApiValue p0) true, .row 1 (List.map eB p1) true]) (Wanted.free rfl) rfl rfl rfl rfl rfl cb25 rfl rfl (slices_ContainsFunc_api_Value_api_Value_ok1 p0 _ hq62) rfl rfl (Nat.le_of_ble_eq_true rfl) rfl ?_
    refine SO.nil ?_
    change SC _ _ _ _ _
    refine SC.condB (t := r61) rfl (fun hb63 => ?_) (fun hb63 => ?_)
    · replace h0 := ct hb63 h0
      refine SC.seq ?_
      refine SC.region ?_
      refine SO.op (Wanted.free rfl) rfl (A_assign (v := .d (eS ([] : List UInt8))) rfl rfl) ?_
      refine SO.op (Wanted.free rfl) rfl (A_assign (v := .d (eI (8 : Int))) rfl rfl) ?_
      refine SO.nil ?_
      change SC _ _ _ _ _
      refine SC.ret ?_
      have q := Option.some.inj h0; subst q
      exact finR (Wk.env (e' := [(4, .d (eS ([] : List UInt8))), (5, .d (eI (8 : Int)))]) (EW.cons (AW.refl _) (EW.cons (AW.refl _) EW.nil))) (lresT rfl (lresT rfl lresN)) rfl
    · replace h0 := cf hb63 h0
      refine SC.skip ?_
      change SC _ _ _ _ _
      refine SC.seq ?_
      refine SC.region ?_
      refine SO.op (Wanted.free rfl) rfl (A_assign (v := .d .nils) rfl rfl) ?_
      refine SO.nil ?_
      change SC _ _ _ _ _
      refine SC.seqP h0 (fun y => ⟨mk 37 [(6, .slc 2 1 0 y.length none)], [.row 3 (List.map eApiValue p0) true, .row 1 (List.map eB p1) true, .row 1 (List.map eU8 y) true]⟩) ?_ ?_
      · intro u1_90 h1
        refine SC.seq ?_
        refine SC.region ?_
        refine SO.op (Wanted.free rfl) rfl (A_move (v := .slc 0 3 0 p0.length none) rfl rfl) ?_
        refine SO.op (Wanted.free rfl) rfl (A_len (v := .d (eI (p0.length : Int))) rfl rfl rfl rfl (len_slc un22)) ?_
        refine SO.op (Wanted.free rfl) rfl (A_move (v := .d (eI (0 : Int))) rfl rfl) ?_
        refine SO.nil ?_
        change SC _ _ _ _ _
        refine SC.blk ?_
        obtain ⟨u2_108, h2, h1⟩ := ob h1
        refine SC.loopB h2 (fun y => ⟨mk 37 [(1, .slc 1 1 0 p1.length none), (6, .slc 2 1 0 y.1.length none), (16, .slc 0 3 0 p0.length none), (17, .d (eI (p0.length : Int))), (18, .d (eI y.2))], [.row 3 (List.map eApiValue p0) true, .row 1 (List.map eB p1) true, .row 1 (List.map eU8 y.1) true]⟩) (Wk.trans (Wk.pushE (σ' := [.row 3 (List.map eApiValue p0) true, .row 1 (List.map eB p1) true, .row 1 (List.map eU8 ([] : List UInt8)) true]) (.row 1 [] true) (fun _ hh => by cases hh) rfl) (Wk.trans (Wk.env (e' := [(1, .slc 1 1 0 p1.length none), (6, .slc 2 1 0 (([] : List UInt8).length) none), (16, .slc 0 3 0 p0.length none), (17, .d (eI (p0.length : Int))), (18, .d (eI (0 : Int)))]) (EW.cons (AW.refl _) (EW.cons (AW.slcn _ _ _) (EW.cons (AW.refl _) (EW.cons (AW.refl _) (EW.cons (AW.refl _) EW.nil)))))) (Wk.env (e' := [(1, .slc 1 1 0 p1.length none), (6, .slc 2 1 0 (([] : List UInt8).length) none), (16, .slc 0 3 0 p0.length none), (17, .d (eI (p0.length : Int))), (18, .d (eI (0 : Int)))]) (EW.cons (AW.refl _) (EW.cons (AW.refl _) (EW.cons (AW.refl _) (EW.cons (AW.refl _) (EW.cons (AW.refl _) EW.nil)))))))) ?_
        intro n115
        rintro ⟨y97, y98⟩ w2_107 h3 hv3
        change SC _ _ _ ⟨mk 37 [(1, .slc 1 1 0 p1.length none), (6, .slc 2 1 0 y97.length none), (16, .slc 0 3 0 p0.length none), (17, .d (eI (p0.length : Int))), (18, .d (eI y98))], [.row 3 (List.map eApiValue p0) true, .row 1 (List.map eB p1) true, .row 1 (List.map eU8 y97) true]⟩ _
        refine SC.seq ?_
        refine SC.region ?_
        refine SO.op (Wanted.free rfl) rfl (A_bin (v := .d (eB (decide (y98 < (p0.length : Int))))) rfl rfl rfl (fun X Y => b_i64_lss _ X Y y98 (p0.length : Int))) ?_
        refine SO.nil ?_
        change SC _ _ _ _ _
        refine SC.seq ?_
        refine SC.condB (t := (decide (y98 < (p0.length : Int)))) rfl (fun hb109 => ?_) (fun hb109 => ?_)
        · replace h3 := ct hb109 h3
          refine SC.skip ?_
          change SC _ _ _ _ _
          refine SC.seq ?_
          refine SC.blk ?_
          refine SC.seq ?_
          refine SC.region ?_
          refine SO.op (Wanted.free rfl) rfl (A_move (v := .d (eI y98)) rfl rfl) ?_
          obtain ⟨v110, hv110, h3⟩ := ob h3
          refine SO.opW (v' := .ref 0 (y98.toNat) 0) (Wanted.free rfl) rfl (A_indexAddr (v := .ref 0 (0 + y98.toNat) 0) rfl rfl rfl (ia_slc un22 ts35 (getI_lt hv110))) (AW.refz (by simp)) ?_
          refine SO.op (Wanted.free rfl) rfl (A_load (v := .d (eApiValue v110)) rfl rfl (ld_row ts35 ta35 rfl (map_get (getI_some hv110).2) rfl)) ?_
          refine SO.op (Wanted.free rfl) rfl (A_alloc (σ' := [.row 3 (List.map eApiValue p0) true, .row 1 (List.map eB p1) true, .row 1 (List.map eU8 y97) true, .box (.d (eApiValue (ApiValue.mk (0 : Int) (0 : UInt64) ([] : List UInt8))))]) rfl zo35 rfl rfl) ?_
          refine SO.op (Wanted.free rfl) rfl (A_assign (v := .d (eI y98)) rfl rfl) ?_
          refine SO.op0 (Wanted.free rfl) rfl (A_store (σ' := [.row 3 (List.map eApiValue p0) true, .row 1 (List.map eB p1) true, .row 1 (List.map eU8 y97) true, .box (.d (eApiValue v110))]) rfl rfl rfl (st_box (zs := [.d (eI v110.Kind), .d (eU64 v110.N), .d (eS v110.S)]) ts35 rfl rfl rfl rfl rfl (Nat.le_of_ble_eq_true rfl) rfl)) ?_
          refine SO.nil ?_
          change SC _ _ _ _ _
          refine SC.draws (by kernel_rfl) ?_
          refine ST.op (mk' := ([], false)) (Wanted.free rfl) rfl (A_move (v := .slc 2 1 0 y97.length none) rfl rfl) rfl ?_
          refine ST.op (mk' := ([3], false)) (Wanted.free rfl) rfl (A_load (v := .d (eApiValue v110)) rfl rfl (ld_box ts35 ta35 rfl rfl)) rfl ?_
          refine ST.op (mk' := ([], false)) (Wanted.free rfl) rfl (A_move (v := .slc 1 1 0 p1.length none) rfl rfl) rfl ?_
          refine ST.op (mk' := ([], false)) (Wanted.free rfl) rfl (A_move (v := .d (eI y98)) rfl rfl) rfl ?_
          obtain ⟨v111, hv111, h3⟩ := ob h3
          refine ST.opW (mk' := ([], false)) (v' := .ref 1 (y98.toNat) 0) (Wanted.free rfl) rfl (A_indexAddr (v := .ref 1 (0 + y98.toNat) 0) rfl rfl rfl (ia_slc un23 ts4 (getI_lt hv111))) (AW.refz (by simp)) rfl ?_
          refine ST.op (mk' := ([1], false)) (Wanted.free rfl) rfl (A_load (v := .d (eB v111)) rfl rfl (ld_row ts4 ta4 rfl (map_get (getI_some hv111).2) rfl)) rfl ?_
          obtain ⟨r112, hq113, h3⟩ := ob h3
          refine ST.call0 (r := .d ((eL 1 eU8) r112)) (Wanted.free rfl) rfl rfl rfl rfl rfl cb28 rfl (fun _ => rfl) (fun _ => rfl) (key_one_ok v110 v111 _ hq113) ?_
          obtain ⟨hg114, h3⟩ := gd h3
          refine ST.op (mk' := ([2, 4], true)) (Wanted.free rfl) rfl (A_append (v := .slc 4 1 0 ((y97 ++ r112).length) none) (σ' := [.row 3 (List.map eApiValue p0) true, .row 1 (List.map eB p1) true, .dead, .box (.d (eApiValue v110)), .row 1 (List.map eU8 (y97 ++ r112)) true]) rfl rfl rfl rfl rfl bc51 (ApFull (f := eU8) (xs := y97) (ys := r112) rfl un51 ei5 rfl el_lst hg114 rfl rfl)) rfl ?_
          refine ST.op (mk' := ([], false)) (Wanted.free rfl) rfl (A_assign (v := .slc 4 1 0 ((y97 ++ r112).length) none) rfl rfl) rfl ?_
          refine ST.nil (And.intro (by decide +kernel) ?_)
          change SC _ _ _ _ _
          refine SC.region ?_
          refine SO.op (Wanted.free rfl) rfl (A_bin (v := .d (eI (w64 (y98 + (1 : Int))))) rfl rfl rfl (fun X Y => b_i64_add _ X Y y98 (1 : Int))) ?_
          refine SO.op (Wanted.free rfl) rfl (A_move (v := .d (eI (w64 (y98 + (1 : Int))))) rfl rfl) ?_
          refine SO.nil ?_
          have q := Option.some.inj h3; subst q
          exact lf (Wk.trans (Wk.env (e' := [(1, .slc 1 1 0 p1.length none), (6, .slc 4 1 0 ((y97 ++ r112).length) none), (16, .slc 0 3 0 p0.length none), (17, .d (eI (p0.length : Int))), (18, .d (eI (w64 (y98 + (1 : Int)))))]) (EW.cons (AW.refl _) (EW.cons (AW.refl _) (EW.cons (AW.refl _) (EW.cons (AW.refl _) (EW.cons (AW.refl _) EW.nil)))))) (Wk.canon (ι := [0, 1, 4]) (roots := [0, 1, 1, 4, 0]) (os := [.row 3 (List.map eApiValue p0) true, .row 1 (List.map eB p1) true, .row 1 (List.map eU8 (y97 ++ r112)) true]) (e' := [(1, .slc 1 1 0 p1.length none), (6, .slc 2 1 0 ((y97 ++ r112).length) none), (16, .slc 0 3 0 p0.length none), (17, .d (eI (p0.length : Int))), (18, .d (eI (w64 (y98 + (1 : Int)))))]) rfl rfl rfl))
        · replace h3 := cf hb109 h3
          refine SC.exit ?_
          have q := Option.some.inj h3; subst q
          have q : _ = _ := hv3; subst q
          have q := Option.some.inj h1; subst q
          exact (Wk.env (e' := [(6, .slc 2 1 0 y97.length none)]) (EW.cons (AW.refl _) EW.nil))
      · rintro y89 h0
        change SC _ _ _ ⟨mk 37 [(6, .slc 2 1 0 y89.length none)], [.row 3 (List.map eApiValue p0) true, .row 1 (List.map eB p1) true, .row 1 (List.map eU8 y89) true]⟩ _
        refine SC.seq ?_
        refine SC.seq ?_
        refine SC.region ?_
        refine SO.op (Wanted.free rfl) rfl (A_move (v := .slc 2 1 0 y89.length none) rfl rfl) ?_
        refine SO.op (Wanted.free rfl) rfl (A_len (v := .d (eI (y89.length : Int))) rfl rfl rfl rfl (len_slc un51)) ?_
        refine SO.op (Wanted.free rfl) rfl (A_bin (v := .d (eB (decide ((y89.length : Int) > (256 : Int))))) rfl rfl rfl (fun X Y => b_i64_gtr _ X Y (y89.length : Int) (256 : Int))) ?_
        refine SO.nil ?_
        change SC _ _ _ _ _
        refine SC.condB (t := (decide ((y89.length : Int) > (256 : Int)))) rfl (fun hb116 => ?_) (fun hb116 => ?_)
        · replace h0 := ct hb116 h0
          refine SC.seq ?_
          refine SC.region ?_
          refine SO.op (Wanted.free rfl) rfl (A_assign (v := .d (eS ([] : List UInt8))) rfl rfl) ?_
          refine SO.op (Wanted.free rfl) rfl (A_assign (v := .d (eI (7 : Int))) rfl rfl) ?_
          refine SO.nil ?_
          change SC _ _ _ _ _
          refine SC.ret ?_
          have q := Option.some.inj h0; subst q
          exact finR (Wk.trans (Wk.env (e' := [(4, .d (eS ([] : List UInt8))), (5, .d (eI (7 : Int)))]) (EW.cons (AW.refl _) (EW.cons (AW.refl _) EW.nil))) (Wk.canon (ι := [0, 1]) (roots := [0, 1]) (os := [.row 3 (List.map eApiValue p0) true, .row 1 (List.map eB p1) true]) (e' := [(4, .d (eS ([] : List UInt8))), (5, .d (eI (7 : Int)))]) rfl rfl rfl)) (lresT rfl (lresT rfl lresN)) rfl
        · replace h0 := cf hb116 h0
          refine SC.skip ?_
          change SC _ _ _ _ _
          refine SC.seq ?_
          refine SC.region ?_
          refine SO.op (Wanted.free rfl) rfl (A_move (v := .slc 2 1 0 y89.length none) rfl rfl) ?_
          refine SO.op (Wanted.free rfl) rfl (A_conv (v := .d (eS y89)) rfl rfl (cv_bytes_str un51 un9 un5 (el_full (xs := y89) rfl) (fun _ hh => by cases hh))) ?_
          refine SO.op (Wanted.free rfl) rfl (A_assign (v := .d (eS y89)) rfl rfl) ?_
          refine SO.op (Wanted.free rfl) rfl (A_assign (v := .d (eI (0 : Int))) rfl rfl) ?_
          refine SO.nil ?_
          change SC _ _ _ _ _
          refine SC.ret ?_
          have q := Option.some.inj h0; subst q
          exact finR (Wk.trans (Wk.env (e' := [(4, .d (eS y89)), (5, .d (eI (0 : Int)))]) (EW.cons (AW.refl _) (EW.cons (AW.refl _) EW.nil))) (Wk.canon (ι := [0, 1]) (roots := [0, 1]) (os := [.row 3 (List.map eApiValue p0) true, .row 1 (List.map eB p1) true]) (e' := [(4, .d (eS y89)), (5, .d (eI (0 : Int)))]) rfl rfl rfl)) (lresT rfl (lresT rfl lresN)) rfl

/-- granary/key.After -/
noncomputable def key_After (p0 : List UInt8) : Option ((List UInt8) × Bool) :=
  Option.bind (α := Nat)
    (Option.bind (α := Nat)
      (loop (Y := Nat) (W := Nat) (fun y106 =>
        Option.bind (α := Bool)
          (bif (decide ((y106 : Int) > (0 : Int))) then
            Option.bind (getS p0 0 y106 (w64 ((y106 : Int) - (1 : Int)))) fun v123 =>
            some (v123 == (255 : UInt8))
          else
            some false)
          fun y120 =>
        bif y120 then
          bif decide (0 ≤ (w64 ((y106 : Int) - (1 : Int))) ∧ (w64 ((y106 : Int) - (1 : Int))) ≤ (y106 : Int)) then
          some (Sum.inl ((w64 ((y106 : Int) - (1 : Int))).toNat))
          else none
        else
          some (Sum.inr y106)) p0.length)
      (fun e => some e))
    fun y96 =>
  bif ((y96 : Int) == (0 : Int)) then
    some (([] : List UInt8), false)
  else
    Option.bind (getS p0 0 y96 (w64 ((y96 : Int) - (1 : Int)))) fun v128 =>
    Option.bind (getS p0 0 y96 (w64 ((y96 : Int) - (1 : Int)))) fun v129 =>
    bif decide (0 + y96 ≤ (List.set p0 ((w64 ((y96 : Int) - (1 : Int))).toNat) (v128 + (1 : UInt8))).length) then
    some ((List.take y96 (List.drop 0 (List.set p0 ((w64 ((y96 : Int) - (1 : Int))).toNat) (v128 + (1 : UInt8))))), true)
    else none
theorem key_After_ok (p0 : List UInt8) (r : (List UInt8) × Bool) (h0 : key_After p0 = some r) : CallAt Tryd.prog 15 [.d (eS p0)] [] (.tuple [.d (eS r.1), .d (eB r.2)]) [] := by
  unfold key_After at h0
  refine CallAt.of Tryd.func15 rfl ?_
  refine SC.post (Q' := fun e s => ∃ s1, Wk _ s s1 ∧ Fin _ _ _ _ e s1) ?_ (fun _ _ h => h)
  refine SC.wk (s1 := ⟨mk 37 [(0, .d (eS p0))], []⟩) (Wk.begin (n := 37) (Nat.le_of_ble_eq_true rfl)) ?_
  refine SC.seq ?_
  refine SC.region ?_
  refine SO.op (Wanted.free rfl) rfl (A_assign (v := .d (eS ([] : List UInt8))) rfl rfl) ?_
  refine SO.op (Wanted.free rfl) rfl (A_assign (v := .d (eB false)) rfl rfl) ?_
  refine SO.nil ?_
  change SC _ _ _ _ _
  refine SC.seq ?_
  refine SC.region ?_
  refine SO.op (Wanted.free rfl) rfl (A_move (v := .d (eS p0)) rfl rfl) ?_
  refine SO.op (Wanted.free rfl) rfl (A_conv (v := .slc 0 1 0 p0.length none) (σ' := [.row 1 (List.map eU8 p0) true]) rfl rfl (cv_str_bytes un9 un51 un5 ts5 rfl rfl)) ?_
  refine SO.op (Wanted.free rfl) rfl (A_assign (v := .slc 0 1 0 p0.length none) rfl rfl) ?_
  refine SO.nil ?_
  change SC _ _ _ _ _
  refine SC.seqP h0 (fun y => ⟨mk 37 [(4, .slc 0 1 0 y none)], [.row 1 (List.map eU8 p0) true]⟩) ?_ ?_
  · intro u1_97 h1
    refine SC.blk ?_
    obtain ⟨u2_117, h2, h1⟩ := ob h1
    refine SC.loopB h2 (fun y => ⟨mk 37 [(4, .slc 0 1 0 y none)], [.row 1 (List.map eU8 p0) true]⟩) (Wk.env (e' := [(4, .slc 0 1 0 p0.length none)]) (EW.cons (AW.refl _) EW.nil)) ?_
    intro n126
    rintro y106 w2_116 h3 hv3
    change SC _ _ _ ⟨mk 37 [(4, .slc 0 1 0 y106 none)], [.row 1 (List.map eU8 p0) true]⟩ _
    refine SC.seq ?_
    refine SC.seqP h3 (fun y => ⟨mk 37 [(4, .slc 0 1 0 y106 none), (18, .d (eB y))], [.row 1 (List.map eU8 p0) true]⟩) ?_ ?_
    · intro u4_121 h4
      refine SC.region ?_
      refine SO.op (Wanted.free rfl) rfl (A_move (v := .slc 0 1 0 y106 none) rfl rfl) ?_
      refine SO.op (Wanted.free rfl) rfl (A_len (v := .d (eI (y106 : Int))) rfl rfl rfl rfl (len_slc un51)) ?_
      refine SO.op (Wanted.free rfl) rfl (A_bin (v := .d (eB (decide ((y106 : Int) > (0 : Int))))) rfl rfl rfl (fun X Y => b_i64_gtr _ X Y (y106 : Int) (0 : Int))) ?_
      refine SO.op (Wanted.free rfl) rfl (A_move (v := .d (eB (decide ((y106 : Int) > (0 : Int))))) rfl rfl) ?_
      refine SO.split (fun hb122 => ?_) (fun hb122 => ?_)
      · replace h4 := ct hb122 h4
        refine SO.op (Wanted.by rfl rfl rfl rfl) rfl (A_move (v := .slc 0 1 0 y106 none) rfl rfl) ?_
        refine SO.op (Wanted.by rfl rfl rfl rfl) rfl (A_move (v := .slc 0 1 0 y106 none) rfl rfl) ?_
        refine SO.op (Wanted.by rfl rfl rfl rfl) rfl (A_len (v := .d (eI (y106 : Int))) rfl rfl rfl rfl (len_slc un51)) ?_
        refine SO.op (Wanted.by rfl rfl rfl rfl) rfl (A_bin (v := .d (eI (w64 ((y106 : Int) - (1 : Int))))) rfl rfl rfl (fun X Y => b_i64_sub _ X Y (y106 : Int) (1 : Int))) ?_
        obtain ⟨v123, hv123, h4⟩ := ob h4
        refine SO.opW (v' := .ref 0 ((w64 ((y106 : Int) - (1 : Int))).toNat) 0) (Wanted.by rfl rfl rfl rfl) rfl (A_indexAddr (v := .ref 0 (0 + (w64 ((y106 : Int) - (1 : Int))).toNat) 0) rfl rfl rfl (ia_slc un51 ts5 (getS_some hv123).1)) (AW.refz (by simp)) ?_
        refine SO.op (Wanted.by rfl rfl rfl rfl) rfl (A_load (v := .d (eU8 v123)) rfl rfl (ld_row ts5 ta5 rfl (map_get (by have q := (getS_some hv123).2; simpa using q)) rfl)) ?_
        refine SO.op (Wanted.by rfl rfl rfl rfl) rfl (A_bin (v := .d (eB (v123 == (255 : UInt8)))) rfl rfl rfl (fun X Y => b_u8_eql _ X Y v123 (255 : UInt8))) ?_
        refine SO.op (Wanted.free rfl) rfl (A_pickT (v := .d (eB (v123 == (255 : UInt8)))) rfl rfl rfl) ?_
        refine SO.nil ?_
        have q := Option.some.inj h4; subst q
        exact (Wk.env (e' := [(4, .slc 0 1 0 y106 none), (18, .d (eB (v123 == (255 : UInt8))))]) (EW.cons (AW.refl _) (EW.cons (AW.refl _) EW.nil)))
      · replace h4 := cf hb122 h4
        refine SO.skip (Wanted.by rfl rfl rfl rfl) rfl ?_
        refine SO.skip (Wanted.by rfl rfl rfl rfl) rfl ?_
        refine SO.skip (Wanted.by rfl rfl rfl rfl) rfl ?_
        refine SO.skip (Wanted.by rfl rfl rfl rfl) rfl ?_
        refine SO.skip (Wanted.by rfl rfl rfl rfl) rfl ?_
        refine SO.skip (Wanted.by rfl rfl rfl rfl) rfl ?_
        refine SO.skip (Wanted.by rfl rfl rfl rfl) rfl ?_
        refine SO.op (Wanted.free rfl) rfl (A_pickF (v := .d (eB false)) rfl rfl rfl) ?_
        refine SO.nil ?_
        have q := Option.some.inj h4; subst q
        exact (Wk.env (e' := [(4, .slc 0 1 0 y106 none), (18, .d (eB false))]) (EW.cons (AW.refl _) (EW.cons (AW.refl _) EW.nil)))
    · rintro y120 h3
      change SC _ _ _ ⟨mk 37 [(4, .slc 0 1 0 y106 none), (18, .d (eB y120))], [.row 1 (List.map eU8 p0) true]⟩ _
      refine SC.condB (t := y120) rfl (fun hb124 => ?_) (fun hb124 => ?_)
      · replace h3 := ct hb124 h3
        refine SC.skip ?_
        change SC _ _ _ _ _
        refine SC.blk ?_
        refine SC.region ?_
        refine SO.op (Wanted.free rfl) rfl (A_move (v := .slc 0 1 0 y106 none) rfl rfl) ?_
        refine SO.op (Wanted.free rfl) rfl (A_move (v := .slc 0 1 0 y106 none) rfl rfl) ?_
        refine SO.op (Wanted.free rfl) rfl (A_len (v := .d (eI (y106 : Int))) rfl rfl rfl rfl (len_slc un51)) ?_
        refine SO.op (Wanted.free rfl) rfl (A_bin (v := .d (eI (w64 ((y106 : Int) - (1 : Int))))) rfl rfl rfl (fun X Y => b_i64_sub _ X Y (y106 : Int) (1 : Int))) ?_
        obtain ⟨hg125, h3⟩ := gd h3
        refine SO.op (Wanted.free rfl) rfl (A_slice (v := .slc 0 1 0 ((w64 ((y106 : Int) - (1 : Int))).toNat) none) rfl rfl rfl rfl rfl (sl_slc_hi un51 ts5 hg125)) ?_
        refine SO.op (Wanted.free rfl) rfl (A_assign (v := .slc 0 1 0 ((w64 ((y106 : Int) - (1 : Int))).toNat) none) rfl rfl) ?_
        refine SO.nil ?_
        have q := Option.some.inj h3; subst q
        exact lf (Wk.env (e' := [(4, .slc 0 1 0 ((w64 ((y106 : Int) - (1 : Int))).toNat) none)]) (EW.cons (AW.refl _) EW.nil))
      · replace h3 := cf hb124 h3
        refine SC.exit ?_
        have q := Option.some.inj h3; subst q
        have q : _ = _ := hv3; subst q
        have q := Option.some.inj h1; subst q
        exact (Wk.env (e' := [(4, .slc 0 1 0 y106 none)]) (EW.cons (AW.refl _) EW.nil))
  · rintro y96 h0
    change SC _ _ _ ⟨mk 37 [(4, .slc 0 1 0 y96 none)], [.row 1 (List.map eU8 p0) true]⟩ _
    refine SC.seq ?_
    refine SC.seq ?_
    refine SC.region ?_
    refine SO.op (Wanted.free rfl) rfl (A_move (v := .slc 0 1 0 y96 none) rfl rfl) ?_
    refine SO.op (Wanted.free rfl) rfl (A_len (v := .d (eI (y96 : Int))) rfl rfl rfl rfl (len_slc un51)) ?_
    refine SO.op (Wanted.free rfl) rfl (A_bin (v := .d (eB ((y96 : Int) == (0 : Int)))) rfl rfl rfl (fun X Y => b_i64_eql _ X Y (y96 : Int) (0 : Int))) ?_
    refine SO.nil ?_
    change SC _ _ _ _ _
    refine SC.condB (t := ((y96 : Int) == (0 : Int))) rfl (fun hb127 => ?_) (fun hb127 => ?_)
    · replace h0 := ct hb127 h0
      refine SC.seq ?_
      refine SC.region ?_
      refine SO.op (Wanted.free rfl) rfl (A_assign (v := .d (eS ([] : List UInt8))) rfl rfl) ?_
      refine SO.op (Wanted.free rfl) rfl (A_assign (v := .d (eB false)) rfl rfl) ?_
      refine SO.nil ?_
      change SC _ _ _ _ _
      refine SC.ret ?_
      have q := Option.some.inj h0; subst q
      exact finR (Wk.trans (Wk.env (e' := [(2, .d (eS ([] : List UInt8))), (3, .d (eB false))]) (EW.cons (AW.refl _) (EW.cons (AW.refl _) EW.nil))) (Wk.canon (ι := []) (roots := []) (os := []) (e' := [(2, .d (eS ([] : List UInt8))), (3, .d (eB false))]) rfl rfl rfl)) (lresT rfl (lresT rfl lresN)) rfl
    · replace h0 := cf hb127 h0
      refine SC.skip ?_
      change SC _ _ _ _ _
      refine SC.seq ?_
      refine SC.region ?_
      refine SO.op (Wanted.free rfl) rfl (A_move (v := .slc 0 1 0 y96 none) rfl rfl) ?_
      refine SO.op (Wanted.free rfl) rfl (A_move (v := .slc 0 1 0 y96 none) rfl rfl) ?_
      refine SO.op (Wanted.free rfl) rfl (A_len (v := .d (eI (y96 : Int))) rfl rfl rfl rfl (len_slc un51)) ?_
      refine SO.op (Wanted.free rfl) rfl (A_bin (v := .d (eI (w64 ((y96 : Int) - (1 : Int))))) rfl rfl rfl (fun X Y => b_i64_sub _ X Y (y96 : Int) (1 : Int))) ?_
      obtain ⟨v128, hv128, h0⟩ := ob h0
      refine SO.opW (v' := .ref 0 ((w64 ((y96 : Int) - (1 : Int))).toNat) 0) (Wanted.free rfl) rfl (A_indexAddr (v := .ref 0 (0 + (w64 ((y96 : Int) - (1 : Int))).toNat) 0) rfl rfl rfl (ia_slc un51 ts5 (getS_some hv128).1)) (AW.refz (by simp)) ?_
      refine SO.op (Wanted.free rfl) rfl (A_load (v := .d (eU8 v128)) rfl rfl (ld_row ts5 ta5 rfl (map_get (by have q := (getS_some hv128).2; simpa using q)) rfl)) ?_
      refine SO.op (Wanted.free rfl) rfl (A_bin (v := .d (eU8 (v128 + (1 : UInt8)))) rfl rfl rfl (fun X Y => b_u8_add _ X Y v128 (1 : UInt8))) ?_
      obtain ⟨v129, hv129, h0⟩ := ob h0
      refine SO.opW (v' := .ref 0 ((w64 ((y96 : Int) - (1 : Int))).toNat) 0) (Wanted.free rfl) rfl (A_indexAddr (v := .ref 0 (0 + (w64 ((y96 : Int) - (1 : Int))).toNat) 0) rfl rfl rfl (ia_slc un51 ts5 (getS_some hv129).1)) (AW.refz (by simp)) ?_
      refine SO.op0 (Wanted.free rfl) rfl (A_store (σ' := [.row 1 (List.map eU8 (List.set p0 ((w64 ((y96 : Int) - (1 : Int))).toNat) (v128 + (1 : UInt8)))) true]) rfl rfl rfl (st_row1 (f := eU8) (v := (v128 + (1 : UInt8))) ts5 rfl rfl rfl rfl (by have q := (getS_some hv129).2; simpa using q) rfl rfl)) ?_
      refine SO.nil ?_
      change SC _ _ _ _ _
      refine SC.seq ?_
      refine SC.region ?_
      refine SO.op (Wanted.free rfl) rfl (A_move (v := .slc 0 1 0 y96 none) rfl rfl) ?_
      obtain ⟨hg130, h0⟩ := gd h0
      refine SO.op (Wanted.free rfl) rfl (A_conv (v := .d (eS (List.take y96 (List.drop 0 (List.set p0 ((w64 ((y96 : Int) - (1 : Int))).toNat) (v128 + (1 : UInt8))))))) rfl rfl (cv_bytes_str un51 un9 un5 (el_slc (xs := (List.set p0 ((w64 ((y96 : Int) - (1 : Int))).toNat) (v128 + (1 : UInt8)))) rfl hg130) (fun _ hh => by cases hh))) ?_
      refine SO.op (Wanted.free rfl) rfl (A_assign (v := .d (eS (List.take y96 (List.drop 0 (List.set p0 ((w64 ((y96 : Int) - (1 : Int))).toNat) (v128 + (1 : UInt8))))))) rfl rfl) ?_
      refine SO.op (Wanted.free rfl) rfl (A_assign (v := .d (eB true)) rfl rfl) ?_
      refine SO.nil ?_
      change SC _ _ _ _ _
      refine SC.ret ?_
      have q := Option.some.inj h0; subst q
      exact finR (Wk.trans (Wk.env (e' := [(2, .d (eS (List.take y96 (List.drop 0 (List.set p0 ((w64 ((y96 : Int) - (1 : Int))).toNat) (v128 + (1 : UInt8))))))), (3, .d (eB true))]) (EW.cons (AW.refl _) (EW.cons (AW.refl _) EW.nil))) (Wk.canon (ι := []) (roots := []) (os := []) (e' := [(2, .d (eS (List.take y96 (List.drop 0 (List.set p0 ((w64 ((y96 : Int) - (1 : Int))).toNat) (v128 + (1 : UInt8))))))), (3, .d (eB true))]) rfl rfl rfl)) (lresT rfl (lresT rfl lresN)) rfl

/-- granary/key.Under -/
noncomputable def key_Under (p0 : List UInt8) : Option ApiSpan :=
  Option.bind (key_After p0) fun (r5, r6) =>
  some (ApiSpan.mk p0 r5 (!r6))
theorem key_Under_ok (p0 : List UInt8) (r : ApiSpan) (h0 : key_Under p0 = some r) : CallAt Tryd.prog 17 [.d (eS p0)] [] (.d (eApiSpan r)) [.box (.d (eApiSpan r))] := by
  unfold key_Under at h0
  refine CallAt.of Tryd.func17 rfl ?_
  refine SC.post (Q' := fun e s => ∃ s1, Wk _ s s1 ∧ Fin _ _ _ _ e s1) ?_ (fun _ _ h => h)
  refine SC.wk (s1 := ⟨mk 15 [(0, .d (eS p0))], []⟩) (Wk.begin (n := 15) (Nat.le_of_ble_eq_true rfl)) ?_
  refine SC.seq ?_
  refine SC.region ?_
  refine SO.op (Wanted.free rfl) rfl (A_alloc (σ' := [.box (.d (eApiSpan (ApiSpan.mk ([] : List UInt8) ([] : List UInt8) false)))]) rfl zo38 rfl rfl) ?_
  refine SO.nil ?_
  change SC _ _ _ _ _
  refine SC.seq ?_
  refine SC.region ?_
  refine SO.op (Wanted.free rfl) rfl (A_move (v := .d (eS p0)) rfl rfl) ?_
  obtain ⟨⟨r5, r6⟩, hq7, h0⟩ := ob h0
  refine SO.call0 (r := .tuple [.d (eS r5), .d (eB r6)]) (Wanted.free rfl) rfl rfl rfl rfl rfl cb15 rfl (fun _ => rfl) (fun _ => rfl) (key_After_ok p0 _ hq7) ?_
  refine SO.op (Wanted.free rfl) rfl (A_move (v := .tuple [.d (eS r5), .d (eB r6)]) rfl rfl) ?_
  refine SO.op (Wanted.free rfl) rfl (A_extract (v := .d (eS r5)) rfl rfl rfl) ?_
  refine SO.op (Wanted.free rfl) rfl (A_extract (v := .d (eB r6)) rfl rfl rfl) ?_
  refine SO.op (Wanted.free rfl) rfl (A_assign (v := .d (eS r5)) rfl rfl) ?_
  refine SO.op (Wanted.free rfl) rfl (A_assign (v := .d (eB r6)) rfl rfl) ?_
  refine SO.nil ?_
  change SC _ _ _ _ _
  refine SC.seq ?_
  refine SC.region ?_
  refine SO.op (Wanted.free rfl) rfl (A_move (v := .d (eS p0)) rfl rfl) ?_
  refine SO.op (Wanted.free rfl) rfl (A_move (v := .d (eS r5)) rfl rfl) ?_
  refine SO.op (Wanted.free rfl) rfl (A_move (v := .d (eB r6)) rfl rfl) ?_
  refine SO.op (Wanted.free rfl) rfl (A_un (v := .d (eB (!r6))) rfl rfl rfl rfl) ?_
  refine SO.op (Wanted.free rfl) rfl (A_build (v := .d (eApiSpan (ApiSpan.mk p0 r5 (!r6)))) rfl rfl (bd38_0_1_2 p0 r5 (!r6))) ?_
  refine SO.op0 (Wanted.free rfl) rfl (A_store (σ' := [.box (.d (eApiSpan (ApiSpan.mk p0 r5 (!r6))))]) rfl rfl rfl (st_box (zs := [.d (eS p0), .d (eS r5), .d (eB (!r6))]) ts38 rfl rfl rfl rfl rfl (Nat.le_of_ble_eq_true rfl) rfl)) ?_
  refine SO.nil ?_
  change SC _ _ _ _ _
  refine SC.ret ?_
  have q := Option.some.inj h0; subst q
  exact finR (Wk.env (e' := [(2, .ref 0 0 0)]) (EW.cons (AW.refl _) EW.nil)) (lresC rfl (ld_box ts38 ta38 rfl rfl) lresN) rfl

/-- granary/key.In -/
noncomputable def key_In (p0 : ApiSpan) (p1 : List UInt8) : Option Bool :=
  Option.bind (α := Bool)
    (bif (ltS p0.Lo p1 || p0.Lo == p1) then
      bif p0.Open then
        some true
      else
        some (ltS p1 p0.Hi)
    else
      some false)
    fun y10 =>
  some y10
theorem key_In_ok (p0 : ApiSpan) (p1 : List UInt8) (r : Bool) (h0 : key_In p0 p1 = some r) : CallAt Tryd.prog 19 [.d (eApiSpan p0), .d (eS p1)] [] (.d (eB r)) [] := by
  unfold key_In at h0
  refine CallAt.of Tryd.func19 rfl ?_
  refine SC.post (Q' := fun e s => ∃ s1, Wk _ s s1 ∧ Fin _ _ _ _ e s1) ?_ (fun _ _ h => h)
  refine SC.wk (s1 := ⟨mk 19 [(0, .d (eApiSpan p0)), (1, .d (eS p1))], []⟩) (Wk.begin (n := 19) (Nat.le_of_ble_eq_true rfl)) ?_
  refine SC.seq ?_
  refine SC.region ?_
  refine SO.op (Wanted.free rfl) rfl (A_box (v := .d (eApiSpan p0)) (σ' := [.box (.d (eApiSpan p0))]) rfl rfl rfl rfl rfl) ?_
  refine SO.op (Wanted.free rfl) rfl (A_assign (v := .d (eB false)) rfl rfl) ?_
  refine SO.nil ?_
  change SC _ _ _ _ _
  refine SC.seqP h0 (fun y => ⟨mk 19 [(4, .d (eB y))], []⟩) ?_ ?_
  · intro u1_11 h1
    refine SC.region ?_
    refine SO.op (Wanted.free rfl) rfl (A_fieldAddr rfl rfl (fa_ref fo38_0 ts9 rfl)) ?_
    refine SO.op (Wanted.free rfl) rfl (A_load (v := .d (eS p0.Lo)) rfl rfl (ld_box ts9 ta9 rfl rfl)) ?_
    refine SO.op (Wanted.free rfl) rfl (A_move (v := .d (eS p1)) rfl rfl) ?_
    refine SO.op (Wanted.free rfl) rfl (A_bin (v := .d (eB (ltS p0.Lo p1 || p0.Lo == p1))) rfl rfl rfl (fun X Y => b_str_leq _ X Y p0.Lo p1)) ?_
    refine SO.op (Wanted.free rfl) rfl (A_move (v := .d (eB (ltS p0.Lo p1 || p0.Lo == p1))) rfl rfl) ?_
    refine SO.split (fun hb12 => ?_) (fun hb12 => ?_)
    · replace h1 := ct hb12 h1
      refine SO.op (Wanted.by rfl rfl rfl rfl) rfl (A_fieldAddr rfl rfl (fa_ref fo38_2 ts4 rfl)) ?_
      refine SO.op (Wanted.by rfl rfl rfl rfl) rfl (A_load (v := .d (eB p0.Open)) rfl rfl (ld_box ts4 ta4 rfl rfl)) ?_
      refine SO.op (Wanted.by rfl rfl rfl rfl) rfl (A_move (v := .d (eB p0.Open)) rfl rfl) ?_
      refine SO.split (fun hb13 => ?_) (fun hb13 => ?_)
      · replace h1 := ct hb13 h1
        refine SO.skip (Wanted.by rfl rfl rfl rfl) rfl ?_
        refine SO.skip (Wanted.by rfl rfl rfl rfl) rfl ?_
        refine SO.skip (Wanted.by rfl rfl rfl rfl) rfl ?_
        refine SO.skip (Wanted.by rfl rfl rfl rfl) rfl ?_
        refine SO.op (Wanted.by rfl rfl rfl rfl) rfl (A_pickT (v := .d (eB true)) rfl rfl rfl) ?_
        refine SO.op (Wanted.free rfl) rfl (A_pickT (v := .d (eB true)) rfl rfl rfl) ?_
        refine SO.op (Wanted.free rfl) rfl (A_assign (v := .d (eB true)) rfl rfl) ?_
        refine SO.nil ?_
        have q := Option.some.inj h1; subst q
        exact (Wk.trans (Wk.env (e' := [(4, .d (eB true))]) (EW.cons (AW.refl _) EW.nil)) (Wk.canon (ι := []) (roots := []) (os := []) (e' := [(4, .d (eB true))]) rfl rfl rfl))
      · replace h1 := cf hb13 h1
        refine SO.op (Wanted.by rfl rfl rfl rfl) rfl (A_move (v := .d (eS p1)) rfl rfl) ?_
        refine SO.op (Wanted.by rfl rfl rfl rfl) rfl (A_fieldAddr rfl rfl (fa_ref fo38_1 ts9 rfl)) ?_
        refine SO.op (Wanted.by rfl rfl rfl rfl) rfl (A_load (v := .d (eS p0.Hi)) rfl rfl (ld_box ts9 ta9 rfl rfl)) ?_
        refine SO.op (Wanted.by rfl rfl rfl rfl) rfl (A_bin (v := .d (eB (ltS p1 p0.Hi))) rfl rfl rfl (fun X Y => b_str_lss _ X Y p1 p0.Hi)) ?_
        refine SO.op (Wanted.by rfl rfl rfl rfl) rfl (A_pickF (v := .d (eB (ltS p1 p0.Hi))) rfl rfl rfl) ?_
        refine SO.op (Wanted.free rfl) rfl (A_pickT (v := .d (eB (ltS p1 p0.Hi))) rfl rfl rfl) ?_
        refine SO.op (Wanted.free rfl) rfl (A_assign (v := .d (eB (ltS p1 p0.Hi))) rfl rfl) ?_
        refine SO.nil ?_
        have q := Option.some.inj h1; subst q
        exact (Wk.trans (Wk.env (e' := [(4, .d (eB (ltS p1 p0.Hi)))]) (EW.cons (AW.refl _) EW.nil)) (Wk.canon (ι := []) (roots := []) (os := []) (e' := [(4, .d (eB (ltS p1 p0.Hi)))]) rfl rfl rfl))
    · replace h1 := cf hb12 h1
      refine SO.skip (Wanted.by rfl rfl rfl rfl) rfl ?_
      refine SO.skip (Wanted.by rfl rfl rfl rfl) rfl ?_
      refine SO.skip (Wanted.by rfl rfl rfl rfl) rfl ?_
      refine SO.skip (Wanted.out rfl rfl rfl) rfl ?_
      refine SO.skip (Wanted.out rfl rfl rfl) rfl ?_
      refine SO.skip (Wanted.out rfl rfl rfl) rfl ?_
      refine SO.skip (Wanted.out rfl rfl rfl) rfl ?_
      refine SO.skip (Wanted.by rfl rfl rfl rfl) rfl ?_
      refine SO.op (Wanted.free rfl) rfl (A_pickF (v := .d (eB false)) rfl rfl rfl) ?_
      refine SO.op (Wanted.free rfl) rfl (A_assign (v := .d (eB false)) rfl rfl) ?_
      refine SO.nil ?_
      have q := Option.some.inj h1; subst q
      exact (Wk.trans (Wk.env (e' := [(4, .d (eB false))]) (EW.cons (AW.refl _) EW.nil)) (Wk.canon (ι := []) (roots := []) (os := []) (e' := [(4, .d (eB false))]) rfl rfl rfl))
  · rintro y10 h0
    change SC _ _ _ ⟨mk 19 [(4, .d (eB y10))], []⟩ _
    refine SC.ret ?_
    have q := Option.some.inj h0; subst q
    exact finR (Wk.env (e' := [(4, .d (eB y10))]) (EW.cons (AW.refl _) EW.nil)) (lresT rfl lresN) rfl

/-- granary/granaryref06.Cmp -/
noncomputable def ref06_Cmp (p0 : ApiValue) (p1 : ApiValue) : Option Int :=
  bif (p0.Kind != p1.Kind) then
    bif (decide (p0.Kind < p1.Kind)) then
      some (-1 : Int)
    else
      some (1 : Int)
  else
    bif (p0.N != p1.N) then
      Option.bind (α := Bool)
        (bif (p0.Kind == (1 : Int)) then
          some (decide ((i64u p0.N) < (i64u p1.N)))
        else
          some (decide (p0.N < p1.N)))
        fun y16 =>
      bif y16 then
        some (-1 : Int)
      else
        some (1 : Int)
    else
      bif (p0.S == p1.S) then
        some (0 : Int)
      else
        bif (ltS p0.S p1.S) then
          some (-1 : Int)
        else
          some (1 : Int)
theorem ref06_Cmp_ok (p0 : ApiValue) (p1 : ApiValue) (r : Int) (h0 : ref06_Cmp p0 p1 = some r) : CallAt Tryd.prog 24 [.d (eApiValue p0), .d (eApiValue p1)] [] (.d (eI r)) [] := by
  unfold ref06_Cmp at h0
  refine CallAt.of Tryd.func24 rfl ?_
  refine SC.post (Q' := fun e s => ∃ s1, Wk _ s s1 ∧ Fin _ _ _ _ e s1) ?_ (fun _ _ h => h)
  refine SC.wk (s1 := ⟨mk 47 [(0, .d (eApiValue p0)), (1, .d (eApiValue p1))], []⟩) (Wk.begin (n := 47) (Nat.le_of_ble_eq_true rfl)) ?_
  refine SC.seq ?_
  refine SC.region ?_
  refine SO.op (Wanted.free rfl) rfl (A_box (v := .d (eApiValue p0)) (σ' := [.box (.d (eApiValue p0))]) rfl rfl rfl rfl rfl) ?_
  refine SO.op (Wanted.free rfl) rfl (A_box (v := .d (eApiValue p1)) (σ' := [.box (.d (eApiValue p0)), .box (.d (eApiValue p1))]) rfl rfl rfl rfl rfl) ?_
  refine SO.op (Wanted.free rfl) rfl (A_assign (v := .d (eI (0 : Int))) rfl rfl) ?_
  refine SO.nil ?_
  change SC _ _ _ _ _
  refine SC.seq ?_
  refine SC.seq ?_
  refine SC.region ?_
  refine SO.op (Wanted.free rfl) rfl (A_fieldAddr rfl rfl (fa_ref fo35_0 ts3 rfl)) ?_
  refine SO.op (Wanted.free rfl) rfl (A_load (v := .d (eI p0.Kind)) rfl rfl (ld_box ts3 ta3 rfl rfl)) ?_
  refine SO.op (Wanted.free rfl) rfl (A_fieldAddr rfl rfl (fa_ref fo35_0 ts3 rfl)) ?_
  refine SO.op (Wanted.free rfl) rfl (A_load (v := .d (eI p1.Kind)) rfl rfl (ld_box ts3 ta3 rfl rfl)) ?_
  refine SO.op (Wanted.free rfl) rfl (A_bin (v := .d (eB (p0.Kind != p1.Kind))) rfl rfl rfl (fun X Y => b_i64_neq _ X Y p0.Kind p1.Kind)) ?_
  refine SO.nil ?_
  change SC _ _ _ _ _
  refine SC.condB (t := (p0.Kind != p1.Kind)) rfl (fun hb12 => ?_) (fun hb12 => ?_)
  · replace h0 := ct hb12 h0
    refine SC.seq ?_
    refine SC.seq ?_
    refine SC.region ?_
    refine SO.op (Wanted.free rfl) rfl (A_fieldAddr rfl rfl (fa_ref fo35_0 ts3 rfl)) ?_
    refine SO.op (Wanted.free rfl) rfl (A_load (v := .d (eI p0.Kind)) rfl rfl (ld_box ts3 ta3 rfl rfl)) ?_
    refine SO.op (Wanted.free rfl) rfl (A_fieldAddr rfl rfl (fa_ref fo35_0 ts3 rfl)) ?_
    refine SO.op (Wanted.free rfl) rfl (A_load (v := .d (eI p1.Kind)) rfl rfl (ld_box ts3 ta3 rfl rfl)) ?_
    refine SO.op (Wanted.free rfl) rfl (A_bin (v := .d (eB (decide (p0.Kind < p1.Kind)))) rfl rfl rfl (fun X Y => b_i64_lss _ X Y p0.Kind p1.Kind)) ?_
    refine SO.nil ?_
    change SC _ _ _ _ _
    refine SC.condB (t := (decide (p0.Kind < p1.Kind))) rfl (fun hb13 => ?_) (fun hb13 => ?_)
    · replace h0 := ct hb13 h0
      refine SC.seq ?_
      refine SC.region ?_
      refine SO.op (Wanted.free rfl) rfl (A_assign (v := .d (eI (-1 : Int))) rfl rfl) ?_
      refine SO.nil ?_
      change SC _ _ _ _ _
      refine SC.ret ?_
      have q := Option.some.inj h0; subst q
      exact finR (Wk.trans (Wk.env (e' := [(4, .d (eI (-1 : Int)))]) (EW.cons (AW.refl _) EW.nil)) (Wk.canon (ι := []) (roots := []) (os := []) (e' := [(4, .d (eI (-1 : Int)))]) rfl rfl rfl)) (lresT rfl lresN) rfl
    · replace h0 := cf hb13 h0
      refine SC.skip ?_
      change SC _ _ _ _ _
      refine SC.seq ?_
      refine SC.region ?_
      refine SO.op (Wanted.free rfl) rfl (A_assign (v := .d (eI (1 : Int))) rfl rfl) ?_
      refine SO.nil ?_
      change SC _ _ _ _ _
      refine SC.ret ?_
      have q := Option.some.inj h0; subst q
      exact finR (Wk.trans (Wk.env (e' := [(4, .d (eI (1 : Int)))]) (EW.cons (AW.refl _) EW.nil)) (Wk.canon (ι := []) (roots := []) (os := []) (e' := [(4, .d (eI (1 : Int)))]) rfl rfl rfl)) (lresT rfl lresN) rfl
  · replace h0 := cf hb12 h0
    refine SC.skip ?_
    change SC _ _ _ _ _
    refine SC.seq ?_
    refine SC.seq ?_
    refine SC.region ?_
    refine SO.op (Wanted.free rfl) rfl (A_fieldAddr rfl rfl (fa_ref fo35_1 ts33 rfl)) ?_
    refine SO.op (Wanted.free rfl) rfl (A_load (v := .d (eU64 p0.N)) rfl rfl (ld_box ts33 ta33 rfl rfl)) ?_
    refine SO.op (Wanted.free rfl) rfl (A_fieldAddr rfl rfl (fa_ref fo35_1 ts33 rfl)) ?_
    refine SO.op (Wanted.free rfl) rfl (A_load (v := .d (eU64 p1.N)) rfl rfl (ld_box ts33 ta33 rfl rfl)) ?_
    refine SO.op (Wanted.free rfl) rfl (A_bin (v := .d (eB (p0.N != p1.N))) rfl rfl rfl (fun X Y => b_u64_neq _ X Y p0.N p1.N)) ?_
    refine SO.nil ?_
    change SC _ _ _ _ _
    refine SC.condB (t := (p0.N != p1.N)) rfl (fun hb14 => ?_) (fun hb14 => ?_)
    · replace h0 := ct hb14 h0
      refine SC.seq ?_
      refine SC.region ?_
      refine SO.op (Wanted.free rfl) rfl (A_fieldAddr rfl rfl (fa_ref fo35_1 ts33 rfl)) ?_
      refine SO.op (Wanted.free rfl) rfl (A_load (v := .d (eU64 p0.N)) rfl rfl (ld_box ts33 ta33 rfl rfl)) ?_
      refine SO.op (Wanted.free rfl) rfl (A_fieldAddr rfl rfl (fa_ref fo35_1 ts33 rfl)) ?_
      refine SO.op (Wanted.free rfl) rfl (A_load (v := .d (eU64 p1.N)) rfl rfl (ld_box ts33 ta33 rfl rfl)) ?_
      refine SO.op (Wanted.free rfl) rfl (A_bin (v := .d (eB (decide (p0.N < p1.N)))) rfl rfl rfl (fun X Y => b_u64_lss _ X Y p0.N p1.N)) ?_
      refine SO.op (Wanted.free rfl) rfl (A_assign (v := .d (eB (decide (p0.N < p1.N)))) rfl rfl) ?_
      refine SO.nil ?_
      change SC _ _ _ _ _
      refine SC.seqP h0 (fun y => ⟨mk 47 [(5, .d (eB y))], []⟩) ?_ ?_
      · intro u1_17 h1
        refine SC.seq ?_
        refine SC.region ?_
        refine SO.op (Wanted.free rfl) rfl (A_fieldAddr rfl rfl (fa_ref fo35_0 ts3 rfl)) ?_
        refine SO.op (Wanted.free rfl) rfl (A_load (v := .d (eI p0.Kind)) rfl rfl (ld_box ts3 ta3 rfl rfl)) ?_
        refine SO.op (Wanted.free rfl) rfl (A_bin (v := .d (eB (p0.Kind == (1 : Int)))) rfl rfl rfl (fun X Y => b_i64_eql _ X Y p0.Kind (1 : Int))) ?_
        refine SO.nil ?_
        change SC _ _ _ _ _
        refine SC.condB (t := (p0.Kind == (1 : Int))) rfl (fun hb18 => ?_) (fun hb18 => ?_)
        · replace h1 := ct hb18 h1
          refine SC.region ?_
          refine SO.op (Wanted.free rfl) rfl (A_fieldAddr rfl rfl (fa_ref fo35_1 ts33 rfl)) ?_
          refine SO.op (Wanted.free rfl) rfl (A_load (v := .d (eU64 p0.N)) rfl rfl (ld_box ts33 ta33 rfl rfl)) ?_
          refine SO.op (Wanted.free rfl) rfl (A_conv (v := .d (eI (i64u p0.N))) rfl rfl (cv_u64_i64 un33 un2 p0.N)) ?_
          refine SO.op (Wanted.free rfl) rfl (A_fieldAddr rfl rfl (fa_ref fo35_1 ts33 rfl)) ?_
          refine SO.op (Wanted.free rfl) rfl (A_load (v := .d (eU64 p1.N)) rfl rfl (ld_box ts33 ta33 rfl rfl)) ?_
          refine SO.op (Wanted.free rfl) rfl (A_conv (v := .d (eI (i64u p1.N))) rfl rfl (cv_u64_i64 un33 un2 p1.N)) ?_
          refine SO.op (Wanted.free rfl) rfl (A_bin (v := .d (eB (decide ((i64u p0.N) < (i64u p1.N))))) rfl rfl rfl (fun X Y => b_i64_lss _ X Y (i64u p0.N) (i64u p1.N))) ?_
          refine SO.op (Wanted.free rfl) rfl (A_assign (v := .d (eB (decide ((i64u p0.N) < (i64u p1.N))))) rfl rfl) ?_
          refine SO.nil ?_
          have q := Option.some.inj h1; subst q
          exact (Wk.trans (Wk.env (e' := [(5, .d (eB (decide ((i64u p0.N) < (i64u p1.N)))))]) (EW.cons (AW.refl _) EW.nil)) (Wk.canon (ι := []) (roots := []) (os := []) (e' := [(5, .d (eB (decide ((i64u p0.N) < (i64u p1.N)))))]) rfl rfl rfl))
        · replace h1 := cf hb18 h1
          refine SC.skip ?_
          have q := Option.some.inj h1; subst q
          exact (Wk.trans (Wk.env (e' := [(5, .d (eB (decide (p0.N < p1.N))))]) (EW.cons (AW.refl _) EW.nil)) (Wk.canon (ι := []) (roots := []) (os := []) (e' := [(5, .d (eB (decide (p0.N < p1.N))))]) rfl rfl rfl))
      · rintro y16 h0
        change SC _ _ _ ⟨mk 47 [(5, .d (eB y16))], []⟩ _
        refine SC.seq ?_
        refine SC.seq ?_
        refine SC.region ?_
        refine SO.op (Wanted.free rfl) rfl (A_move (v := .d (eB y16)) rfl rfl) ?_
        refine SO.nil ?_
        change SC _ _ _ _ _
        refine SC.condB (t := y16) rfl (fun hb19 => ?_) (fun hb19 => ?_)
        · replace h0 := ct hb19 h0
          refine SC.seq ?_
          refine SC.region ?_
          refine SO.op (Wanted.free rfl) rfl (A_assign (v := .d (eI (-1 : Int))) rfl rfl) ?_
          refine SO.nil ?_
          change SC _ _ _ _ _
          refine SC.ret ?_
          have q := Option.some.inj h0; subst q
          exact finR (Wk.env (e' := [(4, .d (eI (-1 : Int)))]) (EW.cons (AW.refl _) EW.nil)) (lresT rfl lresN) rfl
        · replace h0 := cf hb19 h0
          refine SC.skip ?_
          change SC _ _ _ _ _
          refine SC.seq ?_
          refine SC.region ?_
          refine SO.op (Wanted.free rfl) rfl (A_assign (v := .d (eI (1 : Int))) rfl rfl) ?_
          refine SO.nil ?_
          change SC _ _ _ _ _
          refine SC.ret ?_
          have q := Option.some.inj h0; subst q
          exact finR (Wk.env (e' := [(4, .d (eI (1 : Int)))]) (EW.cons (AW.refl _) EW.nil)) (lresT rfl lresN) rfl
    · replace h0 := cf hb14 h0
      refine SC.skip ?_
      change SC _ _ _ _ _
      refine SC.seq ?_
      refine SC.seq ?_
      refine SC.region ?_
      refine SO.op (Wanted.free rfl) rfl (A_fieldAddr rfl rfl (fa_ref fo35_2 ts9 rfl)) ?_
      refine SO.op (Wanted.free rfl) rfl (A_load (v := .d (eS p0.S)) rfl rfl (ld_box ts9 ta9 rfl rfl)) ?_
      refine SO.op (Wanted.free rfl) rfl (A_fieldAddr rfl rfl (fa_ref fo35_2 ts9 rfl)) ?_
      refine SO.op (Wanted.free rfl) rfl (A_load (v := .d (eS p1.S)) rfl rfl (ld_box ts9 ta9 rfl rfl)) ?_
      refine SO.op (Wanted.free rfl) rfl (A_bin (v := .d (eB (p0.S == p1.S))) rfl rfl rfl (fun X Y => b_str_eql _ X Y p0.S p1.S)) ?_
      refine SO.nil ?_
      change SC _ _ _ _ _
      refine SC.condB (t := (p0.S == p1.S)) rfl (fun hb20 => ?_) (fun hb20 => ?_)
      · replace h0 := ct hb20 h0
        refine SC.seq ?_
        refine SC.region ?_
        refine SO.op (Wanted.free rfl) rfl (A_assign (v := .d (eI (0 : Int))) rfl rfl) ?_
        refine SO.nil ?_
        change SC _ _ _ _ _
        refine SC.ret ?_
        have q := Option.some.inj h0; subst q
        exact finR (Wk.trans (Wk.env (e' := [(4, .d (eI (0 : Int)))]) (EW.cons (AW.refl _) EW.nil)) (Wk.canon (ι := []) (roots := []) (os := []) (e' := [(4, .d (eI (0 : Int)))]) rfl rfl rfl)) (lresT rfl lresN) rfl
      · replace h0 := cf hb20 h0
        refine SC.skip ?_
        change SC _ _ _ _ _
        refine SC.seq ?_
        refine SC.seq ?_
        refine SC.region ?_
        refine SO.op (Wanted.free rfl) rfl (A_fieldAddr rfl rfl (fa_ref fo35_2 ts9 rfl)) ?_
        refine SO.op (Wanted.free rfl) rfl (A_load (v := .d (eS p0.S)) rfl rfl (ld_box ts9 ta9 rfl rfl)) ?_
        refine SO.op (Wanted.free rfl) rfl (A_fieldAddr rfl rfl (fa_ref fo35_2 ts9 rfl)) ?_
        refine SO.op (Wanted.free rfl) rfl (A_load (v := .d (eS p1.S)) rfl rfl (ld_box ts9 ta9 rfl rfl)) ?_
        refine SO.op (Wanted.free rfl) rfl (A_bin (v := .d (eB (ltS p0.S p1.S))) rfl rfl rfl (fun X Y => b_str_lss _ X Y p0.S p1.S)) ?_
        refine SO.nil ?_
        change SC _ _ _ _ _
        refine SC.condB (t := (ltS p0.S p1.S)) rfl (fun hb21 => ?_) (fun hb21 => ?_)
        · replace h0 := ct hb21 h0
          refine SC.seq ?_
          refine SC.region ?_
          refine SO.op (Wanted.free rfl) rfl (A_assign (v := .d (eI (-1 : Int))) rfl rfl) ?_
          refine SO.nil ?_
          change SC _ _ _ _ _
          refine SC.ret ?_
          have q := Option.some.inj h0; subst q
          exact finR (Wk.trans (Wk.env (e' := [(4, .d (eI (-1 : Int)))]) (EW.cons (AW.refl _) EW.nil)) (Wk.canon (ι := []) (roots := []) (os := []) (e' := [(4, .d (eI (-1 : Int)))]) rfl rfl rfl)) (lresT rfl lresN) rfl
        · replace h0 := cf hb21 h0
          refine SC.skip ?_
          change SC _ _ _ _ _
          refine SC.seq ?_
          refine SC.region ?_
          refine SO.op (Wanted.free rfl) rfl (A_assign (v := .d (eI (1 : Int))) rfl rfl) ?_
          refine SO.nil ?_
          change SC _ _ _ _ _
          refine SC.ret ?_
          have q := Option.some.inj h0; subst q
          exact finR (Wk.trans (Wk.env (e' := [(4, .d (eI (1 : Int)))]) (EW.cons (AW.refl _) EW.nil)) (Wk.canon (ι := []) (roots := []) (os := []) (e' := [(4, .d (eI (1 : Int)))]) rfl rfl rfl)) (lresT rfl lresN) rfl
end Lv
