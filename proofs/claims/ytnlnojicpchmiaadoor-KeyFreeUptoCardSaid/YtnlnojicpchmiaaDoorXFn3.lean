/- Part of the proof of a law: functions and their walks. -/
import Derived.Test.YtnlnojicpchmiaaDoorXFn2
namespace Lv
open Go Go.Proofs
set_option linter.unusedVariables false
set_option linter.unusedSimpArgs false
set_option linter.unusedSectionVars false
set_option maxRecDepth 100000
variable [BaseTab] [TabOk]
/-- (*granary/granaryref01.In).Left -/
noncomputable def ref01_In_Left (p0 : List UInt8) (p1 : Int) (p2 : Bool) : Option Unit :=
  some ()
theorem ref01_In_Left_ok (p0 : List UInt8) (p1 : Int) (p2 : Bool) (r : Unit) (h0 : ref01_In_Left p0 p1 p2 = some r) : CallAt Tryd.prog 66 [.ref 0 0 0] [.box (.agg [.slc 1 1 0 p0.length none, .d (eI p1), .d (eB p2)]), .row 1 (List.map eU8 p0) true] (.d (eI (w64 ((p0.length : Int) - p1)))) [.box (.agg [.slc 1 1 0 p0.length none, .d (eI p1), .d (eB p2)]), .row 1 (List.map eU8 p0) true] := by
  unfold ref01_In_Left at h0
  refine CallAt.of Tryd.func66 rfl ?_
  refine SC.post (Q' := fun e s => ∃ s1, Wk _ s s1 ∧ Fin _ _ _ _ e s1) ?_ (fun _ _ h => h)
  refine SC.wk (s1 := ⟨mk 13 [(0, .ref 0 0 0)], [.box (.agg [.slc 1 1 0 p0.length none, .d (eI p1), .d (eB p2)]), .row 1 (List.map eU8 p0) true]⟩) (Wk.begin (n := 13) (Nat.le_of_ble_eq_true rfl)) ?_
  refine SC.seq ?_
  refine SC.region ?_
  refine SO.op (Wanted.free rfl) rfl (A_assign (v := .d (eI (0 : Int))) rfl rfl) ?_
  refine SO.nil ?_
  change SC _ _ _ _ _
  refine SC.seq ?_
  refine SC.draws (by kernel_rfl) ?_
  refine ST.op (mk' := ([], false)) (Wanted.free rfl) rfl (A_move (v := .ref 0 0 0) rfl rfl) rfl ?_
  refine ST.op (mk' := ([], false)) (Wanted.free rfl) rfl (A_nilRef rfl rfl) rfl ?_
  refine ST.op (mk' := ([], false)) (Wanted.free rfl) rfl (A_fieldAddr rfl rfl (fa_ref fo80_0 ts51 rfl)) rfl ?_
  refine ST.op (mk' := ([0], false)) (Wanted.free rfl) rfl (A_load (v := .slc 1 1 0 p0.length none) rfl rfl (ld_box ts51 ta51 rfl rfl)) rfl ?_
  refine ST.op (mk' := ([], false)) (Wanted.free rfl) rfl (A_len (v := .d (eI (p0.length : Int))) rfl rfl rfl rfl (len_slc un51)) rfl ?_
  refine ST.op (mk' := ([], false)) (Wanted.free rfl) rfl (A_move (v := .ref 0 0 0) rfl rfl) rfl ?_
  refine ST.op (mk' := ([], false)) (Wanted.free rfl) rfl (A_nilRef rfl rfl) rfl ?_
  refine ST.op (mk' := ([], false)) (Wanted.free rfl) rfl (A_fieldAddr rfl rfl (fa_ref fo80_1 ts3 rfl)) rfl ?_
  refine ST.op (mk' := ([0], false)) (Wanted.free rfl) rfl (A_load (v := .d (eI p1)) rfl rfl (ld_box ts3 ta3 rfl rfl)) rfl ?_
  refine ST.op (mk' := ([], false)) (Wanted.free rfl) rfl (A_bin (v := .d (eI (w64 ((p0.length : Int) - p1)))) rfl rfl rfl (fun X Y => b_i64_sub _ X Y (p0.length : Int) p1)) rfl ?_
  refine ST.op (mk' := ([], false)) (Wanted.free rfl) rfl (A_assign (v := .d (eI (w64 ((p0.length : Int) - p1)))) rfl rfl) rfl ?_
  refine ST.nil (And.intro (by decide +kernel) ?_)
  change SC _ _ _ _ _
  refine SC.ret ?_
  have q := Option.some.inj h0; subst q
  exact finR (Wk.env (e' := [(2, .d (eI (w64 ((p0.length : Int) - p1))))]) (EW.cons (AW.refl _) EW.nil)) (lresT rfl lresN) rfl

/-- (*granary/granaryref01.In).Num -/
noncomputable def ref01_In_Num (p0 : Int) (p1 : List UInt8) (p2 : Int) (p3 : Bool) : Option (UInt64 × Int × Bool) :=
  Option.bind (α := Bool)
    (bif p3 then
      some true
    else
      Option.bind (ref01_In_Left p1 p2 p3) fun _ =>
      some (decide ((w64 ((p1.length : Int) - p2)) < p0)))
    fun y41 =>
  bif y41 then
    some ((0 : UInt64), p2, true)
  else
    Option.bind (α := UInt64)
      (Option.bind (α := UInt64)
        (loop (Y := UInt64 × Int) (W := UInt64) (fun (y63, y64) =>
          bif (decide (y64 < p0)) then
            Option.bind (getI p1 (w64 (p2 + y64))) fun v72 =>
            some (Sum.inl (((shl64 y63 8) + (v72.toUInt64)), (w64 (y64 + (1 : Int)))))
          else
            some (Sum.inr y63)) ((0 : UInt64), (0 : Int)))
        (fun e => some e))
      fun y59 =>
    some (y59, (w64 (p2 + p0)), p3)
theorem ref01_In_Num_ok (p0 : Int) (p1 : List UInt8) (p2 : Int) (p3 : Bool) (r : UInt64 × Int × Bool) (h0 : ref01_In_Num p0 p1 p2 p3 = some r) : CallAt Tryd.prog 54 [.ref 0 0 0, .d (eI p0)] [.box (.agg [.slc 1 1 0 p1.length none, .d (eI p2), .d (eB p3)]), .row 1 (List.map eU8 p1) true] (.d (eU64 r.1)) [.box (.agg [.slc 1 1 0 p1.length none, .d (eI r.2.1), .d (eB r.2.2)]), .row 1 (List.map eU8 p1) true] := by
  unfold ref01_In_Num at h0
  refine CallAt.of Tryd.func54 rfl ?_
  refine SC.post (Q' := fun e s => ∃ s1, Wk _ s s1 ∧ Fin _ _ _ _ e s1) ?_ (fun _ _ h => h)
  refine SC.wk (s1 := ⟨mk 50 [(0, .ref 0 0 0), (1, .d (eI p0))], [.box (.agg [.slc 1 1 0 p1.length none, .d (eI p2), .d (eB p3)]), .row 1 (List.map eU8 p1) true]⟩) (Wk.begin (n := 50) (Nat.le_of_ble_eq_true rfl)) ?_
  refine SC.seq ?_
  refine SC.region ?_
  refine SO.op (Wanted.free rfl) rfl (A_assign (v := .d (eU64 (0 : UInt64))) rfl rfl) ?_
  refine SO.nil ?_
  change SC _ _ _ _ _
  refine SC.seq ?_
  refine SC.seqP h0 (fun y => ⟨mk 50 [(0, .ref 0 0 0), (1, .d (eI p0)), (16, .d (eB y))], [.box (.agg [.slc 1 1 0 p1.length none, .d (eI p2), .d (eB p3)]), .row 1 (List.map eU8 p1) true]⟩) ?_ ?_
  · intro u1_42 h1
    refine SC.region ?_
    refine SO.op (Wanted.free rfl) rfl (A_move (v := .ref 0 0 0) rfl rfl) ?_
    refine SO.op (Wanted.free rfl) rfl (A_nilRef rfl rfl) ?_
    refine SO.op (Wanted.free rfl) rfl (A_fieldAddr rfl rfl (fa_ref fo80_2 ts4 rfl)) ?_
    refine SO.op (Wanted.free rfl) rfl (A_load (v := .d (eB p3)) rfl rfl (ld_box ts4 ta4 rfl rfl)) ?_
    refine SO.op (Wanted.free rfl) rfl (A_move (v := .d (eB p3)) rfl rfl) ?_
    refine SO.split (fun hb43 => ?_) (fun hb43 => ?_)
    · replace h1 := ct hb43 h1
      refine SO.skip (Wanted.by rfl rfl rfl rfl) rfl ?_
      refine SO.skip (Wanted.by rfl rfl rfl rfl) rfl ?_
      refine SO.skip (Wanted.by rfl rfl rfl rfl) rfl ?_
      refine SO.skip (Wanted.by rfl rfl rfl rfl) rfl ?_
      refine SO.op (Wanted.free rfl) rfl (A_pickT (v := .d (eB true)) rfl rfl rfl) ?_
      refine SO.nil ?_
      have q := Option.some.inj h1; subst q
      exact (Wk.env (e' := [(0, .ref 0 0 0), (1, .d (eI p0)), (16, .d (eB true))]) (EW.cons (AW.refl _) (EW.cons (AW.refl _) (EW.cons (AW.refl _) EW.nil))))
    · replace h1 := cf hb43 h1
      refine SO.op (Wanted.by rfl rfl rfl rfl) rfl (A_move (v := .ref 0 0 0) rfl rfl) ?_
      obtain ⟨_, hq44, h1⟩ := ob h1
      refine SO.call (ι := [0, 1]) (σc := [.box (.agg [.slc 1 1 0 p1.length none, .d (eI p2), .d (eB p3)]), .row 1 (List.map eU8 p1) true]) (args' := [.ref 0 0 0]) (r' := .d (eI (w64 ((p1.length : Int) - p2)))) (σ2 := [.box (.agg [.slc 1 1 0 p1.length none, .d (eI p2), .d (eB p3)]), .row 1 (List.map eU8 p1) true]) (os := [.box (.agg [.slc 1 1 0 p1.length none, .d (eI p2), .d (eB p3)]), .row 1 (List.map eU8 p1) true]) (r := .d (eI (w64 ((p1.length : Int) - p2)))) (σ' := [.box (.agg [.slc 1 1 0 p1.length none, .d (eI p2), .d (eB p3)]), .row 1 (List.map eU8 p1) true]) (Wanted.by rfl rfl rfl rfl) rfl rfl rfl rfl rfl cb66 rfl rfl (ref01_In_Left_ok p1 p2 p3 _ hq44) rfl rfl (Nat.le_of_ble_eq_true rfl) rfl ?_
      refine SO.op (Wanted.by rfl rfl rfl rfl) rfl (A_move (v := .d (eI p0)) rfl rfl) ?_
      refine SO.op (Wanted.by rfl rfl rfl rfl) rfl (A_bin (v := .d (eB (decide ((w64 ((p1.length : Int) - p2)) < p0)))) rfl rfl rfl (fun X Y => b_i64_lss _ X Y (w64 ((p1.length : Int) - p2)) p0)) ?_
      refine SO.op (Wanted.free rfl) rfl (A_pickF (v := .d (eB (decide ((w64 ((p1.length : Int) - p2)) < p0)))) rfl rfl rfl) ?_
      refine SO.nil ?_
      have q := Option.some.inj h1; subst q
      exact (Wk.env (e' := [(0, .ref 0 0 0), (1, .d (eI p0)), (16, .d (eB (decide ((w64 ((p1.length : Int) - p2)) < p0))))]) (EW.cons (AW.refl _) (EW.cons (AW.refl _) (EW.cons (AW.refl _) EW.nil))))
  · rintro y41 h0
    change SC _ _ _ ⟨mk 50 [(0, .ref 0 0 0), (1, .d (eI p0)), (16, .d (eB y41))], [.box (.agg [.slc 1 1 0 p1.length none, .d (eI p2), .d (eB p3)]), .row 1 (List.map eU8 p1) true]⟩ _
    refine SC.condB (t := y41) rfl (fun hb45 => ?_) (fun hb45 => ?_)
    · replace h0 := ct hb45 h0
      refine SC.seq ?_
      refine SC.region ?_
      refine SO.op (Wanted.free rfl) rfl (A_move (v := .ref 0 0 0) rfl rfl) ?_
      refine SO.op (Wanted.free rfl) rfl (A_nilRef rfl rfl) ?_
      refine SO.op (Wanted.free rfl) rfl (A_fieldAddr rfl rfl (fa_ref fo80_2 ts4 rfl)) ?_
      refine SO.op0 (Wanted.free rfl) rfl (A_store (σ' := [.box (.agg [.slc 1 1 0 p1.length none, .d (eI p2), .d (eB true)]), .row 1 (List.map eU8 p1) true]) rfl rfl rfl (st_box (zs := [.d (eB true)]) ts4 rfl rfl rfl rfl rfl (Nat.le_of_ble_eq_true rfl) rfl)) ?_
      refine SO.nil ?_
      change SC _ _ _ _ _
      refine SC.seq ?_
      refine SC.region ?_
      refine SO.op (Wanted.free rfl) rfl (A_assign (v := .d (eU64 (0 : UInt64))) rfl rfl) ?_
      refine SO.nil ?_
      change SC _ _ _ _ _
      refine SC.ret ?_
      have q := Option.some.inj h0; subst q
      exact finR (Wk.env (e' := [(4, .d (eU64 (0 : UInt64)))]) (EW.cons (AW.refl _) EW.nil)) (lresT rfl lresN) rfl
    · replace h0 := cf hb45 h0
      refine SC.skip ?_
      change SC _ _ _ _ _
      refine SC.seq ?_
      refine SC.region ?_
      refine SO.op (Wanted.free rfl) rfl (A_assign (v := .d (eU64 (0 : UInt64))) rfl rfl) ?_
      refine SO.nil ?_
      change SC _ _ _ _ _
      refine SC.seqP h0 (fun y => ⟨mk 50 [(0, .ref 0 0 0), (1, .d (eI p0)), (5, .d (eU64 y))], [.box (.agg [.slc 1 1 0 p1.length none, .d (eI p2), .d (eB p3)]), .row 1 (List.map eU8 p1) true]⟩) ?_ ?_
      · intro u1_60 h1
        refine SC.seq ?_
        refine SC.region ?_
        refine SO.op (Wanted.free rfl) rfl (A_assign (v := .d (eI (0 : Int))) rfl rfl) ?_
        refine SO.nil ?_
        change SC _ _ _ _ _
        refine SC.blk ?_
        obtain ⟨u2_70, h2, h1⟩ := ob h1
        refine SC.loopB h2 (fun y => ⟨mk 50 [(0, .ref 0 0 0), (1, .d (eI p0)), (5, .d (eU64 y.1)), (6, .d (eI y.2))], [.box (.agg [.slc 1 1 0 p1.length none, .d (eI p2), .d (eB p3)]), .row 1 (List.map eU8 p1) true]⟩) (Wk.env (e' := [(0, .ref 0 0 0), (1, .d (eI p0)), (5, .d (eU64 (0 : UInt64))), (6, .d (eI (0 : Int)))]) (EW.cons (AW.refl _) (EW.cons (AW.refl _) (EW.cons (AW.refl _) (EW.cons (AW.refl _) EW.nil))))) ?_
        intro n73
        rintro ⟨y63, y64⟩ w2_69 h3 hv3
        change SC _ _ _ ⟨mk 50 [(0, .ref 0 0 0), (1, .d (eI p0)), (5, .d (eU64 y63)), (6, .d (eI y64))], [.box (.agg [.slc 1 1 0 p1.length none, .d (eI p2), .d (eB p3)]), .row 1 (List.map eU8 p1) true]⟩ _
        refine SC.seq ?_
        refine SC.seq ?_
        refine SC.region ?_
        refine SO.op (Wanted.free rfl) rfl (A_move (v := .d (eI y64)) rfl rfl) ?_
        refine SO.op (Wanted.free rfl) rfl (A_move (v := .d (eI p0)) rfl rfl) ?_
        refine SO.op (Wanted.free rfl) rfl (A_bin (v := .d (eB (decide (y64 < p0)))) rfl rfl rfl (fun X Y => b_i64_lss _ X Y y64 p0)) ?_
        refine SO.nil ?_
        change SC _ _ _ _ _
        refine SC.condB (t := (decide (y64 < p0))) rfl (fun hb71 => ?_) (fun hb71 => ?_)
        · replace h3 := ct hb71 h3
          refine SC.skip ?_
          change SC _ _ _ _ _
          refine SC.seq ?_
          refine SC.blk ?_
          refine SC.draws (by kernel_rfl) ?_
          refine ST.op (mk' := ([], false)) (Wanted.free rfl) rfl (A_move (v := .d (eU64 y63)) rfl rfl) rfl ?_
          refine ST.op (mk' := ([], false)) (Wanted.free rfl) rfl (A_bin (v := .d (eU64 (shl64 y63 8))) rfl rfl rfl (fun X Y => b_u64_shl _ X Y y63 _ (by decide))) rfl ?_
          refine ST.op (mk' := ([], false)) (Wanted.free rfl) rfl (A_move (v := .ref 0 0 0) rfl rfl) rfl ?_
          refine ST.op (mk' := ([], false)) (Wanted.free rfl) rfl (A_nilRef rfl rfl) rfl ?_
          refine ST.op (mk' := ([], false)) (Wanted.free rfl) rfl (A_fieldAddr rfl rfl (fa_ref fo80_0 ts51 rfl)) rfl ?_
          refine ST.op (mk' := ([0], false)) (Wanted.free rfl) rfl (A_load (v := .slc 1 1 0 p1.length none) rfl rfl (ld_box ts51 ta51 rfl rfl)) rfl ?_
          refine ST.op (mk' := ([], false)) (Wanted.free rfl) rfl (A_move (v := .ref 0 0 0) rfl rfl) rfl ?_
          refine ST.op (mk' := ([], false)) (Wanted.free rfl) rfl (A_nilRef rfl rfl) rfl ?_
          refine ST.op (mk' := ([], false)) (Wanted.free rfl) rfl (A_fieldAddr rfl rfl (fa_ref fo80_1 ts3 rfl)) rfl ?_
          refine ST.op (mk' := ([0], false)) (Wanted.free rfl) rfl (A_load (v := .d (eI p2)) rfl rfl (ld_box ts3 ta3 rfl rfl)) rfl ?_
          refine ST.op (mk' := ([], false)) (Wanted.free rfl) rfl (A_move (v := .d (eI y64)) rfl rfl) rfl ?_
          refine ST.op (mk' := ([], false)) (Wanted.free rfl) rfl (A_bin (v := .d (eI (w64 (p2 + y64)))) rfl rfl rfl (fun X Y => b_i64_add _ X Y p2 y64)) rfl ?_
          obtain ⟨v72, hv72, h3⟩ := ob h3
          refine ST.opW (mk' := ([], false)) (v' := .ref 1 ((w64 (p2 + y64)).toNat) 0) (Wanted.free rfl) rfl (A_indexAddr (v := .ref 1 (0 + (w64 (p2 + y64)).toNat) 0) rfl rfl rfl (ia_slc un51 ts5 (getI_lt hv72))) (AW.refz (by simp)) rfl ?_
          refine ST.op (mk' := ([1], false)) (Wanted.free rfl) rfl (A_load (v := .d (eU8 v72)) rfl rfl (ld_row ts5 ta5 rfl (map_get (getI_some hv72).2) rfl)) rfl ?_
          refine ST.op (mk' := ([], false)) (Wanted.free rfl) rfl (A_conv (v := .d (eU64 (v72.toUInt64))) rfl rfl (cv_u8_u64 un5 un33 v72)) rfl ?_
          refine ST.op (mk' := ([], false)) (Wanted.free rfl) rfl (A_bin (v := .d (eU64 ((shl64 y63 8) + (v72.toUInt64)))) rfl rfl rfl (fun X Y => b_u64_add _ X Y (shl64 y63 8) (v72.toUInt64))) rfl ?_
          refine ST.op (mk' := ([], false)) (Wanted.free rfl) rfl (A_assign (v := .d (eU64 ((shl64 y63 8) + (v72.toUInt64)))) rfl rfl) rfl ?_
          refine ST.nil (And.intro (by decide +kernel) ?_)
          change SC _ _ _ _ _
          refine SC.region ?_
          refine SO.op (Wanted.free rfl) rfl (A_move (v := .d (eI y64)) rfl rfl) ?_
          refine SO.op (Wanted.free rfl) rfl (A_bin (v := .d (eI (w64 (y64 + (1 : Int))))) rfl rfl rfl (fun X Y => b_i64_add _ X Y y64 (1 : Int))) ?_
          refine SO.op (Wanted.free rfl) rfl (A_assign (v := .d (eI (w64 (y64 + (1 : Int))))) rfl rfl) ?_
          refine SO.nil ?_
          have q := Option.some.inj h3; subst q
          exact lf (Wk.env (e' := [(0, .ref 0 0 0), (1, .d (eI p0)), (5, .d (eU64 ((shl64 y63 8) + (v72.toUInt64)))), (6, .d (eI (w64 (y64 + (1 : Int)))))]) (EW.cons (AW.refl _) (EW.cons (AW.refl _) (EW.cons (AW.refl _) (EW.cons (AW.refl _) EW.nil)))))
        · replace h3 := cf hb71 h3
          refine SC.exit ?_
          have q := Option.some.inj h3; subst q
          have q : _ = _ := hv3; subst q
          have q := Option.some.inj h1; subst q
          exact (Wk.env (e' := [(0, .ref 0 0 0), (1, .d (eI p0)), (5, .d (eU64 y63))]) (EW.cons (AW.refl _) (EW.cons (AW.refl _) (EW.cons (AW.refl _) EW.nil))))
      · rintro y59 h0
        change SC _ _ _ ⟨mk 50 [(0, .ref 0 0 0), (1, .d (eI p0)), (5, .d (eU64 y59))], [.box (.agg [.slc 1 1 0 p1.length none, .d (eI p2), .d (eB p3)]), .row 1 (List.map eU8 p1) true]⟩ _
        refine SC.seq ?_
        refine SC.region ?_
        refine SO.op (Wanted.free rfl) rfl (A_move (v := .ref 0 0 0) rfl rfl) ?_
        refine SO.op (Wanted.free rfl) rfl (A_nilRef rfl rfl) ?_
        refine SO.op (Wanted.free rfl) rfl (A_fieldAddr rfl rfl (fa_ref fo80_1 ts3 rfl)) ?_
        refine SO.op (Wanted.free rfl) rfl (A_load (v := .d (eI p2)) rfl rfl (ld_box ts3 ta3 rfl rfl)) ?_
        refine SO.op (Wanted.free rfl) rfl (A_move (v := .d (eI p0)) rfl rfl) ?_
        refine SO.op (Wanted.free rfl) rfl (A_bin (v := .d (eI (w64 (p2 + p0)))) rfl rfl rfl (fun X Y => b_i64_add _ X Y p2 p0)) ?_
        refine SO.op (Wanted.free rfl) rfl (A_nilRef rfl rfl) ?_
        refine SO.op (Wanted.free rfl) rfl (A_fieldAddr rfl rfl (fa_ref fo80_1 ts3 rfl)) ?_
        refine SO.op0 (Wanted.free rfl) rfl (A_store (σ' := [.box (.agg [.slc 1 1 0 p1.length none, .d (eI (w64 (p2 + p0))), .d (eB p3)]), .row 1 (List.map eU8 p1) true]) rfl rfl rfl (st_box (zs := [.d (eI (w64 (p2 + p0)))]) ts3 rfl rfl rfl rfl rfl (Nat.le_of_ble_eq_true rfl) rfl)) ?_
        refine SO.nil ?_
        change SC _ _ _ _ _
        refine SC.seq ?_
        refine SC.region ?_
        refine SO.op (Wanted.free rfl) rfl (A_move (v := .d (eU64 y59)) rfl rfl) ?_
        refine SO.op (Wanted.free rfl) rfl (A_assign (v := .d (eU64 y59)) rfl rfl) ?_
        refine SO.nil ?_
        change SC _ _ _ _ _
        refine SC.ret ?_
        have q := Option.some.inj h0; subst q
        exact finR (Wk.env (e' := [(4, .d (eU64 y59))]) (EW.cons (AW.refl _) EW.nil)) (lresT rfl lresN) rfl

/-- granary/granaryref07.one -/
noncomputable def ref07_one (p0 : Int) (p1 : Bool) (p2 : List UInt8) : Option (Int × ApiValue) :=
  Option.bind (α := (List UInt8))
    (Option.bind (α := (List UInt8))
      (loop (Y := (List UInt8) × Int) (W := (List UInt8)) (fun (y614, y615) =>
        Option.bind (α := Bool)
          (bif (decide (y615 < (y614.length : Int))) then
            some p1
          else
            some false)
          fun y628 =>
        bif y628 then
          Option.bind (getI y614 y615) fun v632 =>
          Option.bind (getI y614 y615) fun v633 =>
          some (Sum.inl ((List.set y614 y615.toNat ((255 : UInt8) - v632)), (w64 (y615 + (1 : Int)))))
        else
          some (Sum.inr y614)) (p2, (0 : Int)))
      (fun e => some e))
    fun y605 =>
  Option.bind (α := Bool)
    (bif ((y605.length : Int) == (0 : Int)) then
      some true
    else
      Option.bind (getI y605 (0 : Int)) fun v640 =>
      some (decide ((1 : UInt8) < v640)))
    fun y637 =>
  bif y637 then
    some ((0 : Int), (ApiValue.mk (0 : Int) (0 : UInt64) ([] : List UInt8)))
  else
    Option.bind (getI y605 (0 : Int)) fun v642 =>
    bif (v642 == (0 : UInt8)) then
      some ((1 : Int), (ApiValue.mk (0 : Int) (0 : UInt64) ([] : List UInt8)))
    else
      bindE (Y := ApiValue × Int × Bool) (E := Int × ApiValue)
        (bif (p0 == (1 : Int)) then
          Option.bind (ref01_In_Num (8 : Int) y605 (1 : Int) false) fun (r896, r897, r898) =>
          some (Sum.inl ((ApiValue.mk p0 (r896 ^^^ (9223372036854775808 : UInt64)) ([] : List UInt8)), r897, r898))
        else
          bif (p0 == (2 : Int)) then
            Option.bind (ref01_In_Num (8 : Int) y605 (1 : Int) false) fun (r901, r902, r903) =>
            some (Sum.inl ((ApiValue.mk p0 r901 ([] : List UInt8)), r902, r903))
          else
            bif (p0 == (3 : Int)) then
              Option.bind (ref01_In_Num (1 : Int) y605 (1 : Int) false) fun (r906, r907, r908) =>
              some (Sum.inl ((ApiValue.mk p0 r906 ([] : List UInt8)), r907, r908))
            else
              bindE (Y := (List UInt8) × Int × Bool) (E := Int × ApiValue)
                (Option.bind (α := ((List UInt8) × Int × Bool) ⊕ (Int × ApiValue))
                  (loop (Y := (List UInt8) × Int × Bool) (W := ((List UInt8) × Int × Bool) ⊕ (Int × ApiValue)) (fun (y1063, y1064, y1065) =>
                    Option.bind (ref01_In_Num (1 : Int) y605 y1064 y1065) fun (r1106, r1107, r1108) =>
                    bindE (Y := UInt64 × Int × Bool) (E := ((List UInt8) × Int × Bool) ⊕ (Int × ApiValue))
                      (bif (r1106 == (0 : UInt64)) then
                        Option.bind (ref01_In_Num (1 : Int) y605 r1107 r1108) fun (r1128, r1129, r1130) =>
                        Option.bind (α := Bool)
                          (bif r1130 then
                            some true
                          else
                            bif (r1128 != (0 : UInt64)) then
                              some (r1128 != (255 : UInt64))
                            else
                              some false)
                          fun y1134 =>
                        bif y1134 then
                          some (Sum.inr (Sum.inr ((0 : Int), (ApiValue.mk (0 : Int) (0 : UInt64) ([] : List UInt8)))))
                        else
                          bif (r1128 == (0 : UInt64)) then
                            some (Sum.inr (Sum.inl (y1063, r1129, r1130)))
                          else
                            some (Sum.inl ((0 : UInt64), r1129, r1130))
                      else
                        some (Sum.inl (r1106, r1107, r1108)))
                      (fun (y1123, y1124, y1125) =>
                        bif decide ((y1063.length + [(y1123.toUInt8)].length) * 1 ≤ room) then
                        some (Sum.inl ((y1063 ++ [(y1123.toUInt8)]), y1124, y1125))
                        else none)
                      (Sum.elim (fun e => some (Sum.inr (Sum.inl e))) (fun e => some (Sum.inr (Sum.inr e))))) (([] : List UInt8), (1 : Int), false))
                  (Sum.elim (fun e => some (Sum.inl e)) (fun e => some (Sum.inr e))))
                (fun (y1024, y1025, y1026) =>
                  some (Sum.inl ((ApiValue.mk p0 (0 : UInt64) y1024), y1025, y1026)))
                (fun e => some (Sum.inr e)))
        (fun (y891, y892, y893) =>
          Option.bind (α := Bool)
            (bif y893 then
              some true
            else
              Option.bind (ref06_Valid y891) fun r1148 =>
              some (!r1148))
            fun y1145 =>
          bif y1145 then
            some ((0 : Int), (ApiValue.mk (0 : Int) (0 : UInt64) ([] : List UInt8)))
          else
            some (y892, y891))
        (fun e => some e)
theorem ref07_one_ok (p0 : Int) (p1 : Bool) (p2 : List UInt8) (r : Int × ApiValue) (h0 : ref07_one p0 p1 p2 = some r) : CallAt Tryd.prog 35 [.d (eI p0), .d (eB p1), .d (eS p2)] [] (.tuple [.d (eApiValue r.2), .d (eI r.1)]) [.box (.d (eApiValue r.2))] := by
  unfold ref07_one at h0
  refine CallAt.of Tryd.func35 rfl ?_
  refine SC.post (Q' := fun e s => ∃ s1, Wk _ s s1 ∧ Fin _ _ _ _ e s1) ?_ (fun _ _ h => h)
  refine SC.wk (s1 := ⟨mk 114 [(0, .d (eI p0)), (1, .d (eB p1)), (2, .d (eS p2))], []⟩) (Wk.begin (n := 114) (Nat.le_of_ble_eq_true rfl)) ?_
  refine SC.seq ?_
  refine SC.region ?_
  refine SO.op (Wanted.free rfl) rfl (A_alloc (σ' := [.box (.d (eApiValue (ApiValue.mk (0 : Int) (0 : UInt64) ([] : List UInt8))))]) rfl zo35 rfl rfl) ?_
  refine SO.op (Wanted.free rfl) rfl (A_assign (v := .d (eI (0 : Int))) rfl rfl) ?_
  refine SO.nil ?_
  change SC _ _ _ _ _
  refine SC.seq ?_
  refine SC.region ?_
  refine SO.op (Wanted.free rfl) rfl (A_move (v := .d (eS p2)) rfl rfl) ?_
  refine SO.op (Wanted.free rfl) rfl (A_conv (v := .slc 1 1 0 p2.length none) (σ' := [.box (.d (eApiValue (ApiValue.mk (0 : Int) (0 : UInt64) ([] : List UInt8)))), .row 1 (List.map eU8 p2) true]) rfl rfl (cv_str_bytes un9 un51 un5 ts5 rfl rfl)) ?_
  refine SO.op (Wanted.free rfl) rfl (A_assign (v := .slc 1 1 0 p2.length none) rfl rfl) ?_
  refine SO.nil ?_
  change SC _ _ _ _ _
  refine SC.seqP h0 (fun y => ⟨mk 114 [(0, .d (eI p0)), (6, .ref 0 0 0), (8, .slc 1 1 0 y.length none)], [.box (.d (eApiValue (ApiValue.mk (0 : Int) (0 : UInt64) ([] : List UInt8)))), .row 1 (List.map eU8 y) true]⟩) ?_ ?_
  · intro u1_606 h1
    refine SC.seq ?_
    refine SC.region ?_
    refine SO.op (Wanted.free rfl) rfl (A_assign (v := .d (eI (0 : Int))) rfl rfl) ?_
    refine SO.nil ?_
    change SC _ _ _ _ _
    refine SC.blk ?_
    obtain ⟨u2_626, h2, h1⟩ := ob h1
    refine SC.loopB h2 (fun y => ⟨mk 114 [(0, .d (eI p0)), (1, .d (eB p1)), (6, .ref 0 0 0), (8, .slc 1 1 0 y.1.length none), (9, .d (eI y.2))], [.box (.d (eApiValue (ApiValue.mk (0 : Int) (0 : UInt64) ([] : List UInt8)))), .row 1 (List.map eU8 y.1) true]⟩) (Wk.env (e' := [(0, .d (eI p0)), (1, .d (eB p1)), (6, .ref 0 0 0), (8, .slc 1 1 0 p2.length none), (9, .d (eI (0 : Int)))]) (EW.cons (AW.refl _) (EW.cons (AW.refl _) (EW.cons (AW.refl _) (EW.cons (AW.refl _) (EW.cons (AW.refl _) EW.nil)))))) ?_
    intro n634
    rintro ⟨y614, y615⟩ w2_625 h3 hv3
    change SC _ _ _ ⟨mk 114 [(0, .d (eI p0)), (1, .d (eB p1)), (6, .ref 0 0 0), (8, .slc 1 1 0 y614.length none), (9, .d (eI y615))], [.box (.d (eApiValue (ApiValue.mk (0 : Int) (0 : UInt64) ([] : List UInt8)))), .row 1 (List.map eU8 y614) true]⟩ _
    refine SC.seq ?_
    refine SC.seqP h3 (fun y => ⟨mk 114 [(0, .d (eI p0)), (1, .d (eB p1)), (6, .ref 0 0 0), (8, .slc 1 1 0 y614.length none), (9, .d (eI y615)), (22, .d (eB y))], [.box (.d (eApiValue (ApiValue.mk (0 : Int) (0 : UInt64) ([] : List UInt8)))), .row 1 (List.map eU8 y614) true]⟩) ?_ ?_
    · intro u4_629 h4
      refine SC.region ?_
      refine SO.op (Wanted.free rfl) rfl (A_move (v := .d (eI y615)) rfl rfl) ?_
      refine SO.op (Wanted.free rfl) rfl (A_move (v := .slc 1 1 0 y614.length none) rfl rfl) ?_
      refine SO.op (Wanted.free rfl) rfl (A_len (v := .d (eI (y614.length : Int))) rfl rfl rfl rfl (len_slc un51)) ?_
      refine SO.op (Wanted.free rfl) rfl (A_bin (v := .d (eB (decide (y615 < (y614.length : Int))))) rfl rfl rfl (fun X Y => b_i64_lss _ X Y y615 (y614.length : Int))) ?_
      refine SO.op (Wanted.free rfl) rfl (A_move (v := .d (eB (decide (y615 < (y614.length : Int))))) rfl rfl) ?_
      refine SO.split (fun hb630 => ?_) (fun hb630 => ?_)
      · replace h4 := ct hb630 h4
        refine SO.op (Wanted.by rfl rfl rfl rfl) rfl (A_move (v := .d (eB p1)) rfl rfl) ?_
        refine SO.op (Wanted.free rfl) rfl (A_pickT (v := .d (eB p1)) rfl rfl rfl) ?_
        refine SO.nil ?_
        have q := Option.some.inj h4; subst q
        exact (Wk.env (e' := [(0, .d (eI p0)), (1, .d (eB p1)), (6, .ref 0 0 0), (8, .slc 1 1 0 y614.length none), (9, .d (eI y615)), (22, .d (eB p1))]) (EW.cons (AW.refl _) (EW.cons (AW.refl _) (EW.cons (AW.refl _) (EW.cons (AW.refl _) (EW.cons (AW.refl _) (EW.cons (AW.refl _) EW.nil)))))))
      · replace h4 := cf hb630 h4
        refine SO.skip (Wanted.by rfl rfl rfl rfl) rfl ?_
        refine SO.op (Wanted.free rfl) rfl (A_pickF (v := .d (eB false)) rfl rfl rfl) ?_
        refine SO.nil ?_
        have q := Option.some.inj h4; subst q
        exact (Wk.env (e' := [(0, .d (eI p0)), (1, .d (eB p1)), (6, .ref 0 0 0), (8, .slc 1 1 0 y614.length none), (9, .d (eI y615)), (22, .d (eB false))]) (EW.cons (AW.refl _) (EW.cons (AW.refl _) (EW.cons (AW.refl _) (EW.cons (AW.refl _) (EW.cons (AW.refl _) (EW.cons (AW.refl _) EW.nil)))))))
    · rintro y628 h3
      change SC _ _ _ ⟨mk 114 [(0, .d (eI p0)), (1, .d (eB p1)), (6, .ref 0 0 0), (8, .slc 1 1 0 y614.length none), (9, .d (eI y615)), (22, .d (eB y628))], [.box (.d (eApiValue (ApiValue.mk (0 : Int) (0 : UInt64) ([] : List UInt8)))), .row 1 (List.map eU8 y614) true]⟩ _
      refine SC.condB (t := y628) rfl (fun hb631 => ?_) (fun hb631 => ?_)
      · replace h3 := ct hb631 h3
        refine SC.skip ?_
        change SC _ _ _ _ _
        refine SC.seq ?_
        refine SC.blk ?_
        refine SC.region ?_
        refine SO.op (Wanted.free rfl) rfl (A_move (v := .slc 1 1 0 y614.length none) rfl rfl) ?_
        refine SO.op (Wanted.free rfl) rfl (A_move (v := .d (eI y615)) rfl rfl) ?_
        refine SO.op (Wanted.free rfl) rfl (A_move (v := .slc 1 1 0 y614.length none) rfl rfl) ?_
        refine SO.op (Wanted.free rfl) rfl (A_move (v := .d (eI y615)) rfl rfl) ?_
        obtain ⟨v632, hv632, h3⟩ := ob h3
        refine SO.opW (v' := .ref 1 (y615.toNat) 0) (Wanted.free rfl) rfl (A_indexAddr (v := .ref 1 (0 + y615.toNat) 0) rfl rfl rfl (ia_slc un51 ts5 (getI_lt hv632))) (AW.refz (by simp)) ?_
        refine SO.op (Wanted.free rfl) rfl (A_load (v := .d (eU8 v632)) rfl rfl (ld_row ts5 ta5 rfl (map_get (getI_some hv632).2) rfl)) ?_
        refine SO.op (Wanted.free rfl) rfl (A_bin (v := .d (eU8 ((255 : UInt8) - v632))) rfl rfl rfl (fun X Y => b_u8_sub _ X Y (255 : UInt8) v632)) ?_
        obtain ⟨v633, hv633, h3⟩ := ob h3
        refine SO.opW (v' := .ref 1 (y615.toNat) 0) (Wanted.free rfl) rfl (A_indexAddr (v := .ref 1 (0 + y615.toNat) 0) rfl rfl rfl (ia_slc un51 ts5 (getI_lt hv633))) (AW.refz (by simp)) ?_
        refine SO.op0 (Wanted.free rfl) rfl (A_store (σ' := [.box (.d (eApiValue (ApiValue.mk (0 : Int) (0 : UInt64) ([] : List UInt8)))), .row 1 (List.map eU8 (List.set y614 y615.toNat ((255 : UInt8) - v632))) true]) rfl rfl rfl (st_row1 (f := eU8) (v := ((255 : UInt8) - v632)) ts5 rfl rfl rfl rfl (getI_some hv633).2 rfl rfl)) ?_
        refine SO.nil ?_
        change SC _ _ _ _ _
        refine SC.region ?_
        refine SO.op (Wanted.free rfl) rfl (A_move (v := .d (eI y615)) rfl rfl) ?_
        refine SO.op (Wanted.free rfl) rfl (A_bin (v := .d (eI (w64 (y615 + (1 : Int))))) rfl rfl rfl (fun X Y => b_i64_add _ X Y y615 (1 : Int))) ?_
        refine SO.op (Wanted.free rfl) rfl (A_assign (v := .d (eI (w64 (y615 + (1 : Int))))) rfl rfl) ?_
        refine SO.nil ?_
        have q := Option.some.inj h3; subst q
        exact lf (Wk.env (e' := [(0, .d (eI p0)), (1, .d (eB p1)), (6, .ref 0 0 0), (8, .slc 1 1 0 ((List.set y614 y615.toNat ((255 : UInt8) - v632)).length) none), (9, .d (eI (w64 (y615 + (1 : Int)))))]) (EW.cons (AW.refl _) (EW.cons (AW.refl _) (EW.cons (AW.refl _) (EW.cons (AW.slc rfl (by simp)) (EW.cons (AW.refl _) EW.nil))))))
      · replace h3 := cf hb631 h3
        refine SC.exit ?_
        have q := Option.some.inj h3; subst q
        have q : _ = _ := hv3; subst q
        have q := Option.some.inj h1; subst q
        exact (Wk.env (e' := [(0, .d (eI p0)), (6, .ref 0 0 0), (8, .slc 1 1 0 y614.length none)]) (EW.cons (AW.refl _) (EW.cons (AW.refl _) (EW.cons (AW.refl _) EW.nil))))
  · rintro y605 h0
    change SC _ _ _ ⟨mk 114 [(0, .d (eI p0)), (6, .ref 0 0 0), (8, .slc 1 1 0 y605.length none)], [.box (.d (eApiValue (ApiValue.mk (0 : Int) (0 : UInt64) ([] : List UInt8)))), .row 1 (List.map eU8 y605) true]⟩ _
    refine SC.seq ?_
    refine SC.seqP h0 (fun y => ⟨mk 114 [(0, .d (eI p0)), (6, .ref 0 0 0), (8, .slc 1 1 0 y605.length none), (41, .d (eB y))], [.box (.d (eApiValue (ApiValue.mk (0 : Int) (0 : UInt64) ([] : List UInt8)))), .row 1 (List.map eU8 y605) true]⟩) ?_ ?_
    · intro u1_638 h1
      refine SC.region ?_
      refine SO.op (Wanted.free rfl) rfl (A_move (v := .slc 1 1 0 y605.length none) rfl rfl) ?_
      refine SO.op (Wanted.free rfl) rfl (A_len (v := .d (eI (y605.length : Int))) rfl rfl rfl rfl (len_slc un51)) ?_
      refine SO.op (Wanted.free rfl) rfl (A_bin (v := .d (eB ((y605.length : Int) == (0 : Int)))) rfl rfl rfl (fun X Y => b_i64_eql _ X Y (y605.length : Int) (0 : Int))) ?_
      refine SO.op (Wanted.free rfl) rfl (A_move (v := .d (eB ((y605.length : Int) == (0 : Int)))) rfl rfl) ?_
      refine SO.split (fun hb639 => ?_) (fun hb639 => ?_)
      · replace h1 := ct hb639 h1
        refine SO.skip (Wanted.by rfl rfl rfl rfl) rfl ?_
        refine SO.skip (Wanted.by rfl rfl rfl rfl) rfl ?_
        refine SO.skip (Wanted.by rfl rfl rfl rfl) rfl ?_
        refine SO.skip (Wanted.by rfl rfl rfl rfl) rfl ?_
        refine SO.op (Wanted.free rfl) rfl (A_pickT (v := .d (eB true)) rfl rfl rfl) ?_
        refine SO.nil ?_
        have q := Option.some.inj h1; subst q
        exact (Wk.env (e' := [(0, .d (eI p0)), (6, .ref 0 0 0), (8, .slc 1 1 0 y605.length none), (41, .d (eB true))]) (EW.cons (AW.refl _) (EW.cons (AW.refl _) (EW.cons (AW.refl _) (EW.cons (AW.refl _) EW.nil)))))
      · replace h1 := cf hb639 h1
        refine SO.op (Wanted.by rfl rfl rfl rfl) rfl (A_move (v := .slc 1 1 0 y605.length none) rfl rfl) ?_
        obtain ⟨v640, hv640, h1⟩ := ob h1
        refine SO.opW (v' := .ref 1 ((0 : Int).toNat) 0) (Wanted.by rfl rfl rfl rfl) rfl (A_indexAddr (v := .ref 1 (0 + (0 : Int).toNat) 0) rfl rfl rfl (ia_slc un51 ts5 (getI_lt hv640))) (AW.refz (by simp)) ?_
        refine SO.op (Wanted.by rfl rfl rfl rfl) rfl (A_load (v := .d (eU8 v640)) rfl rfl (ld_row ts5 ta5 rfl (map_get (getI_some hv640).2) rfl)) ?_
        refine SO.op (Wanted.by rfl rfl rfl rfl) rfl (A_bin (v := .d (eB (decide ((1 : UInt8) < v640)))) rfl rfl rfl (fun X Y => b_u8_gtr _ X Y v640 (1 : UInt8))) ?_
        refine SO.op (Wanted.free rfl) rfl (A_pickF (v := .d (eB (decide ((1 : UInt8) < v640)))) rfl rfl rfl) ?_
        refine SO.nil ?_
        have q := Option.some.inj h1; subst q
        exact (Wk.env (e' := [(0, .d (eI p0)), (6, .ref 0 0 0), (8, .slc 1 1 0 y605.length none), (41, .d (eB (decide ((1 : UInt8) < v640))))]) (EW.cons (AW.refl _) (EW.cons (AW.refl _) (EW.cons (AW.refl _) (EW.cons (AW.refl _) EW.nil)))))
    · rintro y637 h0
      change SC _ _ _ ⟨mk 114 [(0, .d (eI p0)), (6, .ref 0 0 0), (8, .slc 1 1 0 y605.length none), (41, .d (eB y637))], [.box (.d (eApiValue (ApiValue.mk (0 : Int) (0 : UInt64) ([] : List UInt8)))), .row 1 (List.map eU8 y605) true]⟩ _
      refine SC.condB (t := y637) rfl (fun hb641 => ?_) (fun hb641 => ?_)
      · replace h0 := ct hb641 h0
        refine SC.seq ?_
        refine SC.region ?_
        refine SO.op (Wanted.free rfl) rfl (A_build (v := .d (eApiValue (ApiValue.mk (0 : Int) (0 : UInt64) ([] : List UInt8)))) rfl rfl (bd35_ )) ?_
        refine SO.op0 (Wanted.free rfl) rfl (A_store (σ' := [.box (.d (eApiValue (ApiValue.mk (0 : Int) (0 : UInt64) ([] : List UInt8)))), .row 1 (List.map eU8 y605) true]) rfl rfl rfl (st_box (zs := [.d (eI (0 : Int)), .d (eU64 (0 : UInt64)), .d (eS ([] : List UInt8))]) ts35 rfl rfl rfl rfl rfl (Nat.le_of_ble_eq_true rfl) rfl)) ?_
        refine SO.op (Wanted.free rfl) rfl (A_assign (v := .d (eI (0 : Int))) rfl rfl) ?_
        refine SO.nil ?_
        change SC _ _ _ _ _
        refine SC.ret ?_
        have q := Option.some.inj h0; subst q
        exact finR (Wk.trans (Wk.env (e' := [(6, .ref 0 0 0), (7, .d (eI (0 : Int)))]) (EW.cons (AW.refl _) (EW.cons (AW.refl _) EW.nil))) (Wk.canon (ι := [0]) (roots := [0]) (os := [.box (.d (eApiValue (ApiValue.mk (0 : Int) (0 : UInt64) ([] : List UInt8))))]) (e' := [(6, .ref 0 0 0), (7, .d (eI (0 : Int)))]) rfl rfl rfl)) (lresC rfl (ld_box ts35 ta35 rfl rfl) (lresT rfl lresN)) rfl
      · replace h0 := cf hb641 h0
        refine SC.skip ?_
        change SC _ _ _ _ _
        refine SC.seq ?_
        refine SC.seq ?_
        refine SC.region ?_
        refine SO.op (Wanted.free rfl) rfl (A_move (v := .slc 1 1 0 y605.length none) rfl rfl) ?_
        obtain ⟨v642, hv642, h0⟩ := ob h0
        refine SO.opW (v' := .ref 1 ((0 : Int).toNat) 0) (Wanted.free rfl) rfl (A_indexAddr (v := .ref 1 (0 + (0 : Int).toNat) 0) rfl rfl rfl (ia_slc un51 ts5 (getI_lt hv642))) (AW.refz (by simp)) ?_
        refine SO.op (Wanted.free rfl) rfl (A_load (v := .d (eU8 v642)) rfl rfl (ld_row ts5 ta5 rfl (map_get (getI_some hv642).2) rfl)) ?_
        refine SO.op (Wanted.free rfl) rfl (A_bin (v := .d (eB (v642 == (0 : UInt8)))) rfl rfl rfl (fun X Y => b_u8_eql _ X Y v642 (0 : UInt8))) ?_
        refine SO.nil ?_
        change SC _ _ _ _ _
        refine SC.condB (t := (v642 == (0 : UInt8))) rfl (fun hb643 => ?_) (fun hb643 => ?_)
        · replace h0 := ct hb643 h0
          refine SC.seq ?_
          refine SC.region ?_
          refine SO.op (Wanted.free rfl) rfl (A_build (v := .d (eApiValue (ApiValue.mk (0 : Int) (0 : UInt64) ([] : List UInt8)))) rfl rfl (bd35_ )) ?_
          refine SO.op0 (Wanted.free rfl) rfl (A_store (σ' := [.box (.d (eApiValue (ApiValue.mk (0 : Int) (0 : UInt64) ([] : List UInt8)))), .row 1 (List.map eU8 y605) true]) rfl rfl rfl (st_box (zs := [.d (eI (0 : Int)), .d (eU64 (0 : UInt64)), .d (eS ([] : List UInt8))]) ts35 rfl rfl rfl rfl rfl (Nat.le_of_ble_eq_true rfl) rfl)) ?_
          refine SO.op (Wanted.free rfl) rfl (A_assign (v := .d (eI (1 : Int))) rfl rfl) ?_
          refine SO.nil ?_
          change SC _ _ _ _ _
          refine SC.ret ?_
          have q := Option.some.inj h0; subst q
          exact finR (Wk.trans (Wk.env (e' := [(6, .ref 0 0 0), (7, .d (eI (1 : Int)))]) (EW.cons (AW.refl _) (EW.cons (AW.refl _) EW.nil))) (Wk.canon (ι := [0]) (roots := [0]) (os := [.box (.d (eApiValue (ApiValue.mk (0 : Int) (0 : UInt64) ([] : List UInt8))))]) (e' := [(6, .ref 0 0 0), (7, .d (eI (1 : Int)))]) rfl rfl rfl)) (lresC rfl (ld_box ts35 ta35 rfl rfl) (lresT rfl lresN)) rfl
        · replace h0 := cf hb643 h0
          refine SC.skip ?_
          change SC _ _ _ _ _
          refine SC.seq ?_
          refine SC.region ?_
          refine SO.op (Wanted.free rfl) rfl (A_move (v := .d (eI p0)) rfl rfl) ?_
          refine SO.op (Wanted.free rfl) rfl (A_build (v := .d (eApiValue (ApiValue.mk p0 (0 : UInt64) ([] : List UInt8)))) rfl rfl (bd35_0 p0)) ?_
          refine SO.op (Wanted.free rfl) rfl (A_alloc (σ' := [.box (.d (eApiValue (ApiValue.mk (0 : Int) (0 : UInt64) ([] : List UInt8)))), .row 1 (List.map eU8 y605) true, .box (.d (eApiValue (ApiValue.mk (0 : Int) (0 : UInt64) ([] : List UInt8))))]) rfl zo35 rfl rfl) ?_
          refine SO.op0 (Wanted.free rfl) rfl (A_store (σ' := [.box (.d (eApiValue (ApiValue.mk (0 : Int) (0 : UInt64) ([] : List UInt8)))), .row 1 (List.map eU8 y605) true, .box (.d (eApiValue (ApiValue.mk p0 (0 : UInt64) ([] : List UInt8))))]) rfl rfl rfl (st_box (zs := [.d (eI p0), .d (eU64 (0 : UInt64)), .d (eS ([] : List UInt8))]) ts35 rfl rfl rfl rfl rfl (Nat.le_of_ble_eq_true rfl) rfl)) ?_
          refine SO.nil ?_
          change SC _ _ _ _ _
          refine SC.seq ?_
          refine SC.region ?_
          refine SO.op (Wanted.free rfl) rfl (A_move (v := .slc 1 1 0 y605.length none) rfl rfl) ?_
          refine SO.op (Wanted.free rfl) rfl (A_build (v := .agg [.slc 1 1 0 y605.length none, .d (eI (1 : Int)), .d (eB false)]) rfl rfl (by rfl)) ?_
          refine SO.op (Wanted.free rfl) rfl (A_box (v := .agg [.slc 1 1 0 y605.length none, .d (eI (1 : Int)), .d (eB false)]) (σ' := [.box (.d (eApiValue (ApiValue.mk (0 : Int) (0 : UInt64) ([] : List UInt8)))), .row 1 (List.map eU8 y605) true, .box (.d (eApiValue (ApiValue.mk p0 (0 : UInt64) ([] : List UInt8)))), .box (.agg [.slc 1 1 0 y605.length none, .d (eI (1 : Int)), .d (eB false)])]) rfl rfl rfl rfl rfl) ?_
          refine SO.op (Wanted.free rfl) rfl (A_assign (v := .ref 3 0 0) rfl rfl) ?_
          refine SO.nil ?_
          change SC _ _ _ _ _
          refine SC.seqB h0 (fun y => ⟨mk 114 [(6, .ref 0 0 0), (10, .ref 1 0 0), (11, .ref 2 0 0)], [.box (.d (eApiValue (ApiValue.mk (0 : Int) (0 : UInt64) ([] : List UInt8)))), .box (.d (eApiValue y.1)), .box (.agg [.slc 3 1 0 y605.length none, .d (eI y.2.1), .d (eB y.2.2)]), .row 1 (List.map eU8 y605) true]⟩) ?_ ?_
          · intro u1_894 h1 h0
            refine SC.seq ?_
            refine SC.region ?_
            refine SO.op (Wanted.free rfl) rfl (A_move (v := .d (eI p0)) rfl rfl) ?_
            refine SO.nil ?_
            change SC _ _ _ _ _
            refine SC.blk ?_
            refine SC.seq ?_
            refine SC.region ?_
            refine SO.op (Wanted.free rfl) rfl (A_bin (v := .d (eB (p0 == (1 : Int)))) rfl rfl rfl (fun X Y => b_i64_eql _ X Y p0 (1 : Int))) ?_
            refine SO.op (Wanted.free rfl) rfl (A_assign (v := .d (eB (p0 == (1 : Int)))) rfl rfl) ?_
            refine SO.nil ?_
            change SC _ _ _ _ _
            refine SC.condB (t := (p0 == (1 : Int))) rfl (fun hb895 => ?_) (fun hb895 => ?_)
            · replace h1 := ct hb895 h1
              refine SC.region ?_
              refine SO.op (Wanted.free rfl) rfl (A_move (v := .ref 3 0 0) rfl rfl) ?_
              obtain ⟨⟨r896, r897, r898⟩, hq899, h1⟩ := ob h1
              refine SO.call (ι := [3, 1]) (σc := [.box (.agg [.slc 1 1 0 y605.length none, .d (eI (1 : Int)), .d (eB false)]), .row 1 (List.map eU8 y605) true]) (args' := [.ref 0 0 0, .d (eI (8 : Int))]) (r' := .d (eU64 r896)) (σ2 := [.box (.agg [.slc 1 1 0 y605.length none, .d (eI r897), .d (eB r898)]), .row 1 (List.map eU8 y605) true]) (os := [.box (.agg [.slc 1 1 0 y605.length none, .d (eI r897), .d (eB r898)]), .row 1 (List.map eU8 y605) true]) (r := .d (eU64 r896)) (σ' := [.box (.d (eApiValue (ApiValue.mk (0 : Int) (0 : UInt64) ([] : List UInt8)))), .row 1 (List.map eU8 y605) true, .box (.d (eApiValue (ApiValue.mk p0 (0 : UInt64) ([] : List UInt8)))), .box (.agg [.slc 1 1 0 y605.length none, .d (eI r897), .d (eB r898)])]) (Wanted.free rfl) rfl rfl rfl rfl rfl cb54 rfl rfl (ref01_In_Num_ok (8 : Int) y605 (1 : Int) false _ hq899) rfl rfl (Nat.le_of_ble_eq_true rfl) rfl ?_
              refine SO.op (Wanted.free rfl) rfl (A_bin (v := .d (eU64 (r896 ^^^ (9223372036854775808 : UInt64)))) rfl rfl rfl (fun X Y => b_u64_xor _ X Y r896 (9223372036854775808 : UInt64))) ?_
              refine SO.op (Wanted.free rfl) rfl (A_fieldAddr rfl rfl (fa_ref fo35_1 ts33 rfl)) ?_
              refine SO.op0 (Wanted.free rfl) rfl (A_store (σ' := [.box (.d (eApiValue (ApiValue.mk (0 : Int) (0 : UInt64) ([] : List UInt8)))), .row 1 (List.map eU8 y605) true, .box (.d (eApiValue (ApiValue.mk p0 (r896 ^^^ (9223372036854775808 : UInt64)) ([] : List UInt8)))), .box (.agg [.slc 1 1 0 y605.length none, .d (eI r897), .d (eB r898)])]) rfl rfl rfl (st_box (zs := [.d (eU64 (r896 ^^^ (9223372036854775808 : UInt64)))]) ts33 rfl rfl rfl rfl rfl (Nat.le_of_ble_eq_true rfl) rfl)) ?_
              refine SO.nil ?_
              have q := Option.some.inj h1; subst q
              exact lf (Wk.trans (Wk.env (e' := [(6, .ref 0 0 0), (10, .ref 2 0 0), (11, .ref 3 0 0)]) (EW.cons (AW.refl _) (EW.cons (AW.refl _) (EW.cons (AW.refl _) EW.nil)))) (Wk.canon (ι := [0, 2, 3, 1]) (roots := [0, 2, 3]) (os := [.box (.d (eApiValue (ApiValue.mk (0 : Int) (0 : UInt64) ([] : List UInt8)))), .box (.d (eApiValue (ApiValue.mk p0 (r896 ^^^ (9223372036854775808 : UInt64)) ([] : List UInt8)))), .box (.agg [.slc 3 1 0 y605.length none, .d (eI r897), .d (eB r898)]), .row 1 (List.map eU8 y605) true]) (e' := [(6, .ref 0 0 0), (10, .ref 1 0 0), (11, .ref 2 0 0)]) rfl rfl rfl))
            · replace h1 := cf hb895 h1
              refine SC.seq ?_
              refine SC.region ?_
              refine SO.op (Wanted.free rfl) rfl (A_bin (v := .d (eB (p0 == (2 : Int)))) rfl rfl rfl (fun X Y => b_i64_eql _ X Y p0 (2 : Int))) ?_
              refine SO.op (Wanted.free rfl) rfl (A_assign (v := .d (eB (p0 == (2 : Int)))) rfl rfl) ?_
              refine SO.nil ?_
              change SC _ _ _ _ _
              refine SC.condB (t := (p0 == (2 : Int))) rfl (fun hb900 => ?_) (fun hb900 => ?_)
              · replace h1 := ct hb900 h1
                refine SC.region ?_
                refine SO.op (Wanted.free rfl) rfl (A_move (v := .ref 3 0 0) rfl rfl) ?_
                obtain ⟨⟨r901, r902, r903⟩, hq904, h1⟩ := ob h1
                refine SO.call (ι := [3, 1]) (σc := [.box (.agg [.slc 1 1 0 y605.length none, .d (eI (1 : Int)), .d (eB false)]), .row 1 (List.map eU8 y605) true]) (args' := [.ref 0 0 0, .d (eI (8 : Int))]) (r' := .d (eU64 r901)) (σ2 := [.box (.agg [.slc 1 1 0 y605.length none, .d (eI r902), .d (eB r903)]), .row 1 (List.map eU8 y605) true]) (os := [.box (.agg [.slc 1 1 0 y605.length none, .d (eI r902), .d (eB r903)]), .row 1 (List.map eU8 y605) true]) (r := .d (eU64 r901)) (σ' := [.box (.d (eApiValue (ApiValue.mk (0 : Int) (0 : UInt64) ([] : List UInt8)))), .row 1 (List.map eU8 y605) true, .box (.d (eApiValue (ApiValue.mk p0 (0 : UInt64) ([] : List UInt8)))), .box (.agg [.slc 1 1 0 y605.length none, .d (eI r902), .d (eB r903)])]) (Wanted.free rfl) rfl rfl rfl rfl rfl cb54 rfl rfl (ref01_In_Num_ok (8 : Int) y605 (1 : Int) false _ hq904) rfl rfl (Nat.le_of_ble_eq_true rfl) rfl ?_
                refine SO.op (Wanted.free rfl) rfl (A_fieldAddr rfl rfl (fa_ref fo35_1 ts33 rfl)) ?_
                refine SO.op0 (Wanted.free rfl) rfl (A_store (σ' := [.box (.d (eApiValue (ApiValue.mk (0 : Int) (0 : UInt64) ([] : List UInt8)))), .row 1 (List.map eU8 y605) true, .box (.d (eApiValue (ApiValue.mk p0 r901 ([] : List UInt8)))), .box (.agg [.slc 1 1 0 y605.length none, .d (eI r902), .d (eB r903)])]) rfl rfl rfl (st_box (zs := [.d (eU64 r901)]) ts33 rfl rfl rfl rfl rfl (Nat.le_of_ble_eq_true rfl) rfl)) ?_
                refine SO.nil ?_
                have q := Option.some.inj h1; subst q
                exact lf (Wk.trans (Wk.env (e' := [(6, .ref 0 0 0), (10, .ref 2 0 0), (11, .ref 3 0 0)]) (EW.cons (AW.refl _) (EW.cons (AW.refl _) (EW.cons (AW.refl _) EW.nil)))) (Wk.canon (ι := [0, 2, 3, 1]) (roots := [0, 2, 3]) (os := [.box (.d (eApiValue (ApiValue.mk (0 : Int) (0 : UInt64) ([] : List UInt8)))), .box (.d (eApiValue (ApiValue.mk p0 r901 ([] : List UInt8)))), .box (.agg [.slc 3 1 0 y605.length none, .d (eI r902), .d (eB r903)]), .row 1 (List.map eU8 y605) true]) (e' := [(6, .ref 0 0 0), (10, .ref 1 0 0), (11, .ref 2 0 0)]) rfl rfl rfl))
              · replace h1 := cf hb900 h1
                refine SC.seq ?_
                refine SC.region ?_
                refine SO.op (Wanted.free rfl) rfl (A_bin (v := .d (eB (p0 == (3 : Int)))) rfl rfl rfl (fun X Y => b_i64_eql _ X Y p0 (3 : Int))) ?_
                refine SO.op (Wanted.free rfl) rfl (A_assign (v := .d (eB (p0 == (3 : Int)))) rfl rfl) ?_
                refine SO.nil ?_
                change SC _ _ _ _ _
                refine SC.condB (t := (p0 == (3 : Int))) rfl (fun hb905 => ?_) (fun hb905 => ?_)
                · replace h1 := ct hb905 h1
                  refine SC.region ?_
                  refine SO.op (Wanted.free rfl) rfl (A_move (v := .ref 3 0 0) rfl rfl) ?_
                  obtain ⟨⟨r906, r907, r908⟩, hq909, h1⟩ := ob h1
                  refine SO.call (ι := [3, 1]) (σc := [.box (.agg [.slc 1 1 0 y605.length none, .d (eI (1 : Int)), .d (eB false)]), .row 1 (List.map eU8 y605) true]) (args' := [.ref 0 0 0, .d (eI (1 : Int))]) (r' := .d (eU64 r906)) (σ2 := [.box (.agg [.slc 1 1 0 y605.length none, .d (eI r907), .d (eB r908)]), .row 1 (List.map eU8 y605) true]) (os := [.box (.agg [.slc 1 1 0 y605.length none, .d (eI r907), .d (eB r908)]), .row 1 (List.map eU8 y605) true]) (r := .d (eU64 r906)) (σ' := [.box (.d (eApiValue (ApiValue.mk (0 : Int) (0 : UInt64) ([] : List UInt8)))), .row 1 (List.map eU8 y605) true, .box (.d (eApiValue (ApiValue.mk p0 (0 : UInt64) ([] : List UInt8)))), .box (.agg [.slc 1 1 0 y605.length none, .d (eI r907), .d (eB r908)])]) (Wanted.free rfl) rfl rfl rfl rfl rfl cb54 rfl rfl (ref01_In_Num_ok (1 : Int) y605 (1 : Int) false _ hq909) rfl rfl (Nat.le_of_ble_eq_true rfl) rfl ?_
                  refine SO.op (Wanted.free rfl) rfl (A_fieldAddr rfl rfl (fa_ref fo35_1 ts33 rfl)) ?_
                  refine SO.op0 (Wanted.free rfl) rfl (A_store (σ' := [.box (.d (eApiValue (ApiValue.mk (0 : Int) (0 : UInt64) ([] : List UInt8)))), .row 1 (List.map eU8 y605) true, .box (.d (eApiValue (ApiValue.mk p0 r906 ([] : List UInt8)))), .box (.agg [.slc 1 1 0 y605.length none, .d (eI r907), .d (eB r908)])]) rfl rfl rfl (st_box (zs := [.d (eU64 r906)]) ts33 rfl rfl rfl rfl rfl (Nat.le_of_ble_eq_true rfl) rfl)) ?_
                  refine SO.nil ?_
                  have q := Option.some.inj h1; subst q
                  exact lf (Wk.trans (Wk.env (e' := [(6, .ref 0 0 0), (10, .ref 2 0 0), (11, .ref 3 0 0)]) (EW.cons (AW.refl _) (EW.cons (AW.refl _) (EW.cons (AW.refl _) EW.nil)))) (Wk.canon (ι := [0, 2, 3, 1]) (roots := [0, 2, 3]) (os := [.box (.d (eApiValue (ApiValue.mk (0 : Int) (0 : UInt64) ([] : List UInt8)))), .box (.d (eApiValue (ApiValue.mk p0 r906 ([] : List UInt8)))), .box (.agg [.slc 3 1 0 y605.length none, .d (eI r907), .d (eB r908)]), .row 1 (List.map eU8 y605) true]) (e' := [(6, .ref 0 0 0), (10, .ref 1 0 0), (11, .ref 2 0 0)]) rfl rfl rfl))
                · replace h1 := cf hb905 h1
                  refine SC.seq ?_
                  refine SC.region ?_
                  refine SO.op (Wanted.free rfl) rfl (A_assign (v := .d .nils) rfl rfl) ?_
                  refine SO.nil ?_
                  change SC _ _ _ _ _
                  refine SC.seqB h1 (fun y => ⟨mk 114 [(6, .ref 0 0 0), (10, .ref 1 0 0), (11, .ref 2 0 0), (12, .slc 3 1 0 y.1.length none)], [.box (.d (eApiValue (ApiValue.mk (0 : Int) (0 : UInt64) ([] : List UInt8)))), .box (.d (eApiValue (ApiValue.mk p0 (0 : UInt64) ([] : List UInt8)))), .box (.agg [.slc 4 1 0 y605.length none, .d (eI y.2.1), .d (eB y.2.2)]), .row 1 (List.map eU8 y.1) true, .row 1 (List.map eU8 y605) true]⟩) ?_ ?_
                  · intro u2_1027 h2 h1
                    refine SC.blk ?_
                    obtain ⟨u3_1105, h3, h2⟩ := ob h2
                    refine SC.loopB h3 (fun y => ⟨mk 114 [(6, .ref 0 0 0), (10, .ref 1 0 0), (11, .ref 2 0 0), (12, .slc 3 1 0 y.1.length none)], [.box (.d (eApiValue (ApiValue.mk (0 : Int) (0 : UInt64) ([] : List UInt8)))), .box (.d (eApiValue (ApiValue.mk p0 (0 : UInt64) ([] : List UInt8)))), .box (.agg [.slc 4 1 0 y605.length none, .d (eI y.2.1), .d (eB y.2.2)]), .row 1 (List.map eU8 y.1) true, .row 1 (List.map eU8 y605) true]⟩) (Wk.trans (Wk.pushE (σ' := [.box (.d (eApiValue (ApiValue.mk (0 : Int) (0 : UInt64) ([] : List UInt8)))), .row 1 (List.map eU8 y605) true, .box (.d (eApiValue (ApiValue.mk p0 (0 : UInt64) ([] : List UInt8)))), .box (.agg [.slc 1 1 0 y605.length none, .d (eI (1 : Int)), .d (eB false)]), .row 1 (List.map eU8 ([] : List UInt8)) true]) (.row 1 [] true) (fun _ hh => by cases hh) rfl) (Wk.trans (Wk.env (e' := [(6, .ref 0 0 0), (10, .ref 2 0 0), (11, .ref 3 0 0), (12, .slc 4 1 0 (([] : List UInt8).length) none)]) (EW.cons (AW.refl _) (EW.cons (AW.refl _) (EW.cons (AW.refl _) (EW.cons (AW.slcn _ _ _) EW.nil))))) (Wk.trans (Wk.env (e' := [(6, .ref 0 0 0), (10, .ref 2 0 0), (11, .ref 3 0 0), (12, .slc 4 1 0 (([] : List UInt8).length) none)]) (EW.cons (AW.refl _) (EW.cons (AW.refl _) (EW.cons (AW.refl _) (EW.cons (AW.refl _) EW.nil))))) (Wk.canon (ι := [0, 2, 3, 4, 1]) (roots := [0, 2, 3, 4]) (os := [.box (.d (eApiValue (ApiValue.mk (0 : Int) (0 : UInt64) ([] : List UInt8)))), .box (.d (eApiValue (ApiValue.mk p0 (0 : UInt64) ([] : List UInt8)))), .box (.agg [.slc 4 1 0 y605.length none, .d (eI (1 : Int)), .d (eB false)]), .row 1 (List.map eU8 ([] : List UInt8)) true, .row 1 (List.map eU8 y605) true]) (e' := [(6, .ref 0 0 0), (10, .ref 1 0 0), (11, .ref 2 0 0), (12, .slc 3 1 0 (([] : List UInt8).length) none)]) rfl rfl rfl)))) ?_
                    intro n1141
                    rintro ⟨y1063, y1064, y1065⟩ w3_1104 h4 hv4
                    change SC _ _ _ ⟨mk 114 [(6, .ref 0 0 0), (10, .ref 1 0 0), (11, .ref 2 0 0), (12, .slc 3 1 0 y1063.length none)], [.box (.d (eApiValue (ApiValue.mk (0 : Int) (0 : UInt64) ([] : List UInt8)))), .box (.d (eApiValue (ApiValue.mk p0 (0 : UInt64) ([] : List UInt8)))), .box (.agg [.slc 4 1 0 y605.length none, .d (eI y1064), .d (eB y1065)]), .row 1 (List.map eU8 y1063) true, .row 1 (List.map eU8 y605) true]⟩ _
                    refine SC.blk ?_
                    refine SC.seq ?_
                    refine SC.region ?_
                    refine SO.op (Wanted.free rfl) rfl (A_move (v := .ref 2 0 0) rfl rfl) ?_
                    obtain ⟨⟨r1106, r1107, r1108⟩, hq1109, h4⟩ := ob h4
                    refine SO.call (ι := [2, 4]) (σc := [.box (.agg [.slc 1 1 0 y605.length none, .d (eI y1064), .d (eB y1065)]), .row 1 (List.map eU8 y605) true]) (args' := [.ref 0 0 0, .d (eI (1 : Int))]) (r' := .d (eU64 r1106)) (σ2 := [.box (.agg [.slc 1 1 0 y605.length none, .d (eI r1107), .d (eB r1108)]), .row 1 (List.map eU8 y605) true]) (os := [.box (.agg [.slc 4 1 0 y605.length none, .d (eI r1107), .d (eB r1108)]), .row 1 (List.map eU8 y605) true]) (r := .d (eU64 r1106)) (σ' := [.box (.d (eApiValue (ApiValue.mk (0 : Int) (0 : UInt64) ([] : List UInt8)))), .box (.d (eApiValue (ApiValue.mk p0 (0 : UInt64) ([] : List UInt8)))), .box (.agg [.slc 4 1 0 y605.length none, .d (eI r1107), .d (eB r1108)]), .row 1 (List.map eU8 y1063) true, .row 1 (List.map eU8 y605) true]) (Wanted.free rfl) rfl rfl rfl rfl rfl cb54 rfl rfl (ref01_In_Num_ok (1 : Int) y605 y1064 y1065 _ hq1109) rfl rfl (Nat.le_of_ble_eq_true rfl) rfl ?_
                    refine SO.op (Wanted.free rfl) rfl (A_assign (v := .d (eU64 r1106)) rfl rfl) ?_
                    refine SO.nil ?_
                    change SC _ _ _ _ _
                    refine SC.seqB h4 (fun y => ⟨mk 114 [(6, .ref 0 0 0), (10, .ref 1 0 0), (11, .ref 2 0 0), (12, .slc 3 1 0 y1063.length none), (13, .d (eU64 y.1))], [.box (.d (eApiValue (ApiValue.mk (0 : Int) (0 : UInt64) ([] : List UInt8)))), .box (.d (eApiValue (ApiValue.mk p0 (0 : UInt64) ([] : List UInt8)))), .box (.agg [.slc 4 1 0 y605.length none, .d (eI y.2.1), .d (eB y.2.2)]), .row 1 (List.map eU8 y1063) true, .row 1 (List.map eU8 y605) true]⟩) ?_ ?_
                    · intro u5_1126 h5 h4
                      refine SC.seq ?_
                      refine SC.region ?_
                      refine SO.op (Wanted.free rfl) rfl (A_move (v := .d (eU64 r1106)) rfl rfl) ?_
                      refine SO.op (Wanted.free rfl) rfl (A_bin (v := .d (eB (r1106 == (0 : UInt64)))) rfl rfl rfl (fun X Y => b_u64_eql _ X Y r1106 (0 : UInt64))) ?_
                      refine SO.nil ?_
                      change SC _ _ _ _ _
                      refine SC.condB (t := (r1106 == (0 : UInt64))) rfl (fun hb1127 => ?_) (fun hb1127 => ?_)
                      · replace h5 := ct hb1127 h5
                        refine SC.seq ?_
                        refine SC.region ?_
                        refine SO.op (Wanted.free rfl) rfl (A_move (v := .ref 2 0 0) rfl rfl) ?_
                        obtain ⟨⟨r1128, r1129, r1130⟩, hq1131, h5⟩ := ob h5
                        refine SO.call (ι := [2, 4]) (σc := [.box (.agg [.slc 1 1 0 y605.length none, .d (eI r1107), .d (eB r1108)]), .row 1 (List.map eU8 y605) true]) (args' := [.ref 0 0 0, .d (eI (1 : Int))]) (r' := .d (eU64 r1128)) (σ2 := [.box (.agg [.slc 1 1 0 y605.length none, .d (eI r1129), .d (eB r1130)]), .row 1 (List.map eU8 y605) true]) (os := [.box (.agg [.slc 4 1 0 y605.length none, .d (eI r1129), .d (eB r1130)]), .row 1 (List.map eU8 y605) true]) (r := .d (eU64 r1128)) (σ' := [.box (.d (eApiValue (ApiValue.mk (0 : Int) (0 : UInt64) ([] : List UInt8)))), .box (.d (eApiValue (ApiValue.mk p0 (0 : UInt64) ([] : List UInt8)))), .box (.agg [.slc 4 1 0 y605.length none, .d (eI r1129), .d (eB r1130)]), .row 1 (List.map eU8 y1063) true, .row 1 (List.map eU8 y605) true]) (Wanted.free rfl) rfl rfl rfl rfl rfl cb54 rfl rfl (ref01_In_Num_ok (1 : Int) y605 r1107 r1108 _ hq1131) rfl rfl (Nat.le_of_ble_eq_true rfl) rfl ?_
                        refine SO.op (Wanted.free rfl) rfl (A_assign (v := .d (eU64 r1128)) rfl rfl) ?_
                        refine SO.nil ?_
                        change SC _ _ _ _ _
                        refine SC.seq ?_
                        refine SC.seqP h5 (fun y => ⟨mk 114 [(6, .ref 0 0 0), (10, .ref 1 0 0), (11, .ref 2 0 0), (12, .slc 3 1 0 y1063.length none), (13, .d (eU64 r1128)), (71, .d (eB y))], [.box (.d (eApiValue (ApiValue.mk (0 : Int) (0 : UInt64) ([] : List UInt8)))), .box (.d (eApiValue (ApiValue.mk p0 (0 : UInt64) ([] : List UInt8)))), .box (.agg [.slc 4 1 0 y605.length none, .d (eI r1129), .d (eB r1130)]), .row 1 (List.map eU8 y1063) true, .row 1 (List.map eU8 y605) true]⟩) ?_ ?_
                        · intro u6_1135 h6
                          refine SC.region ?_
                          refine SO.op (Wanted.free rfl) rfl (A_move (v := .ref 2 0 0) rfl rfl) ?_
                          refine SO.op (Wanted.free rfl) rfl (A_nilRef rfl rfl) ?_
                          refine SO.op (Wanted.free rfl) rfl (A_fieldAddr rfl rfl (fa_ref fo80_2 ts4 rfl)) ?_
                          refine SO.op (Wanted.free rfl) rfl (A_load (v := .d (eB r1130)) rfl rfl (ld_box ts4 ta4 rfl rfl)) ?_
                          refine SO.op (Wanted.free rfl) rfl (A_move (v := .d (eB r1130)) rfl rfl) ?_
                          refine SO.split (fun hb1136 => ?_) (fun hb1136 => ?_)
                          · replace h6 := ct hb1136 h6
                            refine SO.skip (Wanted.by rfl rfl rfl rfl) rfl ?_
                            refine SO.skip (Wanted.by rfl rfl rfl rfl) rfl ?_
                            refine SO.skip (Wanted.by rfl rfl rfl rfl) rfl ?_
                            refine SO.skip (Wanted.out rfl rfl rfl) rfl ?_
                            refine SO.skip (Wanted.out rfl rfl rfl) rfl ?_
                            refine SO.skip (Wanted.by rfl rfl rfl rfl) rfl ?_
                            refine SO.op (Wanted.free rfl) rfl (A_pickT (v := .d (eB true)) rfl rfl rfl) ?_
                            refine SO.nil ?_
                            have q := Option.some.inj h6; subst q
                            exact (Wk.env (e' := [(6, .ref 0 0 0), (10, .ref 1 0 0), (11, .ref 2 0 0), (12, .slc 3 1 0 y1063.length none), (13, .d (eU64 r1128)), (71, .d (eB true))]) (EW.cons (AW.refl _) (EW.cons (AW.refl _) (EW.cons (AW.refl _) (EW.cons (AW.refl _) (EW.cons (AW.refl _) (EW.cons (AW.refl _) EW.nil)))))))
                          · replace h6 := cf hb1136 h6
                            refine SO.op (Wanted.by rfl rfl rfl rfl) rfl (A_move (v := .d (eU64 r1128)) rfl rfl) ?_
                            refine SO.op (Wanted.by rfl rfl rfl rfl) rfl (A_bin (v := .d (eB (r1128 != (0 : UInt64)))) rfl rfl rfl (fun X Y => b_u64_neq _ X Y r1128 (0 : UInt64))) ?_
                            refine SO.op (Wanted.by rfl rfl rfl rfl) rfl (A_move (v := .d (eB (r1128 != (0 : UInt64)))) rfl rfl) ?_
                            refine SO.split (fun hb1137 => ?_) (fun hb1137 => ?_)
                            · replace h6 := ct hb1137 h6
                              refine SO.op (Wanted.by rfl rfl rfl rfl) rfl (A_move (v := .d (eU64 r1128)) rfl rfl) ?_
                              refine SO.op (Wanted.by rfl rfl rfl rfl) rfl (A_bin (v := .d (eB (r1128 != (255 : UInt64)))) rfl rfl rfl (fun X Y => b_u64_neq _ X Y r1128 (255 : UInt64))) ?_
                              refine SO.op (Wanted.by rfl rfl rfl rfl) rfl (A_pickT (v := .d (eB (r1128 != (255 : UInt64)))) rfl rfl rfl) ?_
                              refine SO.op (Wanted.free rfl) rfl (A_pickF (v := .d (eB (r1128 != (255 : UInt64)))) rfl rfl rfl) ?_
                              refine SO.nil ?_
                              have q := Option.some.inj h6; subst q
                              exact (Wk.env (e' := [(6, .ref 0 0 0), (10, .ref 1 0 0), (11, .ref 2 0 0), (12, .slc 3 1 0 y1063.length none), (13, .d (eU64 r1128)), (71, .d (eB (r1128 != (255 : UInt64))))]) (EW.cons (AW.refl _) (EW.cons (AW.refl _) (EW.cons (AW.refl _) (EW.cons (AW.refl _) (EW.cons (AW.refl _) (EW.cons (AW.refl _) EW.nil)))))))
                            · replace h6 := cf hb1137 h6
                              refine SO.skip (Wanted.by rfl rfl rfl rfl) rfl ?_
                              refine SO.skip (Wanted.by rfl rfl rfl rfl) rfl ?_
                              refine SO.op (Wanted.by rfl rfl rfl rfl) rfl (A_pickF (v := .d (eB false)) rfl rfl rfl) ?_
                              refine SO.op (Wanted.free rfl) rfl (A_pickF (v := .d (eB false)) rfl rfl rfl) ?_
                              refine SO.nil ?_
                              have q := Option.some.inj h6; subst q
                              exact (Wk.env (e' := [(6, .ref 0 0 0), (10, .ref 1 0 0), (11, .ref 2 0 0), (12, .slc 3 1 0 y1063.length none), (13, .d (eU64 r1128)), (71, .d (eB false))]) (EW.cons (AW.refl _) (EW.cons (AW.refl _) (EW.cons (AW.refl _) (EW.cons (AW.refl _) (EW.cons (AW.refl _) (EW.cons (AW.refl _) EW.nil)))))))
                        · rintro y1134 h5
                          change SC _ _ _ ⟨mk 114 [(6, .ref 0 0 0), (10, .ref 1 0 0), (11, .ref 2 0 0), (12, .slc 3 1 0 y1063.length none), (13, .d (eU64 r1128)), (71, .d (eB y1134))], [.box (.d (eApiValue (ApiValue.mk (0 : Int) (0 : UInt64) ([] : List UInt8)))), .box (.d (eApiValue (ApiValue.mk p0 (0 : UInt64) ([] : List UInt8)))), .box (.agg [.slc 4 1 0 y605.length none, .d (eI r1129), .d (eB r1130)]), .row 1 (List.map eU8 y1063) true, .row 1 (List.map eU8 y605) true]⟩ _
                          refine SC.condB (t := y1134) rfl (fun hb1138 => ?_) (fun hb1138 => ?_)
                          · replace h5 := ct hb1138 h5
                            refine SC.seq ?_
                            refine SC.region ?_
                            refine SO.op (Wanted.free rfl) rfl (A_build (v := .d (eApiValue (ApiValue.mk (0 : Int) (0 : UInt64) ([] : List UInt8)))) rfl rfl (bd35_ )) ?_
                            refine SO.op0 (Wanted.free rfl) rfl (A_store (σ' := [.box (.d (eApiValue (ApiValue.mk (0 : Int) (0 : UInt64) ([] : List UInt8)))), .box (.d (eApiValue (ApiValue.mk p0 (0 : UInt64) ([] : List UInt8)))), .box (.agg [.slc 4 1 0 y605.length none, .d (eI r1129), .d (eB r1130)]), .row 1 (List.map eU8 y1063) true, .row 1 (List.map eU8 y605) true]) rfl rfl rfl (st_box (zs := [.d (eI (0 : Int)), .d (eU64 (0 : UInt64)), .d (eS ([] : List UInt8))]) ts35 rfl rfl rfl rfl rfl (Nat.le_of_ble_eq_true rfl) rfl)) ?_
                            refine SO.op (Wanted.free rfl) rfl (A_assign (v := .d (eI (0 : Int))) rfl rfl) ?_
                            refine SO.nil ?_
                            change SC _ _ _ _ _
                            refine SC.ret ?_
                            have q := Option.some.inj h5; subst q
                            have q := Option.some.inj h4; subst q
                            have q : _ = _ := hv4; subst q
                            have q := Option.some.inj h2; subst q
                            have q := Option.some.inj h1; subst q
                            have q := Option.some.inj h0; subst q
                            exact finR (Wk.trans (Wk.env (e' := [(6, .ref 0 0 0), (7, .d (eI (0 : Int)))]) (EW.cons (AW.refl _) (EW.cons (AW.refl _) EW.nil))) (Wk.canon (ι := [0]) (roots := [0]) (os := [.box (.d (eApiValue (ApiValue.mk (0 : Int) (0 : UInt64) ([] : List UInt8))))]) (e' := [(6, .ref 0 0 0), (7, .d (eI (0 : Int)))]) rfl rfl rfl)) (lresC rfl (ld_box ts35 ta35 rfl rfl) (lresT rfl lresN)) rfl
                          · replace h5 := cf hb1138 h5
                            refine SC.skip ?_
                            change SC _ _ _ _ _
                            refine SC.seq ?_
                            refine SC.seq ?_
                            refine SC.region ?_
                            refine SO.op (Wanted.free rfl) rfl (A_move (v := .d (eU64 r1128)) rfl rfl) ?_
                            refine SO.op (Wanted.free rfl) rfl (A_bin (v := .d (eB (r1128 == (0 : UInt64)))) rfl rfl rfl (fun X Y => b_u64_eql _ X Y r1128 (0 : UInt64))) ?_
                            refine SO.nil ?_
                            change SC _ _ _ _ _
                            refine SC.condB (t := (r1128 == (0 : UInt64))) rfl (fun hb1139 => ?_) (fun hb1139 => ?_)
                            · replace h5 := ct hb1139 h5
                              refine SC.exit ?_
                              have q := Option.some.inj h5; subst q
                              have q := Option.some.inj h4; subst q
                              have q : _ = _ := hv4; subst q
                              have q := Option.some.inj h2; subst q
                              exact lf (Wk.env (e' := [(6, .ref 0 0 0), (10, .ref 1 0 0), (11, .ref 2 0 0), (12, .slc 3 1 0 y1063.length none)]) (EW.cons (AW.refl _) (EW.cons (AW.refl _) (EW.cons (AW.refl _) (EW.cons (AW.refl _) EW.nil)))))
                            · replace h5 := cf hb1139 h5
                              refine SC.skip ?_
                              change SC _ _ _ _ _
                              refine SC.region ?_
                              refine SO.op (Wanted.free rfl) rfl (A_assign (v := .d (eU64 (0 : UInt64))) rfl rfl) ?_
                              refine SO.nil ?_
                              have q := Option.some.inj h5; subst q
                              exact lf (Wk.env (e' := [(6, .ref 0 0 0), (10, .ref 1 0 0), (11, .ref 2 0 0), (12, .slc 3 1 0 y1063.length none), (13, .d (eU64 (0 : UInt64)))]) (EW.cons (AW.refl _) (EW.cons (AW.refl _) (EW.cons (AW.refl _) (EW.cons (AW.refl _) (EW.cons (AW.refl _) EW.nil))))))
                      · replace h5 := cf hb1127 h5
                        refine SC.skip ?_
                        have q := Option.some.inj h5; subst q
                        exact lf (Wk.env (e' := [(6, .ref 0 0 0), (10, .ref 1 0 0), (11, .ref 2 0 0), (12, .slc 3 1 0 y1063.length none), (13, .d (eU64 r1106))]) (EW.cons (AW.refl _) (EW.cons (AW.refl _) (EW.cons (AW.refl _) (EW.cons (AW.refl _) (EW.cons (AW.refl _) EW.nil))))))
                    · rintro ⟨y1123, y1124, y1125⟩ h4
                      change SC _ _ _ ⟨mk 114 [(6, .ref 0 0 0), (10, .ref 1 0 0), (11, .ref 2 0 0), (12, .slc 3 1 0 y1063.length none), (13, .d (eU64 y1123))], [.box (.d (eApiValue (ApiValue.mk (0 : Int) (0 : UInt64) ([] : List UInt8)))), .box (.d (eApiValue (ApiValue.mk p0 (0 : UInt64) ([] : List UInt8)))), .box (.agg [.slc 4 1 0 y605.length none, .d (eI y1124), .d (eB y1125)]), .row 1 (List.map eU8 y1063) true, .row 1 (List.map eU8 y605) true]⟩ _
                      refine SC.region ?_
                      refine SO.op (Wanted.free rfl) rfl (A_move (v := .slc 3 1 0 y1063.length none) rfl rfl) ?_
                      refine SO.op (Wanted.free rfl) rfl (A_move (v := .d (eU64 y1123)) rfl rfl) ?_
                      refine SO.op (Wanted.free rfl) rfl (A_conv (v := .d (eU8 (y1123.toUInt8))) rfl rfl (cv_u64_u8 un33 un5 y1123)) ?_
                      refine SO.opW (v' := .slc 5 1 0 ([(y1123.toUInt8)].length) none) (Wanted.free rfl) rfl (A_buildSlice (v := .slc 5 1 0 1 (some 1)) (σ' := [.box (.d (eApiValue (ApiValue.mk (0 : Int) (0 : UInt64) ([] : List UInt8)))), .box (.d (eApiValue (ApiValue.mk p0 (0 : UInt64) ([] : List UInt8)))), .box (.agg [.slc 4 1 0 y605.length none, .d (eI y1124), .d (eB y1125)]), .row 1 (List.map eU8 y1063) true, .row 1 (List.map eU8 y605) true, .row 1 (List.map eU8 [(y1123.toUInt8)]) true]) rfl rfl (bsl un51 ei5 (by decide) rfl (by rfl) rfl rfl)) (AW.slcc rfl rfl) ?_
                      obtain ⟨hg1140, h4⟩ := gd h4
                      refine SO.op (Wanted.free rfl) rfl (A_append (v := .slc 6 1 0 ((y1063 ++ [(y1123.toUInt8)]).length) none) (σ' := [.box (.d (eApiValue (ApiValue.mk (0 : Int) (0 : UInt64) ([] : List UInt8)))), .box (.d (eApiValue (ApiValue.mk p0 (0 : UInt64) ([] : List UInt8)))), .box (.agg [.slc 4 1 0 y605.length none, .d (eI y1124), .d (eB y1125)]), .dead, .row 1 (List.map eU8 y605) true, .row 1 (List.map eU8 [(y1123.toUInt8)]) true, .row 1 (List.map eU8 (y1063 ++ [(y1123.toUInt8)])) true]) rfl rfl rfl rfl rfl bc51 (ApFull (f := eU8) (xs := y1063) (ys := [(y1123.toUInt8)]) rfl un51 ei5 rfl (el_full (xs := [(y1123.toUInt8)]) rfl) hg1140 rfl rfl)) ?_
                      refine SO.op (Wanted.free rfl) rfl (A_assign (v := .slc 6 1 0 ((y1063 ++ [(y1123.toUInt8)]).length) none) rfl rfl) ?_
                      refine SO.nil ?_
                      have q := Option.some.inj h4; subst q
                      exact lf (Wk.trans (Wk.env (e' := [(6, .ref 0 0 0), (10, .ref 1 0 0), (11, .ref 2 0 0), (12, .slc 6 1 0 ((y1063 ++ [(y1123.toUInt8)]).length) none)]) (EW.cons (AW.refl _) (EW.cons (AW.refl _) (EW.cons (AW.refl _) (EW.cons (AW.refl _) EW.nil))))) (Wk.canon (ι := [0, 1, 2, 6, 4]) (roots := [0, 1, 2, 6]) (os := [.box (.d (eApiValue (ApiValue.mk (0 : Int) (0 : UInt64) ([] : List UInt8)))), .box (.d (eApiValue (ApiValue.mk p0 (0 : UInt64) ([] : List UInt8)))), .box (.agg [.slc 4 1 0 y605.length none, .d (eI y1124), .d (eB y1125)]), .row 1 (List.map eU8 (y1063 ++ [(y1123.toUInt8)])) true, .row 1 (List.map eU8 y605) true]) (e' := [(6, .ref 0 0 0), (10, .ref 1 0 0), (11, .ref 2 0 0), (12, .slc 3 1 0 ((y1063 ++ [(y1123.toUInt8)]).length) none)]) rfl rfl rfl))
                  · rintro ⟨y1024, y1025, y1026⟩ h1
                    change SC _ _ _ ⟨mk 114 [(6, .ref 0 0 0), (10, .ref 1 0 0), (11, .ref 2 0 0), (12, .slc 3 1 0 y1024.length none)], [.box (.d (eApiValue (ApiValue.mk (0 : Int) (0 : UInt64) ([] : List UInt8)))), .box (.d (eApiValue (ApiValue.mk p0 (0 : UInt64) ([] : List UInt8)))), .box (.agg [.slc 4 1 0 y605.length none, .d (eI y1025), .d (eB y1026)]), .row 1 (List.map eU8 y1024) true, .row 1 (List.map eU8 y605) true]⟩ _
                    refine SC.region ?_
                    refine SO.op (Wanted.free rfl) rfl (A_move (v := .slc 3 1 0 y1024.length none) rfl rfl) ?_
                    refine SO.op (Wanted.free rfl) rfl (A_conv (v := .d (eS y1024)) rfl rfl (cv_bytes_str un51 un9 un5 (el_full (xs := y1024) rfl) (fun _ hh => by cases hh))) ?_
                    refine SO.op (Wanted.free rfl) rfl (A_fieldAddr rfl rfl (fa_ref fo35_2 ts9 rfl)) ?_
                    refine SO.op0 (Wanted.free rfl) rfl (A_store (σ' := [.box (.d (eApiValue (ApiValue.mk (0 : Int) (0 : UInt64) ([] : List UInt8)))), .box (.d (eApiValue (ApiValue.mk p0 (0 : UInt64) y1024))), .box (.agg [.slc 4 1 0 y605.length none, .d (eI y1025), .d (eB y1026)]), .row 1 (List.map eU8 y1024) true, .row 1 (List.map eU8 y605) true]) rfl rfl rfl (st_box (zs := [.d (eS y1024)]) ts9 rfl rfl rfl rfl rfl (Nat.le_of_ble_eq_true rfl) rfl)) ?_
                    refine SO.nil ?_
                    have q := Option.some.inj h1; subst q
                    exact lf (Wk.trans (Wk.env (e' := [(6, .ref 0 0 0), (10, .ref 1 0 0), (11, .ref 2 0 0)]) (EW.cons (AW.refl _) (EW.cons (AW.refl _) (EW.cons (AW.refl _) EW.nil)))) (Wk.canon (ι := [0, 1, 2, 4]) (roots := [0, 1, 2]) (os := [.box (.d (eApiValue (ApiValue.mk (0 : Int) (0 : UInt64) ([] : List UInt8)))), .box (.d (eApiValue (ApiValue.mk p0 (0 : UInt64) y1024))), .box (.agg [.slc 3 1 0 y605.length none, .d (eI y1025), .d (eB y1026)]), .row 1 (List.map eU8 y605) true]) (e' := [(6, .ref 0 0 0), (10, .ref 1 0 0), (11, .ref 2 0 0)]) rfl rfl rfl))
          · rintro ⟨y891, y892, y893⟩ h0
            change SC _ _ _ ⟨mk 114 [(6, .ref 0 0 0), (10, .ref 1 0 0), (11, .ref 2 0 0)], [.box (.d (eApiValue (ApiValue.mk (0 : Int) (0 : UInt64) ([] : List UInt8)))), .box (.d (eApiValue y891)), .box (.agg [.slc 3 1 0 y605.length none, .d (eI y892), .d (eB y893)]), .row 1 (List.map eU8 y605) true]⟩ _
            refine SC.seq ?_
            refine SC.seqP h0 (fun y => ⟨mk 114 [(6, .ref 0 0 0), (10, .ref 1 0 0), (11, .ref 2 0 0), (107, .d (eB y))], [.box (.d (eApiValue (ApiValue.mk (0 : Int) (0 : UInt64) ([] : List UInt8)))), .box (.d (eApiValue y891)), .box (.agg [.slc 3 1 0 y605.length none, .d (eI y892), .d (eB y893)]), .row 1 (List.map eU8 y605) true]⟩) ?_ ?_
            · intro u1_1146 h1
              refine SC.region ?_
              refine SO.op (Wanted.free rfl) rfl (A_move (v := .ref 2 0 0) rfl rfl) ?_
              refine SO.op (Wanted.free rfl) rfl (A_nilRef rfl rfl) ?_
              refine SO.op (Wanted.free rfl) rfl (A_fieldAddr rfl rfl (fa_ref fo80_2 ts4 rfl)) ?_
              refine SO.op (Wanted.free rfl) rfl (A_load (v := .d (eB y893)) rfl rfl (ld_box ts4 ta4 rfl rfl)) ?_
              refine SO.op (Wanted.free rfl) rfl (A_move (v := .d (eB y893)) rfl rfl) ?_
              refine SO.split (fun hb1147 => ?_) (fun hb1147 => ?_)
              · replace h1 := ct hb1147 h1
                refine SO.skip (Wanted.by rfl rfl rfl rfl) rfl ?_
                refine SO.skip (Wanted.by rfl rfl rfl rfl) rfl ?_
                refine SO.skip (Wanted.by rfl rfl rfl rfl) rfl ?_
                refine SO.op (Wanted.free rfl) rfl (A_pickT (v := .d (eB true)) rfl rfl rfl) ?_
                refine SO.nil ?_
                have q := Option.some.inj h1; subst q
                exact (Wk.env (e' := [(6, .ref 0 0 0), (10, .ref 1 0 0), (11, .ref 2 0 0), (107, .d (eB true))]) (EW.cons (AW.refl _) (EW.cons (AW.refl _) (EW.cons (AW.refl _) (EW.cons (AW.refl _) EW.nil)))))
              · replace h1 := cf hb1147 h1
                refine SO.op (Wanted.by rfl rfl rfl rfl) rfl (A_load (v := .d (eApiValue y891)) rfl rfl (ld_box ts35 ta35 rfl rfl)) ?_
                obtain ⟨r1148, hq1149, h1⟩ := ob h1
                refine SO.call0 (r := .d (eB r1148)) (Wanted.by rfl rfl rfl rfl) rfl rfl rfl rfl rfl cb29 rfl (fun _ => rfl) (fun _ => rfl) (ref06_Valid_ok y891 _ hq1149) ?_
                refine SO.op (Wanted.by rfl rfl rfl rfl) rfl (A_un (v := .d (eB (!r1148))) rfl rfl rfl rfl) ?_
                refine SO.op (Wanted.free rfl) rfl (A_pickF (v := .d (eB (!r1148))) rfl rfl rfl) ?_
                refine SO.nil ?_
                have q := Option.some.inj h1; subst q
                exact (Wk.env (e' := [(6, .ref 0 0 0), (10, .ref 1 0 0), (11, .ref 2 0 0), (107, .d (eB (!r1148)))]) (EW.cons (AW.refl _) (EW.cons (AW.refl _) (EW.cons (AW.refl _) (EW.cons (AW.refl _) EW.nil)))))
            · rintro y1145 h0
              change SC _ _ _ ⟨mk 114 [(6, .ref 0 0 0), (10, .ref 1 0 0), (11, .ref 2 0 0), (107, .d (eB y1145))], [.box (.d (eApiValue (ApiValue.mk (0 : Int) (0 : UInt64) ([] : List UInt8)))), .box (.d (eApiValue y891)), .box (.agg [.slc 3 1 0 y605.length none, .d (eI y892), .d (eB y893)]), .row 1 (List.map eU8 y605) true]⟩ _
              refine SC.condB (t := y1145) rfl (fun hb1150 => ?_) (fun hb1150 => ?_)
              · replace h0 := ct hb1150 h0
                refine SC.seq ?_
                refine SC.region ?_
                refine SO.op (Wanted.free rfl) rfl (A_build (v := .d (eApiValue (ApiValue.mk (0 : Int) (0 : UInt64) ([] : List UInt8)))) rfl rfl (bd35_ )) ?_
                refine SO.op0 (Wanted.free rfl) rfl (A_store (σ' := [.box (.d (eApiValue (ApiValue.mk (0 : Int) (0 : UInt64) ([] : List UInt8)))), .box (.d (eApiValue y891)), .box (.agg [.slc 3 1 0 y605.length none, .d (eI y892), .d (eB y893)]), .row 1 (List.map eU8 y605) true]) rfl rfl rfl (st_box (zs := [.d (eI (0 : Int)), .d (eU64 (0 : UInt64)), .d (eS ([] : List UInt8))]) ts35 rfl rfl rfl rfl rfl (Nat.le_of_ble_eq_true rfl) rfl)) ?_
                refine SO.op (Wanted.free rfl) rfl (A_assign (v := .d (eI (0 : Int))) rfl rfl) ?_
                refine SO.nil ?_
                change SC _ _ _ _ _
                refine SC.ret ?_
                have q := Option.some.inj h0; subst q
                exact finR (Wk.trans (Wk.env (e' := [(6, .ref 0 0 0), (7, .d (eI (0 : Int)))]) (EW.cons (AW.refl _) (EW.cons (AW.refl _) EW.nil))) (Wk.canon (ι := [0]) (roots := [0]) (os := [.box (.d (eApiValue (ApiValue.mk (0 : Int) (0 : UInt64) ([] : List UInt8))))]) (e' := [(6, .ref 0 0 0), (7, .d (eI (0 : Int)))]) rfl rfl rfl)) (lresC rfl (ld_box ts35 ta35 rfl rfl) (lresT rfl lresN)) rfl
              · replace h0 := cf hb1150 h0
                refine SC.skip ?_
                change SC _ _ _ _ _
                refine SC.seq ?_
                refine SC.draws (by kernel_rfl) ?_
                refine ST.op (mk' := ([1], false)) (Wanted.free rfl) rfl (A_load (v := .d (eApiValue y891)) rfl rfl (ld_box ts35 ta35 rfl rfl)) rfl ?_
                refine ST.op (mk' := ([], false)) (Wanted.free rfl) rfl (A_move (v := .ref 2 0 0) rfl rfl) rfl ?_
                refine ST.op (mk' := ([], false)) (Wanted.free rfl) rfl (A_nilRef rfl rfl) rfl ?_
                refine ST.op (mk' := ([], false)) (Wanted.free rfl) rfl (A_fieldAddr rfl rfl (fa_ref fo80_1 ts3 rfl)) rfl ?_
                refine ST.op (mk' := ([2], false)) (Wanted.free rfl) rfl (A_load (v := .d (eI y892)) rfl rfl (ld_box ts3 ta3 rfl rfl)) rfl ?_
                refine ST.op0 (mk' := ([0], true)) (Wanted.free rfl) rfl (A_store (σ' := [.box (.d (eApiValue y891)), .box (.d (eApiValue y891)), .box (.agg [.slc 3 1 0 y605.length none, .d (eI y892), .d (eB y893)]), .row 1 (List.map eU8 y605) true]) rfl rfl rfl (st_box (zs := [.d (eI y891.Kind), .d (eU64 y891.N), .d (eS y891.S)]) ts35 rfl rfl rfl rfl rfl (Nat.le_of_ble_eq_true rfl) rfl)) rfl ?_
                refine ST.op (mk' := ([], false)) (Wanted.free rfl) rfl (A_assign (v := .d (eI y892)) rfl rfl) rfl ?_
                refine ST.nil (And.intro (by decide +kernel) ?_)
                change SC _ _ _ _ _
                refine SC.ret ?_
                have q := Option.some.inj h0; subst q
                exact finR (Wk.trans (Wk.env (e' := [(6, .ref 0 0 0), (7, .d (eI y892))]) (EW.cons (AW.refl _) (EW.cons (AW.refl _) EW.nil))) (Wk.canon (ι := [0]) (roots := [0]) (os := [.box (.d (eApiValue y891))]) (e' := [(6, .ref 0 0 0), (7, .d (eI y892))]) rfl rfl rfl)) (lresC rfl (ld_box ts35 ta35 rfl rfl) (lresT rfl lresN)) rfl

/-- granary/granaryref07.Decode -/
noncomputable def ref07_Decode (p0 : List Int) (p1 : List Bool) (p2 : List UInt8) : Option ((List ApiValue) × Int) :=
  bif ((p0.length : Int) != (p1.length : Int)) then
    some (([] : List ApiValue), (1 : Int))
  else
    bindE (Y := Unit) (E := (List ApiValue) × Int)
      (Option.bind (α := Unit ⊕ ((List ApiValue) × Int))
        (loop (Y := Int) (W := Unit ⊕ ((List ApiValue) × Int)) (fun y199 =>
          bif (decide (y199 < (p0.length : Int))) then
            Option.bind (α := Bool)
              (Option.bind (getI p0 y199) fun v219 =>
              bif (decide (v219 < (1 : Int))) then
                some true
              else
                Option.bind (getI p0 y199) fun v221 =>
                some (decide (v221 > (5 : Int))))
              fun y217 =>
            bif y217 then
              some (Sum.inr (Sum.inr (([] : List ApiValue), (1 : Int))))
            else
              some (Sum.inl (w64 (y199 + (1 : Int))))
          else
            some (Sum.inr (Sum.inl ()))) (0 : Int))
        (Sum.elim (fun e => some (Sum.inl e)) (fun e => some (Sum.inr e))))
      (fun _ =>
        bif (decide ((p2.length : Int) > (256 : Int))) then
          some (([] : List ApiValue), (2 : Int))
        else
          bindE (Y := (List UInt8) × (List ApiValue)) (E := (List ApiValue) × Int)
            (Option.bind (α := ((List UInt8) × (List ApiValue)) ⊕ ((List ApiValue) × Int))
              (loop (Y := (List UInt8) × (List ApiValue) × Int) (W := ((List UInt8) × (List ApiValue)) ⊕ ((List ApiValue) × Int)) (fun (y273, y274, y275) =>
                bif (decide (y275 < (p0.length : Int))) then
                  Option.bind (getI p0 y275) fun v291 =>
                  Option.bind (getI p1 y275) fun v292 =>
                  Option.bind (ref07_one v291 v292 y273) fun (r293, r294) =>
                  bif (r293 == (0 : Int)) then
                    some (Sum.inr (Sum.inr (([] : List ApiValue), (2 : Int))))
                  else
                    bif decide ((y274.length + [r294].length) * 32 ≤ room) then
                    bif decide (0 ≤ r293 ∧ r293 ≤ (y273.length : Int)) then
                    some (Sum.inl ((List.drop r293.toNat y273), (y274 ++ [r294]), (w64 (y275 + (1 : Int)))))
                    else none
                    else none
                else
                  some (Sum.inr (Sum.inl (y273, y274)))) (p2, ([] : List ApiValue), (0 : Int)))
              (Sum.elim (fun e => some (Sum.inl e)) (fun e => some (Sum.inr e))))
            (fun (y261, y262) =>
              bif (y261 != ([] : List UInt8)) then
                some (([] : List ApiValue), (2 : Int))
              else
                some (y262, (0 : Int)))
            (fun e => some e))
      (fun e => some e)
theorem ref07_Decode_ok (p0 : List Int) (p1 : List Bool) (p2 : List UInt8) (r : (List ApiValue) × Int) (h0 : ref07_Decode p0 p1 p2 = some r) : CallAt Tryd.prog 13 [.d ((eL 1 eI) p0), .d ((eL 1 eB) p1), .d (eS p2)] [] (.tuple [.d ((eL 3 eApiValue) r.1), .d (eI r.2)]) [] := by
  unfold ref07_Decode at h0
  refine CallAt.of Tryd.func13 rfl ?_
  refine SC.post (Q' := fun e s => ∃ s1, Wk _ s s1 ∧ Fin _ _ _ _ e s1) ?_ (fun _ _ h => h)
  refine SC.wk (s1 := ⟨mk 70 [(0, .d ((eL 1 eI) p0)), (1, .d ((eL 1 eB) p1)), (2, .d (eS p2))], []⟩) (Wk.begin (n := 70) (Nat.le_of_ble_eq_true rfl)) ?_
  refine SC.seq ?_
  refine SC.region ?_
  refine SO.op (Wanted.free rfl) rfl (A_assign (v := .d .nils) rfl rfl) ?_
  refine SO.op (Wanted.free rfl) rfl (A_assign (v := .d (eI (0 : Int))) rfl rfl) ?_
  refine SO.nil ?_
  change SC _ _ _ _ _
  refine SC.seq ?_
  refine SC.seq ?_
  refine SC.region ?_
  refine SO.op (Wanted.free rfl) rfl (A_move (v := .d ((eL 1 eI) p0)) rfl rfl) ?_
  refine SO.op (Wanted.free rfl) rfl (A_len (v := .d (eI (p0.length : Int))) rfl rfl rfl rfl (len_lst un24)) ?_
  refine SO.op (Wanted.free rfl) rfl (A_move (v := .d ((eL 1 eB) p1)) rfl rfl) ?_
  refine SO.op (Wanted.free rfl) rfl (A_len (v := .d (eI (p1.length : Int))) rfl rfl rfl rfl (len_lst un23)) ?_
  refine SO.op (Wanted.free rfl) rfl (A_bin (v := .d (eB ((p0.length : Int) != (p1.length : Int)))) rfl rfl rfl (fun X Y => b_i64_neq _ X Y (p0.length : Int) (p1.length : Int))) ?_
  refine SO.nil ?_
  change SC _ _ _ _ _
  refine SC.condB (t := ((p0.length : Int) != (p1.length : Int))) rfl (fun hb152 => ?_) (fun hb152 => ?_)
  · replace h0 := ct hb152 h0
    refine SC.seq ?_
    refine SC.region ?_
    refine SO.op (Wanted.free rfl) rfl (A_assign (v := .d .nils) rfl rfl) ?_
    refine SO.op (Wanted.free rfl) rfl (A_assign (v := .d (eI (1 : Int))) rfl rfl) ?_
    refine SO.nil ?_
    change SC _ _ _ _ _
    refine SC.ret ?_
    have q := Option.some.inj h0; subst q
    exact finR (Wk.env (e' := [(6, .d ((eL 3 eApiValue) ([] : List ApiValue))), (7, .d (eI (1 : Int)))]) (EW.cons (AW.nl _) (EW.cons (AW.refl _) EW.nil))) (lresT rfl (lresT rfl lresN)) rfl
  · replace h0 := cf hb152 h0
    refine SC.skip ?_
    change SC _ _ _ _ _
    refine SC.seqB h0 (fun y => ⟨mk 70 [(0, .d ((eL 1 eI) p0)), (1, .d ((eL 1 eB) p1)), (2, .d (eS p2))], []⟩) ?_ ?_
    · intro u1_188 h1 h0
      refine SC.seq ?_
      refine SC.region ?_
      refine SO.op (Wanted.free rfl) rfl (A_assign (v := .d (eI (0 : Int))) rfl rfl) ?_
      refine SO.nil ?_
      change SC _ _ _ _ _
      refine SC.blk ?_
      obtain ⟨u2_212, h2, h1⟩ := ob h1
      refine SC.loopB h2 (fun y => ⟨mk 70 [(0, .d ((eL 1 eI) p0)), (1, .d ((eL 1 eB) p1)), (2, .d (eS p2)), (8, .d (eI y))], []⟩) (Wk.env (e' := [(0, .d ((eL 1 eI) p0)), (1, .d ((eL 1 eB) p1)), (2, .d (eS p2)), (8, .d (eI (0 : Int)))]) (EW.cons (AW.refl _) (EW.cons (AW.refl _) (EW.cons (AW.refl _) (EW.cons (AW.refl _) EW.nil))))) ?_
      intro n223
      rintro y199 w2_211 h3 hv3
      change SC _ _ _ ⟨mk 70 [(0, .d ((eL 1 eI) p0)), (1, .d ((eL 1 eB) p1)), (2, .d (eS p2)), (8, .d (eI y199))], []⟩ _
      refine SC.seq ?_
      refine SC.seq ?_
      refine SC.region ?_
      refine SO.op (Wanted.free rfl) rfl (A_move (v := .d (eI y199)) rfl rfl) ?_
      refine SO.op (Wanted.free rfl) rfl (A_move (v := .d ((eL 1 eI) p0)) rfl rfl) ?_
      refine SO.op (Wanted.free rfl) rfl (A_len (v := .d (eI (p0.length : Int))) rfl rfl rfl rfl (len_lst un24)) ?_
      refine SO.op (Wanted.free rfl) rfl (A_bin (v := .d (eB (decide (y199 < (p0.length : Int))))) rfl rfl rfl (fun X Y => b_i64_lss _ X Y y199 (p0.length : Int))) ?_
      refine SO.nil ?_
      change SC _ _ _ _ _
      refine SC.condB (t := (decide (y199 < (p0.length : Int)))) rfl (fun hb213 => ?_) (fun hb213 => ?_)
      · replace h3 := ct hb213 h3
        refine SC.skip ?_
        change SC _ _ _ _ _
        refine SC.seq ?_
        refine SC.blk ?_
        refine SC.seqP h3 (fun y => ⟨mk 70 [(0, .d ((eL 1 eI) p0)), (1, .d ((eL 1 eB) p1)), (2, .d (eS p2)), (8, .d (eI y199)), (35, .d (eB y))], []⟩) ?_ ?_
        · intro u4_218 h4
          refine SC.region ?_
          refine SO.op (Wanted.free rfl) rfl (A_move (v := .d ((eL 1 eI) p0)) rfl rfl) ?_
          refine SO.op (Wanted.free rfl) rfl (A_move (v := .d (eI y199)) rfl rfl) ?_
          obtain ⟨v219, hv219, h4⟩ := ob h4
          refine SO.op (Wanted.free rfl) rfl (A_indexAddr (v := .rop [(eI v219)]) rfl rfl rfl (ia_lst un24 ts3 (getI_some hv219).1 (map_get (getI_some hv219).2))) ?_
          refine SO.op (Wanted.free rfl) rfl (A_load (v := .d (eI v219)) rfl rfl (ld_rop ts3 ta3 rfl)) ?_
          refine SO.op (Wanted.free rfl) rfl (A_bin (v := .d (eB (decide (v219 < (1 : Int))))) rfl rfl rfl (fun X Y => b_i64_lss _ X Y v219 (1 : Int))) ?_
          refine SO.op (Wanted.free rfl) rfl (A_move (v := .d (eB (decide (v219 < (1 : Int))))) rfl rfl) ?_
          refine SO.split (fun hb220 => ?_) (fun hb220 => ?_)
          · replace h4 := ct hb220 h4
            refine SO.skip (Wanted.by rfl rfl rfl rfl) rfl ?_
            refine SO.skip (Wanted.by rfl rfl rfl rfl) rfl ?_
            refine SO.skip (Wanted.by rfl rfl rfl rfl) rfl ?_
            refine SO.skip (Wanted.by rfl rfl rfl rfl) rfl ?_
            refine SO.skip (Wanted.by rfl rfl rfl rfl) rfl ?_
            refine SO.op (Wanted.free rfl) rfl (A_pickT (v := .d (eB true)) rfl rfl rfl) ?_
            refine SO.nil ?_
            have q := Option.some.inj h4; subst q
            exact (Wk.env (e' := [(0, .d ((eL 1 eI) p0)), (1, .d ((eL 1 eB) p1)), (2, .d (eS p2)), (8, .d (eI y199)), (35, .d (eB true))]) (EW.cons (AW.refl _) (EW.cons (AW.refl _) (EW.cons (AW.refl _) (EW.cons (AW.refl _) (EW.cons (AW.refl _) EW.nil))))))
          · replace h4 := cf hb220 h4
            refine SO.op (Wanted.by rfl rfl rfl rfl) rfl (A_move (v := .d ((eL 1 eI) p0)) rfl rfl) ?_
            refine SO.op (Wanted.by rfl rfl rfl rfl) rfl (A_move (v := .d (eI y199)) rfl rfl) ?_
            obtain ⟨v221, hv221, h4⟩ := ob h4
            refine SO.op (Wanted.by rfl rfl rfl rfl) rfl (A_indexAddr (v := .rop [(eI v221)]) rfl rfl rfl (ia_lst un24 ts3 (getI_some hv221).1 (map_get (getI_some hv221).2))) ?_
            refine SO.op (Wanted.by rfl rfl rfl rfl) rfl (A_load (v := .d (eI v221)) rfl rfl (ld_rop ts3 ta3 rfl)) ?_
            refine SO.op (Wanted.by rfl rfl rfl rfl) rfl (A_bin (v := .d (eB (decide (v221 > (5 : Int))))) rfl rfl rfl (fun X Y => b_i64_gtr _ X Y v221 (5 : Int))) ?_
            refine SO.op (Wanted.free rfl) rfl (A_pickF (v := .d (eB (decide (v221 > (5 : Int))))) rfl rfl rfl) ?_
            refine SO.nil ?_
            have q := Option.some.inj h4; subst q
            exact (Wk.env (e' := [(0, .d ((eL 1 eI) p0)), (1, .d ((eL 1 eB) p1)), (2, .d (eS p2)), (8, .d (eI y199)), (35, .d (eB (decide (v221 > (5 : Int)))))]) (EW.cons (AW.refl _) (EW.cons (AW.refl _) (EW.cons (AW.refl _) (EW.cons (AW.refl _) (EW.cons (AW.refl _) EW.nil))))))
        · rintro y217 h3
          change SC _ _ _ ⟨mk 70 [(0, .d ((eL 1 eI) p0)), (1, .d ((eL 1 eB) p1)), (2, .d (eS p2)), (8, .d (eI y199)), (35, .d (eB y217))], []⟩ _
          refine SC.condB (t := y217) rfl (fun hb222 => ?_) (fun hb222 => ?_)
          · replace h3 := ct hb222 h3
            refine SC.seq ?_
            refine SC.region ?_
            refine SO.op (Wanted.free rfl) rfl (A_assign (v := .d .nils) rfl rfl) ?_
            refine SO.op (Wanted.free rfl) rfl (A_assign (v := .d (eI (1 : Int))) rfl rfl) ?_
            refine SO.nil ?_
            change SC _ _ _ _ _
            refine SC.ret ?_
            have q := Option.some.inj h3; subst q
            have q : _ = _ := hv3; subst q
            have q := Option.some.inj h1; subst q
            have q := Option.some.inj h0; subst q
            exact finR (Wk.env (e' := [(6, .d ((eL 3 eApiValue) ([] : List ApiValue))), (7, .d (eI (1 : Int)))]) (EW.cons (AW.nl _) (EW.cons (AW.refl _) EW.nil))) (lresT rfl (lresT rfl lresN)) rfl
          · replace h3 := cf hb222 h3
            refine SC.skip ?_
            change SC _ _ _ _ _
            refine SC.region ?_
            refine SO.op (Wanted.free rfl) rfl (A_move (v := .d (eI y199)) rfl rfl) ?_
            refine SO.op (Wanted.free rfl) rfl (A_bin (v := .d (eI (w64 (y199 + (1 : Int))))) rfl rfl rfl (fun X Y => b_i64_add _ X Y y199 (1 : Int))) ?_
            refine SO.op (Wanted.free rfl) rfl (A_assign (v := .d (eI (w64 (y199 + (1 : Int))))) rfl rfl) ?_
            refine SO.nil ?_
            have q := Option.some.inj h3; subst q
            exact lf (Wk.env (e' := [(0, .d ((eL 1 eI) p0)), (1, .d ((eL 1 eB) p1)), (2, .d (eS p2)), (8, .d (eI (w64 (y199 + (1 : Int)))))]) (EW.cons (AW.refl _) (EW.cons (AW.refl _) (EW.cons (AW.refl _) (EW.cons (AW.refl _) EW.nil)))))
      · replace h3 := cf hb213 h3
        refine SC.exit ?_
        have q := Option.some.inj h3; subst q
        have q : _ = _ := hv3; subst q
        have q := Option.some.inj h1; subst q
        exact lf (Wk.env (e' := [(0, .d ((eL 1 eI) p0)), (1, .d ((eL 1 eB) p1)), (2, .d (eS p2))]) (EW.cons (AW.refl _) (EW.cons (AW.refl _) (EW.cons (AW.refl _) EW.nil))))
    · intro _ h0
      change SC _ _ _ ⟨mk 70 [(0, .d ((eL 1 eI) p0)), (1, .d ((eL 1 eB) p1)), (2, .d (eS p2))], []⟩ _
      refine SC.seq ?_
      refine SC.seq ?_
      refine SC.region ?_
      refine SO.op (Wanted.free rfl) rfl (A_move (v := .d (eS p2)) rfl rfl) ?_
      refine SO.op (Wanted.free rfl) rfl (A_len (v := .d (eI (p2.length : Int))) rfl rfl rfl rfl (len_str un9)) ?_
      refine SO.op (Wanted.free rfl) rfl (A_bin (v := .d (eB (decide ((p2.length : Int) > (256 : Int))))) rfl rfl rfl (fun X Y => b_i64_gtr _ X Y (p2.length : Int) (256 : Int))) ?_
      refine SO.nil ?_
      change SC _ _ _ _ _
      refine SC.condB (t := (decide ((p2.length : Int) > (256 : Int)))) rfl (fun hb224 => ?_) (fun hb224 => ?_)
      · replace h0 := ct hb224 h0
        refine SC.seq ?_
        refine SC.region ?_
        refine SO.op (Wanted.free rfl) rfl (A_assign (v := .d .nils) rfl rfl) ?_
        refine SO.op (Wanted.free rfl) rfl (A_assign (v := .d (eI (2 : Int))) rfl rfl) ?_
        refine SO.nil ?_
        change SC _ _ _ _ _
        refine SC.ret ?_
        have q := Option.some.inj h0; subst q
        exact finR (Wk.env (e' := [(6, .d ((eL 3 eApiValue) ([] : List ApiValue))), (7, .d (eI (2 : Int)))]) (EW.cons (AW.nl _) (EW.cons (AW.refl _) EW.nil))) (lresT rfl (lresT rfl lresN)) rfl
      · replace h0 := cf hb224 h0
        refine SC.skip ?_
        change SC _ _ _ _ _
        refine SC.seq ?_
        refine SC.region ?_
        refine SO.op (Wanted.free rfl) rfl (A_assign (v := .d .nils) rfl rfl) ?_
        refine SO.nil ?_
        change SC _ _ _ _ _
        refine SC.seqB h0 (fun y => ⟨mk 70 [(2, .d (eS y.1)), (9, .slc 0 3 0 y.2.length none)], [.row 3 (List.map eApiValue y.2) true]⟩) ?_ ?_
        · intro u1_263 h1 h0
          refine SC.seq ?_
          refine SC.region ?_
          refine SO.op (Wanted.free rfl) rfl (A_assign (v := .d (eI (0 : Int))) rfl rfl) ?_
          refine SO.nil ?_
          change SC _ _ _ _ _
          refine SC.blk ?_
          obtain ⟨u2_289, h2, h1⟩ := ob h1
          refine SC.loopB h2 (fun y => ⟨mk 70 [(0, .d ((eL 1 eI) p0)), (1, .d ((eL 1 eB) p1)), (2, .d (eS y.1)), (9, .slc 0 3 0 y.2.1.length none), (10, .d (eI y.2.2))], [.row 3 (List.map eApiValue y.2.1) true]⟩) (Wk.trans (Wk.pushE (σ' := [.row 3 (List.map eApiValue ([] : List ApiValue)) true]) (.row 3 [] true) (fun _ hh => by cases hh) rfl) (Wk.trans (Wk.env (e' := [(0, .d ((eL 1 eI) p0)), (1, .d ((eL 1 eB) p1)), (2, .d (eS p2)), (9, .slc 0 3 0 (([] : List ApiValue).length) none), (10, .d (eI (0 : Int)))]) (EW.cons (AW.refl _) (EW.cons (AW.refl _) (EW.cons (AW.refl _) (EW.cons (AW.slcn _ _ _) (EW.cons (AW.refl _) EW.nil)))))) (Wk.env (e' := [(0, .d ((eL 1 eI) p0)), (1, .d ((eL 1 eB) p1)), (2, .d (eS p2)), (9, .slc 0 3 0 (([] : List ApiValue).length) none), (10, .d (eI (0 : Int)))]) (EW.cons (AW.refl _) (EW.cons (AW.refl _) (EW.cons (AW.refl _) (EW.cons (AW.refl _) (EW.cons (AW.refl _) EW.nil)))))))) ?_
          intro n299
          rintro ⟨y273, y274, y275⟩ w2_288 h3 hv3
          change SC _ _ _ ⟨mk 70 [(0, .d ((eL 1 eI) p0)), (1, .d ((eL 1 eB) p1)), (2, .d (eS y273)), (9, .slc 0 3 0 y274.length none), (10, .d (eI y275))], [.row 3 (List.map eApiValue y274) true]⟩ _
          refine SC.seq ?_
          refine SC.seq ?_
          refine SC.region ?_
          refine SO.op (Wanted.free rfl) rfl (A_move (v := .d (eI y275)) rfl rfl) ?_
          refine SO.op (Wanted.free rfl) rfl (A_move (v := .d ((eL 1 eI) p0)) rfl rfl) ?_
          refine SO.op (Wanted.free rfl) rfl (A_len (v := .d (eI (p0.length : Int))) rfl rfl rfl rfl (len_lst un24)) ?_
          refine SO.op (Wanted.free rfl) rfl (A_bin (v := .d (eB (decide (y275 < (p0.length : Int))))) rfl rfl rfl (fun X Y => b_i64_lss _ X Y y275 (p0.length : Int))) ?_
          refine SO.nil ?_
          change SC _ _ _ _ _
          refine SC.condB (t := (decide (y275 < (p0.length : Int)))) rfl (fun hb290 => ?_) (fun hb290 => ?_)
          · replace h3 := ct hb290 h3
            refine SC.skip ?_
            change SC _ _ _ _ _
            refine SC.seq ?_
            refine SC.blk ?_
            refine SC.seq ?_
            refine SC.draws (by kernel_rfl) ?_
            refine ST.op (mk' := ([], false)) (Wanted.free rfl) rfl (A_move (v := .d ((eL 1 eI) p0)) rfl rfl) rfl ?_
            refine ST.op (mk' := ([], false)) (Wanted.free rfl) rfl (A_move (v := .d (eI y275)) rfl rfl) rfl ?_
            obtain ⟨v291, hv291, h3⟩ := ob h3
            refine ST.op (mk' := ([], false)) (Wanted.free rfl) rfl (A_indexAddr (v := .rop [(eI v291)]) rfl rfl rfl (ia_lst un24 ts3 (getI_some hv291).1 (map_get (getI_some hv291).2))) rfl ?_
            refine ST.op (mk' := ([], false)) (Wanted.free rfl) rfl (A_load (v := .d (eI v291)) rfl rfl (ld_rop ts3 ta3 rfl)) rfl ?_
            refine ST.op (mk' := ([], false)) (Wanted.free rfl) rfl (A_move (v := .d ((eL 1 eB) p1)) rfl rfl) rfl ?_
            refine ST.op (mk' := ([], false)) (Wanted.free rfl) rfl (A_move (v := .d (eI y275)) rfl rfl) rfl ?_
            obtain ⟨v292, hv292, h3⟩ := ob h3
            refine ST.op (mk' := ([], false)) (Wanted.free rfl) rfl (A_indexAddr (v := .rop [(eB v292)]) rfl rfl rfl (ia_lst un23 ts4 (getI_some hv292).1 (map_get (getI_some hv292).2))) rfl ?_
            refine ST.op (mk' := ([], false)) (Wanted.free rfl) rfl (A_load (v := .d (eB v292)) rfl rfl (ld_rop ts4 ta4 rfl)) rfl ?_
            refine ST.op (mk' := ([], false)) (Wanted.free rfl) rfl (A_move (v := .d (eS y273)) rfl rfl) rfl ?_
            obtain ⟨⟨r293, r294⟩, hq295, h3⟩ := ob h3
            refine ST.call (ι := []) (σc := []) (args' := [.d (eI v291), .d (eB v292), .d (eS y273)]) (r' := .tuple [.d (eApiValue r294), .d (eI r293)]) (σ2 := [.box (.d (eApiValue r294))]) (os := [.box (.d (eApiValue r294))]) (r := .tuple [.d (eApiValue r294), .d (eI r293)]) (σ' := [.row 3 (List.map eApiValue y274) true, .box (.d (eApiValue r294))]) (mk' := ([1], true)) (Wanted.free rfl) rfl rfl rfl rfl rfl cb35 rfl rfl (ref07_one_ok v291 v292 y273 _ hq295) rfl rfl (Nat.le_of_ble_eq_true rfl) rfl rfl ?_
            refine ST.op (mk' := ([], false)) (Wanted.free rfl) rfl (A_move (v := .tuple [.d (eApiValue r294), .d (eI r293)]) rfl rfl) rfl ?_
            refine ST.op (mk' := ([], false)) (Wanted.free rfl) rfl (A_extract (v := .d (eApiValue r294)) rfl rfl rfl) rfl ?_
            refine ST.op (mk' := ([], false)) (Wanted.free rfl) rfl (A_extract (v := .d (eI r293)) rfl rfl rfl) rfl ?_
            refine ST.op (mk' := ([2], true)) (Wanted.free rfl) rfl (A_alloc (σ' := [.row 3 (List.map eApiValue y274) true, .box (.d (eApiValue r294)), .box (.d (eApiValue (ApiValue.mk (0 : Int) (0 : UInt64) ([] : List UInt8))))]) rfl zo35 rfl rfl) rfl ?_
            refine ST.op0 (mk' := ([2], true)) (Wanted.free rfl) rfl (A_store (σ' := [.row 3 (List.map eApiValue y274) true, .box (.d (eApiValue r294)), .box (.d (eApiValue r294))]) rfl rfl rfl (st_box (zs := [.d (eI r294.Kind), .d (eU64 r294.N), .d (eS r294.S)]) ts35 rfl rfl rfl rfl rfl (Nat.le_of_ble_eq_true rfl) rfl)) rfl ?_
            refine ST.op (mk' := ([], false)) (Wanted.free rfl) rfl (A_assign (v := .d (eI r293)) rfl rfl) rfl ?_
            refine ST.nil (And.intro (by decide +kernel) ?_)
            change SC _ _ _ _ _
            refine SC.seq ?_
            refine SC.seq ?_
            refine SC.region ?_
            refine SO.op (Wanted.free rfl) rfl (A_move (v := .d (eI r293)) rfl rfl) ?_
            refine SO.op (Wanted.free rfl) rfl (A_bin (v := .d (eB (r293 == (0 : Int)))) rfl rfl rfl (fun X Y => b_i64_eql _ X Y r293 (0 : Int))) ?_
            refine SO.nil ?_
            change SC _ _ _ _ _
            refine SC.condB (t := (r293 == (0 : Int))) rfl (fun hb296 => ?_) (fun hb296 => ?_)
            · replace h3 := ct hb296 h3
              refine SC.seq ?_
              refine SC.region ?_
              refine SO.op (Wanted.free rfl) rfl (A_assign (v := .d .nils) rfl rfl) ?_
              refine SO.op (Wanted.free rfl) rfl (A_assign (v := .d (eI (2 : Int))) rfl rfl) ?_
              refine SO.nil ?_
              change SC _ _ _ _ _
              refine SC.ret ?_
              have q := Option.some.inj h3; subst q
              have q : _ = _ := hv3; subst q
              have q := Option.some.inj h1; subst q
              have q := Option.some.inj h0; subst q
              exact finR (Wk.trans (Wk.env (e' := [(6, .d ((eL 3 eApiValue) ([] : List ApiValue))), (7, .d (eI (2 : Int)))]) (EW.cons (AW.nl _) (EW.cons (AW.refl _) EW.nil))) (Wk.canon (ι := []) (roots := []) (os := []) (e' := [(6, .d ((eL 3 eApiValue) ([] : List ApiValue))), (7, .d (eI (2 : Int)))]) rfl rfl rfl)) (lresT rfl (lresT rfl lresN)) rfl
            · replace h3 := cf hb296 h3
              refine SC.skip ?_
              change SC _ _ _ _ _
              refine SC.seq ?_
              refine SC.region ?_
              refine SO.op (Wanted.free rfl) rfl (A_move (v := .slc 0 3 0 y274.length none) rfl rfl) ?_
              refine SO.op (Wanted.free rfl) rfl (A_load (v := .d (eApiValue r294)) rfl rfl (ld_box ts35 ta35 rfl rfl)) ?_
              refine SO.opW (v' := .slc 3 3 0 ([r294].length) none) (Wanted.free rfl) rfl (A_buildSlice (v := .slc 3 3 0 1 (some 1)) (σ' := [.row 3 (List.map eApiValue y274) true, .box (.d (eApiValue r294)), .box (.d (eApiValue r294)), .row 3 (List.map eApiValue [r294]) true]) rfl rfl (bsl un22 ei35 (by decide) rfl (by rfl) rfl rfl)) (AW.slcc rfl rfl) ?_
              obtain ⟨hg297, h3⟩ := gd h3
              refine SO.op (Wanted.free rfl) rfl (A_append (v := .slc 4 3 0 ((y274 ++ [r294]).length) none) (σ' := [.dead, .box (.d (eApiValue r294)), .box (.d (eApiValue r294)), .row 3 (List.map eApiValue [r294]) true, .row 3 (List.map eApiValue (y274 ++ [r294])) true]) rfl rfl rfl rfl rfl bc22 (ApFull (f := eApiValue) (xs := y274) (ys := [r294]) rfl un22 ei35 rfl (el_full (xs := [r294]) rfl) hg297 rfl rfl)) ?_
              refine SO.op (Wanted.free rfl) rfl (A_assign (v := .slc 4 3 0 ((y274 ++ [r294]).length) none) rfl rfl) ?_
              refine SO.nil ?_
              change SC _ _ _ _ _
              refine SC.region ?_
              refine SO.op (Wanted.free rfl) rfl (A_move (v := .d (eS y273)) rfl rfl) ?_
              refine SO.op (Wanted.free rfl) rfl (A_move (v := .d (eI r293)) rfl rfl) ?_
              obtain ⟨hg298, h3⟩ := gd h3
              refine SO.op (Wanted.free rfl) rfl (A_slice (v := .d (eS (List.drop r293.toNat y273))) rfl rfl rfl rfl rfl (sl_str_lo un9 hg298)) ?_
              refine SO.op (Wanted.free rfl) rfl (A_assign (v := .d (eS (List.drop r293.toNat y273))) rfl rfl) ?_
              refine SO.nil ?_
              change SC _ _ _ _ _
              refine SC.region ?_
              refine SO.op (Wanted.free rfl) rfl (A_move (v := .d (eI y275)) rfl rfl) ?_
              refine SO.op (Wanted.free rfl) rfl (A_bin (v := .d (eI (w64 (y275 + (1 : Int))))) rfl rfl rfl (fun X Y => b_i64_add _ X Y y275 (1 : Int))) ?_
              refine SO.op (Wanted.free rfl) rfl (A_assign (v := .d (eI (w64 (y275 + (1 : Int))))) rfl rfl) ?_
              refine SO.nil ?_
              have q := Option.some.inj h3; subst q
              exact lf (Wk.trans (Wk.env (e' := [(0, .d ((eL 1 eI) p0)), (1, .d ((eL 1 eB) p1)), (2, .d (eS (List.drop r293.toNat y273))), (9, .slc 4 3 0 ((y274 ++ [r294]).length) none), (10, .d (eI (w64 (y275 + (1 : Int)))))]) (EW.cons (AW.refl _) (EW.cons (AW.refl _) (EW.cons (AW.refl _) (EW.cons (AW.refl _) (EW.cons (AW.refl _) EW.nil)))))) (Wk.canon (ι := [4]) (roots := [4]) (os := [.row 3 (List.map eApiValue (y274 ++ [r294])) true]) (e' := [(0, .d ((eL 1 eI) p0)), (1, .d ((eL 1 eB) p1)), (2, .d (eS (List.drop r293.toNat y273))), (9, .slc 0 3 0 ((y274 ++ [r294]).length) none), (10, .d (eI (w64 (y275 + (1 : Int)))))]) rfl rfl rfl))
          · replace h3 := cf hb290 h3
            refine SC.exit ?_
            have q := Option.some.inj h3; subst q
            have q : _ = _ := hv3; subst q
            have q := Option.some.inj h1; subst q
            exact lf (Wk.env (e' := [(2, .d (eS y273)), (9, .slc 0 3 0 y274.length none)]) (EW.cons (AW.refl _) (EW.cons (AW.refl _) EW.nil)))
        · rintro ⟨y261, y262⟩ h0
          change SC _ _ _ ⟨mk 70 [(2, .d (eS y261)), (9, .slc 0 3 0 y262.length none)], [.row 3 (List.map eApiValue y262) true]⟩ _
          refine SC.seq ?_
          refine SC.seq ?_
          refine SC.region ?_
          refine SO.op (Wanted.free rfl) rfl (A_move (v := .d (eS y261)) rfl rfl) ?_
          refine SO.op (Wanted.free rfl) rfl (A_bin (v := .d (eB (y261 != ([] : List UInt8)))) rfl rfl rfl (fun X Y => b_str_neq _ X Y y261 ([] : List UInt8))) ?_
          refine SO.nil ?_
          change SC _ _ _ _ _
          refine SC.condB (t := (y261 != ([] : List UInt8))) rfl (fun hb300 => ?_) (fun hb300 => ?_)
          · replace h0 := ct hb300 h0
            refine SC.seq ?_
            refine SC.region ?_
            refine SO.op (Wanted.free rfl) rfl (A_assign (v := .d .nils) rfl rfl) ?_
            refine SO.op (Wanted.free rfl) rfl (A_assign (v := .d (eI (2 : Int))) rfl rfl) ?_
            refine SO.nil ?_
            change SC _ _ _ _ _
            refine SC.ret ?_
            have q := Option.some.inj h0; subst q
            exact finR (Wk.trans (Wk.env (e' := [(6, .d ((eL 3 eApiValue) ([] : List ApiValue))), (7, .d (eI (2 : Int)))]) (EW.cons (AW.nl _) (EW.cons (AW.refl _) EW.nil))) (Wk.canon (ι := []) (roots := []) (os := []) (e' := [(6, .d ((eL 3 eApiValue) ([] : List ApiValue))), (7, .d (eI (2 : Int)))]) rfl rfl rfl)) (lresT rfl (lresT rfl lresN)) rfl
          · replace h0 := cf hb300 h0
            refine SC.skip ?_
            change SC _ _ _ _ _
            refine SC.seq ?_
            refine SC.region ?_
            refine SO.op (Wanted.free rfl) rfl (A_move (v := .slc 0 3 0 y262.length none) rfl rfl) ?_
            refine SO.op (Wanted.free rfl) rfl (A_assign (v := .slc 0 3 0 y262.length none) rfl rfl) ?_
            refine SO.op (Wanted.free rfl) rfl (A_assign (v := .d (eI (0 : Int))) rfl rfl) ?_
            refine SO.nil ?_
            change SC _ _ _ _ _
            refine SC.ret ?_
            have q := Option.some.inj h0; subst q
            exact finR (Wk.trans (Wk.frz (i := 6) (x := .slc 0 3 0 y262.length none) (y := ((eL 3 eApiValue) y262)) (σ1 := [.row 3 (List.map eApiValue y262) false]) rfl rfl (frz_full rfl rfl)) (Wk.trans (Wk.env (e' := [(6, .d ((eL 3 eApiValue) y262)), (7, .d (eI (0 : Int)))]) (EW.cons (AW.refl _) (EW.cons (AW.refl _) EW.nil))) (Wk.canon (ι := []) (roots := []) (os := []) (e' := [(6, .d ((eL 3 eApiValue) y262)), (7, .d (eI (0 : Int)))]) rfl rfl rfl))) (lresT rfl (lresT rfl lresN)) rfl

/-- granary/granaryraw.Values -/
noncomputable def raw_Values (p0 : List ApiValue) (p1 : List ApiValue) : Option Bool :=
  bif ((p0.length : Int) != (p1.length : Int)) then
    some false
  else
    bindE (Y := Unit) (E := Bool)
      (Option.bind (α := Unit ⊕ Bool)
        (loop (Y := Int) (W := Unit ⊕ Bool) (fun y61 =>
          bif (decide (y61 < (p0.length : Int))) then
            Option.bind (getI p0 y61) fun v70 =>
            Option.bind (getI p1 y61) fun v71 =>
            bif (!(eqApiValue v70 v71)) then
              some (Sum.inr (Sum.inr false))
            else
              some (Sum.inl (w64 (y61 + (1 : Int))))
          else
            some (Sum.inr (Sum.inl ()))) (0 : Int))
        (Sum.elim (fun e => some (Sum.inl e)) (fun e => some (Sum.inr e))))
      (fun _ =>
        some true)
      (fun e => some e)
theorem raw_Values_ok (p0 : List ApiValue) (p1 : List ApiValue) (r : Bool) (h0 : raw_Values p0 p1 = some r) : CallAt Tryd.prog 14 [.d ((eL 3 eApiValue) p0), .d ((eL 3 eApiValue) p1)] [] (.d (eB r)) [] := by
  unfold raw_Values at h0
  refine CallAt.of Tryd.func14 rfl ?_
  refine SC.post (Q' := fun e s => ∃ s1, Wk _ s s1 ∧ Fin _ _ _ _ e s1) ?_ (fun _ _ h => h)
  refine SC.wk (s1 := ⟨mk 26 [(0, .d ((eL 3 eApiValue) p0)), (1, .d ((eL 3 eApiValue) p1))], []⟩) (Wk.begin (n := 26) (Nat.le_of_ble_eq_true rfl)) ?_
  refine SC.seq ?_
  refine SC.region ?_
  refine SO.op (Wanted.free rfl) rfl (A_assign (v := .d (eB false)) rfl rfl) ?_
  refine SO.nil ?_
  change SC _ _ _ _ _
  refine SC.seq ?_
  refine SC.seq ?_
  refine SC.region ?_
  refine SO.op (Wanted.free rfl) rfl (A_move (v := .d ((eL 3 eApiValue) p0)) rfl rfl) ?_
  refine SO.op (Wanted.free rfl) rfl (A_len (v := .d (eI (p0.length : Int))) rfl rfl rfl rfl (len_lst un22)) ?_
  refine SO.op (Wanted.free rfl) rfl (A_move (v := .d ((eL 3 eApiValue) p1)) rfl rfl) ?_
  refine SO.op (Wanted.free rfl) rfl (A_len (v := .d (eI (p1.length : Int))) rfl rfl rfl rfl (len_lst un22)) ?_
  refine SO.op (Wanted.free rfl) rfl (A_bin (v := .d (eB ((p0.length : Int) != (p1.length : Int)))) rfl rfl rfl (fun X Y => b_i64_neq _ X Y (p0.length : Int) (p1.length : Int))) ?_
  refine SO.nil ?_
  change SC _ _ _ _ _
  refine SC.condB (t := ((p0.length : Int) != (p1.length : Int))) rfl (fun hb38 => ?_) (fun hb38 => ?_)
  · replace h0 := ct hb38 h0
    refine SC.seq ?_
    refine SC.region ?_
    refine SO.op (Wanted.free rfl) rfl (A_assign (v := .d (eB false)) rfl rfl) ?_
    refine SO.nil ?_
    change SC _ _ _ _ _
    refine SC.ret ?_
    have q := Option.some.inj h0; subst q
    exact finR (Wk.env (e' := [(4, .d (eB false))]) (EW.cons (AW.refl _) EW.nil)) (lresT rfl lresN) rfl
  · replace h0 := cf hb38 h0
    refine SC.skip ?_
    change SC _ _ _ _ _
    refine SC.seqB h0 (fun y => ⟨mk 26 [], []⟩) ?_ ?_
    · intro u1_56 h1 h0
      refine SC.seq ?_
      refine SC.region ?_
      refine SO.op (Wanted.free rfl) rfl (A_assign (v := .d (eI (0 : Int))) rfl rfl) ?_
      refine SO.nil ?_
      change SC _ _ _ _ _
      refine SC.blk ?_
      obtain ⟨u2_68, h2, h1⟩ := ob h1
      refine SC.loopB h2 (fun y => ⟨mk 26 [(0, .d ((eL 3 eApiValue) p0)), (1, .d ((eL 3 eApiValue) p1)), (5, .d (eI y))], []⟩) (Wk.env (e' := [(0, .d ((eL 3 eApiValue) p0)), (1, .d ((eL 3 eApiValue) p1)), (5, .d (eI (0 : Int)))]) (EW.cons (AW.refl _) (EW.cons (AW.refl _) (EW.cons (AW.refl _) EW.nil)))) ?_
      intro n73
      rintro y61 w2_67 h3 hv3
      change SC _ _ _ ⟨mk 26 [(0, .d ((eL 3 eApiValue) p0)), (1, .d ((eL 3 eApiValue) p1)), (5, .d (eI y61))], []⟩ _
      refine SC.seq ?_
      refine SC.seq ?_
      refine SC.region ?_
      refine SO.op (Wanted.free rfl) rfl (A_move (v := .d (eI y61)) rfl rfl) ?_
      refine SO.op (Wanted.free rfl) rfl (A_move (v := .d ((eL 3 eApiValue) p0)) rfl rfl) ?_
      refine SO.op (Wanted.free rfl) rfl (A_len (v := .d (eI (p0.length : Int))) rfl rfl rfl rfl (len_lst un22)) ?_
      refine SO.op (Wanted.free rfl) rfl (A_bin (v := .d (eB (decide (y61 < (p0.length : Int))))) rfl rfl rfl (fun X Y => b_i64_lss _ X Y y61 (p0.length : Int))) ?_
      refine SO.nil ?_
      change SC _ _ _ _ _
      refine SC.condB (t := (decide (y61 < (p0.length : Int)))) rfl (fun hb69 => ?_) (fun hb69 => ?_)
      · replace h3 := ct hb69 h3
        refine SC.skip ?_
        change SC _ _ _ _ _
        refine SC.seq ?_
        refine SC.blk ?_
        refine SC.seq ?_
        refine SC.draws (by kernel_rfl) ?_
        refine ST.op (mk' := ([], false)) (Wanted.free rfl) rfl (A_move (v := .d ((eL 3 eApiValue) p0)) rfl rfl) rfl ?_
        refine ST.op (mk' := ([], false)) (Wanted.free rfl) rfl (A_move (v := .d (eI y61)) rfl rfl) rfl ?_
        obtain ⟨v70, hv70, h3⟩ := ob h3
        refine ST.op (mk' := ([], false)) (Wanted.free rfl) rfl (A_indexAddr (v := .rop [(eI v70.Kind), (eU64 v70.N), (eS v70.S)]) rfl rfl rfl (ia_lst un22 ts35 (getI_some hv70).1 (map_get (getI_some hv70).2))) rfl ?_
        refine ST.op (mk' := ([], false)) (Wanted.free rfl) rfl (A_load (v := .d (eApiValue v70)) rfl rfl (ld_rop ts35 ta35 rfl)) rfl ?_
        refine ST.op (mk' := ([], false)) (Wanted.free rfl) rfl (A_move (v := .d ((eL 3 eApiValue) p1)) rfl rfl) rfl ?_
        refine ST.op (mk' := ([], false)) (Wanted.free rfl) rfl (A_move (v := .d (eI y61)) rfl rfl) rfl ?_
        obtain ⟨v71, hv71, h3⟩ := ob h3
        refine ST.op (mk' := ([], false)) (Wanted.free rfl) rfl (A_indexAddr (v := .rop [(eI v71.Kind), (eU64 v71.N), (eS v71.S)]) rfl rfl rfl (ia_lst un22 ts35 (getI_some hv71).1 (map_get (getI_some hv71).2))) rfl ?_
        refine ST.op (mk' := ([], false)) (Wanted.free rfl) rfl (A_load (v := .d (eApiValue v71)) rfl rfl (ld_rop ts35 ta35 rfl)) rfl ?_
        refine ST.op (mk' := ([], false)) (Wanted.free rfl) rfl (A_bin (v := .d (eB (!(eqApiValue v70 v71)))) rfl rfl rfl (fun X Y => eqApiValue_neq_35 X Y v70 v71)) rfl ?_
        refine ST.nil (And.intro (by decide +kernel) ?_)
        change SC _ _ _ _ _
        refine SC.condB (t := (!(eqApiValue v70 v71))) rfl (fun hb72 => ?_) (fun hb72 => ?_)
        · replace h3 := ct hb72 h3
          refine SC.seq ?_
          refine SC.region ?_
          refine SO.op (Wanted.free rfl) rfl (A_assign (v := .d (eB false)) rfl rfl) ?_
          refine SO.nil ?_
          change SC _ _ _ _ _
          refine SC.ret ?_
          have q := Option.some.inj h3; subst q
          have q : _ = _ := hv3; subst q
          have q := Option.some.inj h1; subst q
          have q := Option.some.inj h0; subst q
          exact finR (Wk.env (e' := [(4, .d (eB false))]) (EW.cons (AW.refl _) EW.nil)) (lresT rfl lresN) rfl
        · replace h3 := cf hb72 h3
          refine SC.skip ?_
          change SC _ _ _ _ _
          refine SC.region ?_
          refine SO.op (Wanted.free rfl) rfl (A_move (v := .d (eI y61)) rfl rfl) ?_
          refine SO.op (Wanted.free rfl) rfl (A_bin (v := .d (eI (w64 (y61 + (1 : Int))))) rfl rfl rfl (fun X Y => b_i64_add _ X Y y61 (1 : Int))) ?_
          refine SO.op (Wanted.free rfl) rfl (A_assign (v := .d (eI (w64 (y61 + (1 : Int))))) rfl rfl) ?_
          refine SO.nil ?_
          have q := Option.some.inj h3; subst q
          exact lf (Wk.env (e' := [(0, .d ((eL 3 eApiValue) p0)), (1, .d ((eL 3 eApiValue) p1)), (5, .d (eI (w64 (y61 + (1 : Int)))))]) (EW.cons (AW.refl _) (EW.cons (AW.refl _) (EW.cons (AW.refl _) EW.nil))))
      · replace h3 := cf hb69 h3
        refine SC.exit ?_
        have q := Option.some.inj h3; subst q
        have q : _ = _ := hv3; subst q
        have q := Option.some.inj h1; subst q
        exact lf (Wk.env (e' := []) EW.nil)
    · intro _ h0
      change SC _ _ _ ⟨mk 26 [], []⟩ _
      refine SC.seq ?_
      refine SC.region ?_
      refine SO.op (Wanted.free rfl) rfl (A_assign (v := .d (eB true)) rfl rfl) ?_
      refine SO.nil ?_
      change SC _ _ _ _ _
      refine SC.ret ?_
      have q := Option.some.inj h0; subst q
      exact finR (Wk.env (e' := [(4, .d (eB true))]) (EW.cons (AW.refl _) EW.nil)) (lresT rfl lresN) rfl

/-- granary/granarylaw07.KeyAll -/
noncomputable def law07_KeyAll (p0 : List ApiValue) (p1 : List Bool) (p2 : List Int) (p3 : List UInt8) : Option Bool :=
  Option.bind awakeF fun _ =>
  Option.bind (key_Encode p0 p1) fun (r28, r29) =>
  Option.bind (ref07_Encode p0 p1) fun (r31, r32) =>
  Option.bind (key_Decode p2 p1 p3) fun (r34, r35) =>
  Option.bind (ref07_Decode p2 p1 p3) fun (r37, r38) =>
  Option.bind (α := Bool)
    (bif (r28 == r31) then
      bif (r29 == r32) then
        Option.bind (raw_Values r34 r37) fun r49 =>
        bif r49 then
          some (r35 == r38)
        else
          some false
      else
        some false
    else
      some false)
    fun y45 =>
  some y45
theorem law07_KeyAll_ok (p0 : List ApiValue) (p1 : List Bool) (p2 : List Int) (p3 : List UInt8) (r : Bool) (h0 : law07_KeyAll p0 p1 p2 p3 = some r) : CallAt Tryd.prog 3 [.d ((eL 3 eApiValue) p0), .d ((eL 1 eB) p1), .d ((eL 1 eI) p2), .d (eS p3)] [] (.d (eB r)) [] := by
  unfold law07_KeyAll at h0
  refine CallAt.of Tryd.func3 rfl ?_
  refine SC.post (Q' := fun e s => ∃ s1, Wk _ s s1 ∧ Fin _ _ _ _ e s1) ?_ (fun _ _ h => h)
  refine SC.wk (s1 := ⟨mk 63 [(0, .d ((eL 3 eApiValue) p0)), (1, .d ((eL 1 eB) p1)), (2, .d ((eL 1 eI) p2)), (3, .d (eS p3))], []⟩) (Wk.begin (n := 63) (Nat.le_of_ble_eq_true rfl)) ?_
  refine SC.seq ?_
  refine SC.region ?_
  refine SO.op (Wanted.free rfl) rfl (A_assign (v := .d (eB false)) rfl rfl) ?_
  refine SO.nil ?_
  change SC _ _ _ _ _
  refine SC.seq ?_
  refine SC.seq ?_
  refine SC.region ?_
  obtain ⟨_, hq27, h0⟩ := ob h0
  refine SO.call0 (r := .d (eB true)) (Wanted.free rfl) rfl rfl rfl rfl rfl cb9 rfl (fun _ => rfl) (fun _ => rfl) (awake_ok _ hq27) ?_
  refine SO.op (Wanted.free rfl) rfl (A_un (v := .d (eB false)) rfl rfl rfl rfl) ?_
  refine SO.nil ?_
  change SC _ _ _ _ _
  refine SC.condF rfl ?_
  refine SC.skip ?_
  change SC _ _ _ _ _
  refine SC.seq ?_
  refine SC.region ?_
  refine SO.op (Wanted.free rfl) rfl (A_move (v := .d ((eL 3 eApiValue) p0)) rfl rfl) ?_
  refine SO.op (Wanted.free rfl) rfl (A_move (v := .d ((eL 1 eB) p1)) rfl rfl) ?_
  obtain ⟨⟨r28, r29⟩, hq30, h0⟩ := ob h0
  refine SO.call0 (r := .tuple [.d (eS r28), .d (eI r29)]) (Wanted.free rfl) rfl rfl rfl rfl rfl cb10 rfl (fun _ => rfl) (fun _ => rfl) (key_Encode_ok p0 p1 _ hq30) ?_
  refine SO.op (Wanted.free rfl) rfl (A_move (v := .tuple [.d (eS r28), .d (eI r29)]) rfl rfl) ?_
  refine SO.op (Wanted.free rfl) rfl (A_extract (v := .d (eS r28)) rfl rfl rfl) ?_
  refine SO.op (Wanted.free rfl) rfl (A_extract (v := .d (eI r29)) rfl rfl rfl) ?_
  refine SO.op (Wanted.free rfl) rfl (A_assign (v := .d (eS r28)) rfl rfl) ?_
  refine SO.op (Wanted.free rfl) rfl (A_assign (v := .d (eI r29)) rfl rfl) ?_
  refine SO.nil ?_
  change SC _ _ _ _ _
  refine SC.seq ?_
  refine SC.region ?_
  refine SO.op (Wanted.free rfl) rfl (A_move (v := .d ((eL 3 eApiValue) p0)) rfl rfl) ?_
  refine SO.op (Wanted.free rfl) rfl (A_move (v := .d ((eL 1 eB) p1)) rfl rfl) ?_
  obtain ⟨⟨r31, r32⟩, hq33, h0⟩ := ob h0
  refine SO.call0 (r := .tuple [.d (eS r31), .d (eI r32)]) (Wanted.free rfl) rfl rfl rfl rfl rfl cb11 rfl (fun _ => rfl) (fun _ => rfl) (ref07_Encode_ok p0 p1 _ hq33) ?_
  refine SO.op (Wanted.free rfl) rfl (A_move (v := .tuple [.d (eS r31), .d (eI r32)]) rfl rfl) ?_
  refine SO.op (Wanted.free rfl) rfl (A_extract (v := .d (eS r31)) rfl rfl rfl) ?_
  refine SO.op (Wanted.free rfl) rfl (A_extract (v := .d (eI r32)) rfl rfl rfl) ?_
  refine SO.op (Wanted.free rfl) rfl (A_assign (v := .d (eS r31)) rfl rfl) ?_
  refine SO.op (Wanted.free rfl) rfl (A_assign (v := .d (eI r32)) rfl rfl) ?_
  refine SO.nil ?_
  change SC _ _ _ _ _
  refine SC.seq ?_
  refine SC.region ?_
  refine SO.op (Wanted.free rfl) rfl (A_move (v := .d ((eL 1 eI) p2)) rfl rfl) ?_
  refine SO.op (Wanted.free rfl) rfl (A_move (v := .d ((eL 1 eB) p1)) rfl rfl) ?_
  refine SO.op (Wanted.free rfl) rfl (A_move (v := .d (eS p3)) rfl rfl) ?_
  obtain ⟨⟨r34, r35⟩, hq36, h0⟩ := ob h0
  refine SO.call0 (r := .tuple [.d ((eL 3 eApiValue) r34), .d (eI r35)]) (Wanted.free rfl) rfl rfl rfl rfl rfl cb12 rfl (fun _ => rfl) (fun _ => rfl) (key_Decode_ok p2 p1 p3 _ hq36) ?_
  refine SO.op (Wanted.free rfl) rfl (A_move (v := .tuple [.d ((eL 3 eApiValue) r34), .d (eI r35)]) rfl rfl) ?_
  refine SO.op (Wanted.free rfl) rfl (A_extract (v := .d ((eL 3 eApiValue) r34)) rfl rfl rfl) ?_
  refine SO.op (Wanted.free rfl) rfl (A_extract (v := .d (eI r35)) rfl rfl rfl) ?_
  refine SO.op (Wanted.free rfl) rfl (A_assign (v := .d ((eL 3 eApiValue) r34)) rfl rfl) ?_
  refine SO.op (Wanted.free rfl) rfl (A_assign (v := .d (eI r35)) rfl rfl) ?_
  refine SO.nil ?_
  change SC _ _ _ _ _
  refine SC.seq ?_
  refine SC.region ?_
  refine SO.op (Wanted.free rfl) rfl (A_move (v := .d ((eL 1 eI) p2)) rfl rfl) ?_
  refine SO.op (Wanted.free rfl) rfl (A_move (v := .d ((eL 1 eB) p1)) rfl rfl) ?_
  refine SO.op (Wanted.free rfl) rfl (A_move (v := .d (eS p3)) rfl rfl) ?_
  obtain ⟨⟨r37, r38⟩, hq39, h0⟩ := ob h0
  refine SO.call0 (r := .tuple [.d ((eL 3 eApiValue) r37), .d (eI r38)]) (Wanted.free rfl) rfl rfl rfl rfl rfl cb13 rfl (fun _ => rfl) (fun _ => rfl) (ref07_Decode_ok p2 p1 p3 _ hq39) ?_
  refine SO.op (Wanted.free rfl) rfl (A_move (v := .tuple [.d ((eL 3 eApiValue) r37), .d (eI r38)]) rfl rfl) ?_
  refine SO.op (Wanted.free rfl) rfl (A_extract (v := .d ((eL 3 eApiValue) r37)) rfl rfl rfl) ?_
  refine SO.op (Wanted.free rfl) rfl (A_extract (v := .d (eI r38)) rfl rfl rfl) ?_
  refine SO.op (Wanted.free rfl) rfl (A_assign (v := .d ((eL 3 eApiValue) r37)) rfl rfl) ?_
  refine SO.op (Wanted.free rfl) rfl (A_assign (v := .d (eI r38)) rfl rfl) ?_
  refine SO.nil ?_
  change SC _ _ _ _ _
  refine SC.seqP h0 (fun y => ⟨mk 63 [(8, .d (eB y))], []⟩) ?_ ?_
  · intro u1_46 h1
    refine SC.region ?_
    refine SO.op (Wanted.free rfl) rfl (A_move (v := .d (eS r28)) rfl rfl) ?_
    refine SO.op (Wanted.free rfl) rfl (A_move (v := .d (eS r31)) rfl rfl) ?_
    refine SO.op (Wanted.free rfl) rfl (A_bin (v := .d (eB (r28 == r31))) rfl rfl rfl (fun X Y => b_str_eql _ X Y r28 r31)) ?_
    refine SO.op (Wanted.free rfl) rfl (A_move (v := .d (eB (r28 == r31))) rfl rfl) ?_
    refine SO.split (fun hb47 => ?_) (fun hb47 => ?_)
    · replace h1 := ct hb47 h1
      refine SO.op (Wanted.by rfl rfl rfl rfl) rfl (A_move (v := .d (eI r29)) rfl rfl) ?_
      refine SO.op (Wanted.by rfl rfl rfl rfl) rfl (A_move (v := .d (eI r32)) rfl rfl) ?_
      refine SO.op (Wanted.by rfl rfl rfl rfl) rfl (A_bin (v := .d (eB (r29 == r32))) rfl rfl rfl (fun X Y => b_i64_eql _ X Y r29 r32)) ?_
      refine SO.op (Wanted.free rfl) rfl (A_pickT (v := .d (eB (r29 == r32))) rfl rfl rfl) ?_
      refine SO.op (Wanted.free rfl) rfl (A_move (v := .d (eB (r29 == r32))) rfl rfl) ?_
      refine SO.split (fun hb48 => ?_) (fun hb48 => ?_)
      · replace h1 := ct hb48 h1
        refine SO.op (Wanted.by rfl rfl rfl rfl) rfl (A_move (v := .d ((eL 3 eApiValue) r34)) rfl rfl) ?_
        refine SO.op (Wanted.by rfl rfl rfl rfl) rfl (A_move (v := .d ((eL 3 eApiValue) r37)) rfl rfl) ?_
        obtain ⟨r49, hq50, h1⟩ := ob h1
        refine SO.call0 (r := .d (eB r49)) (Wanted.by rfl rfl rfl rfl) rfl rfl rfl rfl rfl cb14 rfl (fun _ => rfl) (fun _ => rfl) (raw_Values_ok r34 r37 _ hq50) ?_
        refine SO.op (Wanted.free rfl) rfl (A_pickT (v := .d (eB r49)) rfl rfl rfl) ?_
        refine SO.op (Wanted.free rfl) rfl (A_move (v := .d (eB r49)) rfl rfl) ?_
        refine SO.split (fun hb51 => ?_) (fun hb51 => ?_)
        · replace h1 := ct hb51 h1
          refine SO.op (Wanted.by rfl rfl rfl rfl) rfl (A_move (v := .d (eI r35)) rfl rfl) ?_
          refine SO.op (Wanted.by rfl rfl rfl rfl) rfl (A_move (v := .d (eI r38)) rfl rfl) ?_
          refine SO.op (Wanted.by rfl rfl rfl rfl) rfl (A_bin (v := .d (eB (r35 == r38))) rfl rfl rfl (fun X Y => b_i64_eql _ X Y r35 r38)) ?_
          refine SO.op (Wanted.free rfl) rfl (A_pickT (v := .d (eB (r35 == r38))) rfl rfl rfl) ?_
          refine SO.op (Wanted.free rfl) rfl (A_assign (v := .d (eB (r35 == r38))) rfl rfl) ?_
          refine SO.nil ?_
          have q := Option.some.inj h1; subst q
          exact (Wk.env (e' := [(8, .d (eB (r35 == r38)))]) (EW.cons (AW.refl _) EW.nil))
        · replace h1 := cf hb51 h1
          refine SO.skip (Wanted.by rfl rfl rfl rfl) rfl ?_
          refine SO.skip (Wanted.by rfl rfl rfl rfl) rfl ?_
          refine SO.skip (Wanted.by rfl rfl rfl rfl) rfl ?_
          refine SO.op (Wanted.free rfl) rfl (A_pickF (v := .d (eB false)) rfl rfl rfl) ?_
          refine SO.op (Wanted.free rfl) rfl (A_assign (v := .d (eB false)) rfl rfl) ?_
          refine SO.nil ?_
          have q := Option.some.inj h1; subst q
          exact (Wk.env (e' := [(8, .d (eB false))]) (EW.cons (AW.refl _) EW.nil))
      · replace h1 := cf hb48 h1
        refine SO.skip (Wanted.by rfl rfl rfl rfl) rfl ?_
        refine SO.skip (Wanted.by rfl rfl rfl rfl) rfl ?_
        refine SO.skip (Wanted.by rfl rfl rfl rfl) rfl ?_
        refine SO.op (Wanted.free rfl) rfl (A_pickF (v := .d (eB false)) rfl rfl rfl) ?_
        refine SO.op (Wanted.free rfl) rfl (A_move (v := .d (eB false)) rfl rfl) ?_
        refine SO.skip (Wanted.by rfl rfl rfl rfl) rfl ?_
        refine SO.skip (Wanted.by rfl rfl rfl rfl) rfl ?_
        refine SO.skip (Wanted.by rfl rfl rfl rfl) rfl ?_
        refine SO.op (Wanted.free rfl) rfl (A_pickF (v := .d (eB false)) rfl rfl rfl) ?_
        refine SO.op (Wanted.free rfl) rfl (A_assign (v := .d (eB false)) rfl rfl) ?_
        refine SO.nil ?_
        have q := Option.some.inj h1; subst q
        exact (Wk.env (e' := [(8, .d (eB false))]) (EW.cons (AW.refl _) EW.nil))
    · replace h1 := cf hb47 h1
      refine SO.skip (Wanted.by rfl rfl rfl rfl) rfl ?_
      refine SO.skip (Wanted.by rfl rfl rfl rfl) rfl ?_
      refine SO.skip (Wanted.by rfl rfl rfl rfl) rfl ?_
      refine SO.op (Wanted.free rfl) rfl (A_pickF (v := .d (eB false)) rfl rfl rfl) ?_
      refine SO.op (Wanted.free rfl) rfl (A_move (v := .d (eB false)) rfl rfl) ?_
      refine SO.skip (Wanted.by rfl rfl rfl rfl) rfl ?_
      refine SO.skip (Wanted.by rfl rfl rfl rfl) rfl ?_
      refine SO.skip (Wanted.by rfl rfl rfl rfl) rfl ?_
      refine SO.op (Wanted.free rfl) rfl (A_pickF (v := .d (eB false)) rfl rfl rfl) ?_
      refine SO.op (Wanted.free rfl) rfl (A_move (v := .d (eB false)) rfl rfl) ?_
      refine SO.skip (Wanted.by rfl rfl rfl rfl) rfl ?_
      refine SO.skip (Wanted.by rfl rfl rfl rfl) rfl ?_
      refine SO.skip (Wanted.by rfl rfl rfl rfl) rfl ?_
      refine SO.op (Wanted.free rfl) rfl (A_pickF (v := .d (eB false)) rfl rfl rfl) ?_
      refine SO.op (Wanted.free rfl) rfl (A_assign (v := .d (eB false)) rfl rfl) ?_
      refine SO.nil ?_
      have q := Option.some.inj h1; subst q
      exact (Wk.env (e' := [(8, .d (eB false))]) (EW.cons (AW.refl _) EW.nil))
  · rintro y45 h0
    change SC _ _ _ ⟨mk 63 [(8, .d (eB y45))], []⟩ _
    refine SC.ret ?_
    have q := Option.some.inj h0; subst q
    exact finR (Wk.env (e' := [(8, .d (eB y45))]) (EW.cons (AW.refl _) EW.nil)) (lresT rfl lresN) rfl

theorem slices_IndexFunc_int_int_ok1 (p0 : List Int) (r : Int) (h0 : slices_IndexFunc_int_int p0 = some r) : CallAt Tryd.prog 46 [.slc 0 1 0 p0.length none, .fn (.func 32) [] []] [.row 1 (List.map eI p0) true] (.d (eI r)) [.row 1 (List.map eI p0) true] := by
  unfold slices_IndexFunc_int_int at h0
  refine CallAt.of Tryd.func46 rfl ?_
  refine SC.post (Q' := fun e s => ∃ s1, Wk _ s s1 ∧ Fin _ _ _ _ e s1) ?_ (fun _ _ h => h)
  refine SC.wk (s1 := ⟨mk 19 [(0, .slc 0 1 0 p0.length none), (1, .fn (.func 32) [] [])], [.row 1 (List.map eI p0) true]⟩) (Wk.begin (n := 19) (Nat.le_of_ble_eq_true rfl)) ?_
  refine SC.seq ?_
  refine SC.region ?_
  refine SO.op (Wanted.free rfl) rfl (A_assign (v := .d (eI (0 : Int))) rfl rfl) ?_
  refine SO.nil ?_
  change SC _ _ _ _ _
  refine SC.seqB h0 (fun y => ⟨mk 19 [], [.row 1 (List.map eI p0) true]⟩) ?_ ?_
  · intro u1_63 h1 h0
    refine SC.seq ?_
    refine SC.region ?_
    refine SO.op (Wanted.free rfl) rfl (A_move (v := .slc 0 1 0 p0.length none) rfl rfl) ?_
    refine SO.op (Wanted.free rfl) rfl (A_len (v := .d (eI (p0.length : Int))) rfl rfl rfl rfl (len_slc un24)) ?_
    refine SO.op (Wanted.free rfl) rfl (A_move (v := .d (eI (0 : Int))) rfl rfl) ?_
    refine SO.nil ?_
    change SC _ _ _ _ _
    refine SC.blk ?_
    obtain ⟨u2_77, h2, h1⟩ := ob h1
    refine SC.loopB h2 (fun y => ⟨mk 19 [(0, .slc 0 1 0 p0.length none), (1, .fn (.func 32) [] []), (7, .d (eI (p0.length : Int))), (8, .d (eI y))], [.row 1 (List.map eI p0) true]⟩) (Wk.env (e' := [(0, .slc 0 1 0 p0.length none), (1, .fn (.func 32) [] []), (7, .d (eI (p0.length : Int))), (8, .d (eI (0 : Int)))]) (EW.cons (AW.refl _) (EW.cons (AW.refl _) (EW.cons (AW.refl _) (EW.cons (AW.refl _) EW.nil))))) ?_
    intro n83
    rintro y69 w2_76 h3 hv3
    change SC _ _ _ ⟨mk 19 [(0, .slc 0 1 0 p0.length none), (1, .fn (.func 32) [] []), (7, .d (eI (p0.length : Int))), (8, .d (eI y69))], [.row 1 (List.map eI p0) true]⟩ _
    refine SC.seq ?_
    refine SC.region ?_
    refine SO.op (Wanted.free rfl) rfl (A_bin (v := .d (eB (decide (y69 < (p0.length : Int))))) rfl rfl rfl (fun X Y => b_i64_lss _ X Y y69 (p0.length : Int))) ?_
    refine SO.nil ?_
    change SC _ _ _ _ _
    refine SC.seq ?_
    refine SC.condB (t := (decide (y69 < (p0.length : Int)))) rfl (fun hb78 => ?_) (fun hb78 => ?_)
    · replace h3 := ct hb78 h3
      refine SC.skip ?_
      change SC _ _ _ _ _
      refine SC.seq ?_
      refine SC.blk ?_
      refine SC.seq ?_
      refine SC.region ?_
      refine SO.op (Wanted.free rfl) rfl (A_move (v := .d (eI y69)) rfl rfl) ?_
      refine SO.op (Wanted.free rfl) rfl (A_assign (v := .d (eI y69)) rfl rfl) ?_
      refine SO.nil ?_
      change SC _ _ _ _ _
      refine SC.seq ?_
      refine SC.region ?_
      refine SO.op (Wanted.free rfl) rfl (A_move (v := .fn (.func 32) [] []) rfl rfl) ?_
      refine SO.op (Wanted.free rfl) rfl (A_move (v := .slc 0 1 0 p0.length none) rfl rfl) ?_
      refine SO.op (Wanted.free rfl) rfl (A_move (v := .d (eI y69)) rfl rfl) ?_
      obtain ⟨v79, hv79, h3⟩ := ob h3
      refine SO.opW (v' := .ref 0 (y69.toNat) 0) (Wanted.free rfl) rfl (A_indexAddr (v := .ref 0 (0 + y69.toNat) 0) rfl rfl rfl (ia_slc un24 ts3 (getI_lt hv79))) (AW.refz (by simp)) ?_
      refine SO.op (Wanted.free rfl) rfl (A_load (v := .d (eI v79)) rfl rfl (ld_row ts3 ta3 rfl (map_get (getI_some hv79).2) rfl)) ?_
      obtain ⟨r80, hq81, h3⟩ := ob h3
      refine SO.call0 (r := .d (eB r80)) (Wanted.free rfl) rfl rfl rfl rfl rfl cb32 rfl (fun _ => rfl) (fun _ => rfl) (key_Decode_1_ok v79 _ hq81) ?_
      refine SO.nil ?_
      change SC _ _ _ _ _
      refine SC.condB (t := r80) rfl (fun hb82 => ?_) (fun hb82 => ?_)
      · replace h3 := ct hb82 h3
        refine SC.seq ?_
        refine SC.region ?_
        refine SO.op (Wanted.free rfl) rfl (A_move (v := .d (eI y69)) rfl rfl) ?_
        refine SO.op (Wanted.free rfl) rfl (A_assign (v := .d (eI y69)) rfl rfl) ?_
        refine SO.nil ?_
        change SC _ _ _ _ _
        refine SC.ret ?_
        have q := Option.some.inj h3; subst q
        have q : _ = _ := hv3; subst q
        have q := Option.some.inj h1; subst q
        have q := Option.some.inj h0; subst q
        exact finR (Wk.env (e' := [(4, .d (eI y69))]) (EW.cons (AW.refl _) EW.nil)) (lresT rfl lresN) rfl
      · replace h3 := cf hb82 h3
        refine SC.skip ?_
        change SC _ _ _ _ _
        refine SC.region ?_
        refine SO.op (Wanted.free rfl) rfl (A_bin (v := .d (eI (w64 (y69 + (1 : Int))))) rfl rfl rfl (fun X Y => b_i64_add _ X Y y69 (1 : Int))) ?_
        refine SO.op (Wanted.free rfl) rfl (A_move (v := .d (eI (w64 (y69 + (1 : Int))))) rfl rfl) ?_
        refine SO.nil ?_
        have q := Option.some.inj h3; subst q
        exact lf (Wk.env (e' := [(0, .slc 0 1 0 p0.length none), (1, .fn (.func 32) [] []), (7, .d (eI (p0.length : Int))), (8, .d (eI (w64 (y69 + (1 : Int)))))]) (EW.cons (AW.refl _) (EW.cons (AW.refl _) (EW.cons (AW.refl _) (EW.cons (AW.refl _) EW.nil)))))
    · replace h3 := cf hb78 h3
      refine SC.exit ?_
      have q := Option.some.inj h3; subst q
      have q : _ = _ := hv3; subst q
      have q := Option.some.inj h1; subst q
      exact lf (Wk.env (e' := []) EW.nil)
  · intro _ h0
    change SC _ _ _ ⟨mk 19 [], [.row 1 (List.map eI p0) true]⟩ _
    refine SC.seq ?_
    refine SC.region ?_
    refine SO.op (Wanted.free rfl) rfl (A_assign (v := .d (eI (-1 : Int))) rfl rfl) ?_
    refine SO.nil ?_
    change SC _ _ _ _ _
    refine SC.ret ?_
    have q := Option.some.inj h0; subst q
    exact finR (Wk.env (e' := [(4, .d (eI (-1 : Int)))]) (EW.cons (AW.refl _) EW.nil)) (lresT rfl lresN) rfl

theorem slices_ContainsFunc_int_int_ok1 (p0 : List Int) (r : Bool) (h0 : slices_ContainsFunc_int_int p0 = some r) : CallAt Tryd.prog 31 [.slc 0 1 0 p0.length none, .fn (.func 32) [] []] [.row 1 (List.map eI p0) true] (.d (eB r)) [.row 1 (List.map eI p0) true] := by
  unfold slices_ContainsFunc_int_int at h0
  refine CallAt.of Tryd.func31 rfl ?_
  refine SC.post (Q' := fun e s => ∃ s1, Wk _ s s1 ∧ Fin _ _ _ _ e s1) ?_ (fun _ _ h => h)
  refine SC.wk (s1 := ⟨mk 9 [(0, .slc 0 1 0 p0.length none), (1, .fn (.func 32) [] [])], [.row 1 (List.map eI p0) true]⟩) (Wk.begin (n := 9) (Nat.le_of_ble_eq_true rfl)) ?_
  refine SC.seq ?_
  refine SC.region ?_
  refine SO.op (Wanted.free rfl) rfl (A_assign (v := .d (eB false)) rfl rfl) ?_
  refine SO.nil ?_
  change SC _ _ _ _ _
  refine SC.seq ?_
  refine SC.region ?_
  refine SO.op (Wanted.free rfl) rfl (A_move (v := .slc 0 1 0 p0.length none) rfl rfl) ?_
  refine SO.op (Wanted.free rfl) rfl (A_move (v := .fn (.func 32) [] []) rfl rfl) ?_
  obtain ⟨r4, hq5, h0⟩ := ob h0
  refine SO.call (ι := [0]) (σc := [.row 1 (List.map eI p0) true]) (args' := [.slc 0 1 0 p0.length none, .fn (.func 32) [] []]) (r' := .d (eI r4)) (σ2 := [.row 1 (List.map eI p0) true]) (os := [.row 1 (List.map eI p0) true]) (r := .d (eI r4)) (σ' := [.row 1 (List.map eI p0) true]) (Wanted.free rfl) rfl rfl rfl rfl rfl cb46 rfl rfl (slices_IndexFunc_int_int_ok1 p0 _ hq5) rfl rfl (Nat.le_of_ble_eq_true rfl) rfl ?_
  refine SO.op (Wanted.free rfl) rfl (A_bin (v := .d (eB (decide (r4 ≥ (0 : Int))))) rfl rfl rfl (fun X Y => b_i64_geq _ X Y r4 (0 : Int))) ?_
  refine SO.op (Wanted.free rfl) rfl (A_assign (v := .d (eB (decide (r4 ≥ (0 : Int))))) rfl rfl) ?_
  refine SO.nil ?_
  change SC _ _ _ _ _
  refine SC.ret ?_
  have q := Option.some.inj h0; subst q
  exact finR (Wk.env (e' := [(4, .d (eB (decide (r4 ≥ (0 : Int)))))]) (EW.cons (AW.refl _) EW.nil)) (lresT rfl lresN) rfl
end Lv
