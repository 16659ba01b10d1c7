/- Part of the proof of a law: functions and their walks. -/
import Derived.Test.YtnlnojicpchmiaaDoorXFn1
namespace Lv
open Go Go.Proofs
set_option linter.unusedVariables false
set_option linter.unusedSimpArgs false
set_option linter.unusedSectionVars false
set_option maxRecDepth 100000
variable [BaseTab] [TabOk]
/-- slices.IndexFunc[[]int,int] -/
noncomputable def slices_IndexFunc_int_int (p0 : List Int) : Option Int :=
  bindE (Y := Unit) (E := Int)
    (Option.bind (α := Unit ⊕ Int)
      (loop (Y := Int) (W := Unit ⊕ Int) (fun y69 =>
        bif (decide (y69 < (p0.length : Int))) then
          Option.bind (getI p0 y69) fun v79 =>
          Option.bind (key_Decode_1 v79) fun r80 =>
          bif r80 then
            some (Sum.inr (Sum.inr y69))
          else
            some (Sum.inl (w64 (y69 + (1 : Int))))
        else
          some (Sum.inr (Sum.inl ()))) (0 : Int))
      (Sum.elim (fun e => some (Sum.inl e)) (fun e => some (Sum.inr e))))
    (fun _ =>
      some (-1 : Int))
    (fun e => some e)
theorem slices_IndexFunc_int_int_ok (p0 : List Int) (r : Int) (h0 : slices_IndexFunc_int_int p0 = some r) : CallAt Tryd.prog 46 [.d ((eL 1 eI) p0), .fn (.func 32) [] []] [] (.d (eI r)) [] := by
  unfold slices_IndexFunc_int_int at h0
  refine CallAt.of Tryd.func46 rfl ?_
  refine SC.post (Q' := fun e s => ∃ s1, Wk _ s s1 ∧ Fin _ _ _ _ e s1) ?_ (fun _ _ h => h)
  refine SC.wk (s1 := ⟨mk 19 [(0, .d ((eL 1 eI) p0)), (1, .fn (.func 32) [] [])], []⟩) (Wk.begin (n := 19) (Nat.le_of_ble_eq_true rfl)) ?_
  refine SC.seq ?_
  refine SC.region ?_
  refine SO.op (Wanted.free rfl) rfl (A_assign (v := .d (eI (0 : Int))) rfl rfl) ?_
  refine SO.nil ?_
  change SC _ _ _ _ _
  refine SC.seqB h0 (fun y => ⟨mk 19 [], []⟩) ?_ ?_
  · intro u1_63 h1 h0
    refine SC.seq ?_
    refine SC.region ?_
    refine SO.op (Wanted.free rfl) rfl (A_move (v := .d ((eL 1 eI) p0)) rfl rfl) ?_
    refine SO.op (Wanted.free rfl) rfl (A_len (v := .d (eI (p0.length : Int))) rfl rfl rfl rfl (len_lst un24)) ?_
    refine SO.op (Wanted.free rfl) rfl (A_move (v := .d (eI (0 : Int))) rfl rfl) ?_
    refine SO.nil ?_
    change SC _ _ _ _ _
    refine SC.blk ?_
    obtain ⟨u2_77, h2, h1⟩ := ob h1
    refine SC.loopB h2 (fun y => ⟨mk 19 [(0, .d ((eL 1 eI) p0)), (1, .fn (.func 32) [] []), (7, .d (eI (p0.length : Int))), (8, .d (eI y))], []⟩) (Wk.env (e' := [(0, .d ((eL 1 eI) p0)), (1, .fn (.func 32) [] []), (7, .d (eI (p0.length : Int))), (8, .d (eI (0 : Int)))]) (EW.cons (AW.refl _) (EW.cons (AW.refl _) (EW.cons (AW.refl _) (EW.cons (AW.refl _) EW.nil))))) ?_
    intro n83
    rintro y69 w2_76 h3 hv3
    change SC _ _ _ ⟨mk 19 [(0, .d ((eL 1 eI) p0)), (1, .fn (.func 32) [] []), (7, .d (eI (p0.length : Int))), (8, .d (eI y69))], []⟩ _
    refine SC.seq ?_
    refine SC.region ?_
    refine SO.op (Wanted.free rfl) rfl (A_bin (v := .d (eB (decide (y69 < (p0.length : Int))))) rfl rfl rfl (fun X Y => b_i64_lss _ X Y y69 (p0.length : Int))) ?_
    refine SO.nil ?_
    change SC _ _ _ _ _
    refine SC.seq ?_
    refine SC.condB (t := (decide (y69 < (p0.length : Int)))) rfl (fun hb78 => ?_) (fun hb78 => ?_)
    · replace h3 := ct hb78 h3
      refine SC.skip ?_
      change SC _ _ _ _ _
      refine SC.seq ?_
      refine SC.blk ?_
      refine SC.seq ?_
      refine SC.region ?_
      refine SO.op (Wanted.free rfl) rfl (A_move (v := .d (eI y69)) rfl rfl) ?_
      refine SO.op (Wanted.free rfl) rfl (A_assign (v := .d (eI y69)) rfl rfl) ?_
      refine SO.nil ?_
      change SC _ _ _ _ _
      refine SC.seq ?_
      refine SC.region ?_
      refine SO.op (Wanted.free rfl) rfl (A_move (v := .fn (.func 32) [] []) rfl rfl) ?_
      refine SO.op (Wanted.free rfl) rfl (A_move (v := .d ((eL 1 eI) p0)) rfl rfl) ?_
      refine SO.op (Wanted.free rfl) rfl (A_move (v := .d (eI y69)) rfl rfl) ?_
      obtain ⟨v79, hv79, h3⟩ := ob h3
      refine SO.op (Wanted.free rfl) rfl (A_indexAddr (v := .rop [(eI v79)]) rfl rfl rfl (ia_lst un24 ts3 (getI_some hv79).1 (map_get (getI_some hv79).2))) ?_
      refine SO.op (Wanted.free rfl) rfl (A_load (v := .d (eI v79)) rfl rfl (ld_rop ts3 ta3 rfl)) ?_
      obtain ⟨r80, hq81, h3⟩ := ob h3
      refine SO.call0 (r := .d (eB r80)) (Wanted.free rfl) rfl rfl rfl rfl rfl cb32 rfl (fun _ => rfl) (fun _ => rfl) (key_Decode_1_ok v79 _ hq81) ?_
      refine SO.nil ?_
      change SC _ _ _ _ _
      refine SC.condB (t := r80) rfl (fun hb82 => ?_) (fun hb82 => ?_)
      · replace h3 := ct hb82 h3
        refine SC.seq ?_
        refine SC.region ?_
        refine SO.op (Wanted.free rfl) rfl (A_move (v := .d (eI y69)) rfl rfl) ?_
        refine SO.op (Wanted.free rfl) rfl (A_assign (v := .d (eI y69)) rfl rfl) ?_
        refine SO.nil ?_
        change SC _ _ _ _ _
        refine SC.ret ?_
        have q := Option.some.inj h3; subst q
        have q : _ = _ := hv3; subst q
        have q := Option.some.inj h1; subst q
        have q := Option.some.inj h0; subst q
        exact finR (Wk.env (e' := [(4, .d (eI y69))]) (EW.cons (AW.refl _) EW.nil)) (lresT rfl lresN) rfl
      · replace h3 := cf hb82 h3
        refine SC.skip ?_
        change SC _ _ _ _ _
        refine SC.region ?_
        refine SO.op (Wanted.free rfl) rfl (A_bin (v := .d (eI (w64 (y69 + (1 : Int))))) rfl rfl rfl (fun X Y => b_i64_add _ X Y y69 (1 : Int))) ?_
        refine SO.op (Wanted.free rfl) rfl (A_move (v := .d (eI (w64 (y69 + (1 : Int))))) rfl rfl) ?_
        refine SO.nil ?_
        have q := Option.some.inj h3; subst q
        exact lf (Wk.env (e' := [(0, .d ((eL 1 eI) p0)), (1, .fn (.func 32) [] []), (7, .d (eI (p0.length : Int))), (8, .d (eI (w64 (y69 + (1 : Int)))))]) (EW.cons (AW.refl _) (EW.cons (AW.refl _) (EW.cons (AW.refl _) (EW.cons (AW.refl _) EW.nil)))))
    · replace h3 := cf hb78 h3
      refine SC.exit ?_
      have q := Option.some.inj h3; subst q
      have q : _ = _ := hv3; subst q
      have q := Option.some.inj h1; subst q
      exact lf (Wk.env (e' := []) EW.nil)
  · intro _ h0
    change SC _ _ _ ⟨mk 19 [], []⟩ _
    refine SC.seq ?_
    refine SC.region ?_
    refine SO.op (Wanted.free rfl) rfl (A_assign (v := .d (eI (-1 : Int))) rfl rfl) ?_
    refine SO.nil ?_
    change SC _ _ _ _ _
    refine SC.ret ?_
    have q := Option.some.inj h0; subst q
    exact finR (Wk.env (e' := [(4, .d (eI (-1 : Int)))]) (EW.cons (AW.refl _) EW.nil)) (lresT rfl lresN) rfl

/-- slices.ContainsFunc[[]int,int] -/
noncomputable def slices_ContainsFunc_int_int (p0 : List Int) : Option Bool :=
  Option.bind (slices_IndexFunc_int_int p0) fun r4 =>
  some (decide (r4 ≥ (0 : Int)))
theorem slices_ContainsFunc_int_int_ok (p0 : List Int) (r : Bool) (h0 : slices_ContainsFunc_int_int p0 = some r) : CallAt Tryd.prog 31 [.d ((eL 1 eI) p0), .fn (.func 32) [] []] [] (.d (eB r)) [] := by
  unfold slices_ContainsFunc_int_int at h0
  refine CallAt.of Tryd.func31 rfl ?_
  refine SC.post (Q' := fun e s => ∃ s1, Wk _ s s1 ∧ Fin _ _ _ _ e s1) ?_ (fun _ _ h => h)
  refine SC.wk (s1 := ⟨mk 9 [(0, .d ((eL 1 eI) p0)), (1, .fn (.func 32) [] [])], []⟩) (Wk.begin (n := 9) (Nat.le_of_ble_eq_true rfl)) ?_
  refine SC.seq ?_
  refine SC.region ?_
  refine SO.op (Wanted.free rfl) rfl (A_assign (v := .d (eB false)) rfl rfl) ?_
  refine SO.nil ?_
  change SC _ _ _ _ _
  refine SC.seq ?_
  refine SC.region ?_
  refine SO.op (Wanted.free rfl) rfl (A_move (v := .d ((eL 1 eI) p0)) rfl rfl) ?_
  refine SO.op (Wanted.free rfl) rfl (A_move (v := .fn (.func 32) [] []) rfl rfl) ?_
  obtain ⟨r4, hq5, h0⟩ := ob h0
  refine SO.call0 (r := .d (eI r4)) (Wanted.free rfl) rfl rfl rfl rfl rfl cb46 rfl (fun _ => rfl) (fun _ => rfl) (slices_IndexFunc_int_int_ok p0 _ hq5) ?_
  refine SO.op (Wanted.free rfl) rfl (A_bin (v := .d (eB (decide (r4 ≥ (0 : Int))))) rfl rfl rfl (fun X Y => b_i64_geq _ X Y r4 (0 : Int))) ?_
  refine SO.op (Wanted.free rfl) rfl (A_assign (v := .d (eB (decide (r4 ≥ (0 : Int))))) rfl rfl) ?_
  refine SO.nil ?_
  change SC _ _ _ _ _
  refine SC.ret ?_
  have q := Option.some.inj h0; subst q
  exact finR (Wk.env (e' := [(4, .d (eB (decide (r4 ≥ (0 : Int)))))]) (EW.cons (AW.refl _) EW.nil)) (lresT rfl lresN) rfl

/-- granary/pack.To -/
noncomputable def pack_To (p0 : List UInt8) : Option Unit :=
  bif decide (p0.length * 1 ≤ room) then
  some ()
  else none
theorem pack_To_ok (p0 : List UInt8) (r : Unit) (h0 : pack_To p0 = some r) : CallAt Tryd.prog 47 [.slc 0 1 0 p0.length none] [.row 1 (List.map eU8 p0) true] (.ref 1 0 0) [.row 1 (List.map eU8 p0) true, .box (.agg [.slc 2 1 0 p0.length none, .d (eB false)]), .row 1 (List.map eU8 p0) true] := by
  unfold pack_To at h0
  refine CallAt.of Tryd.func47 rfl ?_
  refine SC.post (Q' := fun e s => ∃ s1, Wk _ s s1 ∧ Fin _ _ _ _ e s1) ?_ (fun _ _ h => h)
  refine SC.wk (s1 := ⟨mk 7 [(0, .slc 0 1 0 p0.length none)], [.row 1 (List.map eU8 p0) true]⟩) (Wk.begin (n := 7) (Nat.le_of_ble_eq_true rfl)) ?_
  refine SC.seq ?_
  refine SC.region ?_
  refine SO.op (Wanted.free rfl) rfl (A_assign (v := .d .nilp) rfl rfl) ?_
  refine SO.nil ?_
  change SC _ _ _ _ _
  refine SC.seq ?_
  refine SC.region ?_
  refine SO.op (Wanted.free rfl) rfl (A_move (v := .slc 0 1 0 p0.length none) rfl rfl) ?_
  obtain ⟨hg2, h0⟩ := gd h0
  refine SO.op (Wanted.free rfl) rfl (A_append (v := .slc 1 1 0 p0.length none) (σ' := [.row 1 (List.map eU8 p0) true, .row 1 (List.map eU8 p0) true]) rfl rfl rfl rfl rfl bc51 (apNil (f := eU8) (ys := p0) un51 ei5 (el_full (xs := p0) rfl) hg2 rfl rfl)) ?_
  refine SO.op (Wanted.free rfl) rfl (A_build (v := .agg [.slc 1 1 0 p0.length none, .d (eB false)]) rfl rfl (by rfl)) ?_
  refine SO.op (Wanted.free rfl) rfl (A_box (v := .agg [.slc 1 1 0 p0.length none, .d (eB false)]) (σ' := [.row 1 (List.map eU8 p0) true, .row 1 (List.map eU8 p0) true, .box (.agg [.slc 1 1 0 p0.length none, .d (eB false)])]) rfl rfl rfl rfl rfl) ?_
  refine SO.op (Wanted.free rfl) rfl (A_assign (v := .ref 2 0 0) rfl rfl) ?_
  refine SO.nil ?_
  change SC _ _ _ _ _
  refine SC.ret ?_
  have q := Option.some.inj h0; subst q
  exact finR (Wk.trans (Wk.env (e' := [(2, .ref 2 0 0)]) (EW.cons (AW.refl _) EW.nil)) (Wk.canon (ι := [0, 2, 1]) (roots := [0, 2]) (os := [.row 1 (List.map eU8 p0) true, .box (.agg [.slc 2 1 0 p0.length none, .d (eB false)]), .row 1 (List.map eU8 p0) true]) (e' := [(2, .ref 1 0 0)]) rfl rfl rfl)) (lresT rfl lresN) rfl

/-- (*granary/pack.In).take -/
noncomputable def pack_In_take (p0 : Int) (p1 : List UInt8) (p2 : Bool) : Option (Nat × Nat × Nat × Bool) :=
  Option.bind (α := Bool)
    (bif p2 then
      some true
    else
      some (decide ((p1.length : Int) < p0)))
    fun y14 =>
  bif y14 then
    Option.bind (α := Unit)
      (some ())
      fun _ =>
    some (0, 0, p1.length, true)
  else
    bif decide (0 ≤ p0 ∧ p0 ≤ (p1.length : Int)) then
    bif decide (0 ≤ p0 ∧ p0 ≤ (p1.length : Int)) then
    some (p0.toNat, 0 + p0.toNat, p1.length - p0.toNat, p2)
    else none
    else none
theorem pack_In_take_ok (p0 : Int) (p1 : List UInt8) (p2 : Bool) (r : Nat × Nat × Nat × Bool) (h0 : pack_In_take p0 p1 p2 = some r) : CallAt Tryd.prog 78 [.ref 0 0 0, .d (eI p0)] [.box (.agg [.slc 1 1 0 p1.length none, .d (eB p2)]), .row 1 (List.map eU8 p1) true] (.slc 1 1 0 r.1 none) [.box (.agg [.slc 1 1 r.2.1 r.2.2.1 none, .d (eB r.2.2.2)]), .row 1 (List.map eU8 p1) true] := by
  unfold pack_In_take at h0
  refine CallAt.of Tryd.func78 rfl ?_
  refine SC.post (Q' := fun e s => ∃ s1, Wk _ s s1 ∧ Fin _ _ _ _ e s1) ?_ (fun _ _ h => h)
  refine SC.wk (s1 := ⟨mk 44 [(0, .ref 0 0 0), (1, .d (eI p0))], [.box (.agg [.slc 1 1 0 p1.length none, .d (eB p2)]), .row 1 (List.map eU8 p1) true]⟩) (Wk.begin (n := 44) (Nat.le_of_ble_eq_true rfl)) ?_
  refine SC.seq ?_
  refine SC.region ?_
  refine SO.op (Wanted.free rfl) rfl (A_assign (v := .d .nils) rfl rfl) ?_
  refine SO.nil ?_
  change SC _ _ _ _ _
  refine SC.seq ?_
  refine SC.seqP h0 (fun y => ⟨mk 44 [(0, .ref 0 0 0), (1, .d (eI p0)), (22, .d (eB y))], [.box (.agg [.slc 1 1 0 p1.length none, .d (eB p2)]), .row 1 (List.map eU8 p1) true]⟩) ?_ ?_
  · intro u1_15 h1
    refine SC.region ?_
    refine SO.op (Wanted.free rfl) rfl (A_move (v := .ref 0 0 0) rfl rfl) ?_
    refine SO.op (Wanted.free rfl) rfl (A_bin (v := .d (eB false)) rfl rfl rfl (fun _ _ => nil_eql un71)) ?_
    refine SO.op (Wanted.free rfl) rfl (A_move (v := .d (eB false)) rfl rfl) ?_
    refine SO.op (Wanted.by rfl rfl rfl rfl) rfl (A_move (v := .ref 0 0 0) rfl rfl) ?_
    refine SO.op (Wanted.by rfl rfl rfl rfl) rfl (A_nilRef rfl rfl) ?_
    refine SO.op (Wanted.by rfl rfl rfl rfl) rfl (A_fieldAddr rfl rfl (fa_ref fo103_1 ts4 rfl)) ?_
    refine SO.op (Wanted.by rfl rfl rfl rfl) rfl (A_load (v := .d (eB p2)) rfl rfl (ld_box ts4 ta4 rfl rfl)) ?_
    refine SO.op (Wanted.free rfl) rfl (A_pickF (v := .d (eB p2)) rfl rfl rfl) ?_
    refine SO.op (Wanted.free rfl) rfl (A_move (v := .d (eB p2)) rfl rfl) ?_
    refine SO.split (fun hb16 => ?_) (fun hb16 => ?_)
    · replace h1 := ct hb16 h1
      refine SO.skip (Wanted.by rfl rfl rfl rfl) rfl ?_
      refine SO.skip (Wanted.by rfl rfl rfl rfl) rfl ?_
      refine SO.skip (Wanted.by rfl rfl rfl rfl) rfl ?_
      refine SO.skip (Wanted.by rfl rfl rfl rfl) rfl ?_
      refine SO.skip (Wanted.by rfl rfl rfl rfl) rfl ?_
      refine SO.skip (Wanted.by rfl rfl rfl rfl) rfl ?_
      refine SO.skip (Wanted.by rfl rfl rfl rfl) rfl ?_
      refine SO.op (Wanted.free rfl) rfl (A_pickT (v := .d (eB true)) rfl rfl rfl) ?_
      refine SO.nil ?_
      have q := Option.some.inj h1; subst q
      exact (Wk.env (e' := [(0, .ref 0 0 0), (1, .d (eI p0)), (22, .d (eB true))]) (EW.cons (AW.refl _) (EW.cons (AW.refl _) (EW.cons (AW.refl _) EW.nil))))
    · replace h1 := cf hb16 h1
      refine SO.op (Wanted.by rfl rfl rfl rfl) rfl (A_move (v := .ref 0 0 0) rfl rfl) ?_
      refine SO.op (Wanted.by rfl rfl rfl rfl) rfl (A_nilRef rfl rfl) ?_
      refine SO.op (Wanted.by rfl rfl rfl rfl) rfl (A_fieldAddr rfl rfl (fa_ref fo103_0 ts51 rfl)) ?_
      refine SO.op (Wanted.by rfl rfl rfl rfl) rfl (A_load (v := .slc 1 1 0 p1.length none) rfl rfl (ld_box ts51 ta51 rfl rfl)) ?_
      refine SO.op (Wanted.by rfl rfl rfl rfl) rfl (A_len (v := .d (eI (p1.length : Int))) rfl rfl rfl rfl (len_slc un51)) ?_
      refine SO.op (Wanted.by rfl rfl rfl rfl) rfl (A_move (v := .d (eI p0)) rfl rfl) ?_
      refine SO.op (Wanted.by rfl rfl rfl rfl) rfl (A_bin (v := .d (eB (decide ((p1.length : Int) < p0)))) rfl rfl rfl (fun X Y => b_i64_lss _ X Y (p1.length : Int) p0)) ?_
      refine SO.op (Wanted.free rfl) rfl (A_pickF (v := .d (eB (decide ((p1.length : Int) < p0)))) rfl rfl rfl) ?_
      refine SO.nil ?_
      have q := Option.some.inj h1; subst q
      exact (Wk.env (e' := [(0, .ref 0 0 0), (1, .d (eI p0)), (22, .d (eB (decide ((p1.length : Int) < p0))))]) (EW.cons (AW.refl _) (EW.cons (AW.refl _) (EW.cons (AW.refl _) EW.nil))))
  · rintro y14 h0
    change SC _ _ _ ⟨mk 44 [(0, .ref 0 0 0), (1, .d (eI p0)), (22, .d (eB y14))], [.box (.agg [.slc 1 1 0 p1.length none, .d (eB p2)]), .row 1 (List.map eU8 p1) true]⟩ _
    refine SC.condB (t := y14) rfl (fun hb17 => ?_) (fun hb17 => ?_)
    · replace h0 := ct hb17 h0
      refine SC.seqP h0 (fun y => ⟨mk 44 [], [.box (.agg [.slc 1 1 0 p1.length none, .d (eB true)]), .row 1 (List.map eU8 p1) true]⟩) ?_ ?_
      · intro u1_18 h1
        refine SC.seq ?_
        refine SC.region ?_
        refine SO.op (Wanted.free rfl) rfl (A_move (v := .ref 0 0 0) rfl rfl) ?_
        refine SO.op (Wanted.free rfl) rfl (A_bin (v := .d (eB true)) rfl rfl rfl (fun _ _ => nil_neq un71)) ?_
        refine SO.nil ?_
        change SC _ _ _ _ _
        refine SC.condT rfl ?_
        refine SC.region ?_
        refine SO.op (Wanted.free rfl) rfl (A_move (v := .ref 0 0 0) rfl rfl) ?_
        refine SO.op (Wanted.free rfl) rfl (A_nilRef rfl rfl) ?_
        refine SO.op (Wanted.free rfl) rfl (A_fieldAddr rfl rfl (fa_ref fo103_1 ts4 rfl)) ?_
        refine SO.op0 (Wanted.free rfl) rfl (A_store (σ' := [.box (.agg [.slc 1 1 0 p1.length none, .d (eB true)]), .row 1 (List.map eU8 p1) true]) rfl rfl rfl (st_box (zs := [.d (eB true)]) ts4 rfl rfl rfl rfl rfl (Nat.le_of_ble_eq_true rfl) rfl)) ?_
        refine SO.nil ?_
        have q := Option.some.inj h1; subst q
        exact (Wk.env (e' := []) EW.nil)
      · intro _ h0
        change SC _ _ _ ⟨mk 44 [], [.box (.agg [.slc 1 1 0 p1.length none, .d (eB true)]), .row 1 (List.map eU8 p1) true]⟩ _
        refine SC.seq ?_
        refine SC.region ?_
        refine SO.op (Wanted.free rfl) rfl (A_assign (v := .d .nils) rfl rfl) ?_
        refine SO.nil ?_
        change SC _ _ _ _ _
        refine SC.ret ?_
        have q := Option.some.inj h0; subst q
        exact finR (Wk.trans (Wk.env (e' := [(4, .slc 1 1 0 0 none)]) (EW.cons (AW.slcn _ _ _) EW.nil)) (Wk.env (e' := [(4, .slc 1 1 0 0 none)]) (EW.cons (AW.refl _) EW.nil))) (lresT rfl lresN) rfl
    · replace h0 := cf hb17 h0
      refine SC.skip ?_
      change SC _ _ _ _ _
      refine SC.seq ?_
      refine SC.region ?_
      refine SO.op (Wanted.free rfl) rfl (A_move (v := .ref 0 0 0) rfl rfl) ?_
      refine SO.op (Wanted.free rfl) rfl (A_nilRef rfl rfl) ?_
      refine SO.op (Wanted.free rfl) rfl (A_fieldAddr rfl rfl (fa_ref fo103_0 ts51 rfl)) ?_
      refine SO.op (Wanted.free rfl) rfl (A_load (v := .slc 1 1 0 p1.length none) rfl rfl (ld_box ts51 ta51 rfl rfl)) ?_
      refine SO.op (Wanted.free rfl) rfl (A_move (v := .d (eI p0)) rfl rfl) ?_
      obtain ⟨hg19, h0⟩ := gd h0
      refine SO.op (Wanted.free rfl) rfl (A_slice (v := .slc 1 1 0 p0.toNat none) rfl rfl rfl rfl rfl (sl_slc_hi un51 ts5 hg19)) ?_
      refine SO.op (Wanted.free rfl) rfl (A_assign (v := .slc 1 1 0 p0.toNat none) rfl rfl) ?_
      refine SO.nil ?_
      change SC _ _ _ _ _
      refine SC.seq ?_
      refine SC.region ?_
      refine SO.op (Wanted.free rfl) rfl (A_move (v := .ref 0 0 0) rfl rfl) ?_
      refine SO.op (Wanted.free rfl) rfl (A_move (v := .ref 0 0 0) rfl rfl) ?_
      refine SO.op (Wanted.free rfl) rfl (A_nilRef rfl rfl) ?_
      refine SO.op (Wanted.free rfl) rfl (A_fieldAddr rfl rfl (fa_ref fo103_0 ts51 rfl)) ?_
      refine SO.op (Wanted.free rfl) rfl (A_load (v := .slc 1 1 0 p1.length none) rfl rfl (ld_box ts51 ta51 rfl rfl)) ?_
      refine SO.op (Wanted.free rfl) rfl (A_move (v := .d (eI p0)) rfl rfl) ?_
      obtain ⟨hg20, h0⟩ := gd h0
      refine SO.op (Wanted.free rfl) rfl (A_slice (v := .slc 1 1 (0 + p0.toNat) (p1.length - p0.toNat) none) rfl rfl rfl rfl rfl (sl_slc_lo un51 ts5 hg20)) ?_
      refine SO.op (Wanted.free rfl) rfl (A_nilRef rfl rfl) ?_
      refine SO.op (Wanted.free rfl) rfl (A_fieldAddr rfl rfl (fa_ref fo103_0 ts51 rfl)) ?_
      refine SO.op0 (Wanted.free rfl) rfl (A_store (σ' := [.box (.agg [.slc 1 1 (0 + p0.toNat) (p1.length - p0.toNat) none, .d (eB p2)]), .row 1 (List.map eU8 p1) true]) rfl rfl rfl (st_box (zs := [.slc 1 1 (0 + p0.toNat) (p1.length - p0.toNat) none]) ts51 rfl rfl rfl rfl rfl (Nat.le_of_ble_eq_true rfl) rfl)) ?_
      refine SO.nil ?_
      change SC _ _ _ _ _
      refine SC.seq ?_
      refine SC.region ?_
      refine SO.op (Wanted.free rfl) rfl (A_move (v := .slc 1 1 0 p0.toNat none) rfl rfl) ?_
      refine SO.op (Wanted.free rfl) rfl (A_assign (v := .slc 1 1 0 p0.toNat none) rfl rfl) ?_
      refine SO.nil ?_
      change SC _ _ _ _ _
      refine SC.ret ?_
      have q := Option.some.inj h0; subst q
      exact finR (Wk.env (e' := [(4, .slc 1 1 0 p0.toNat none)]) (EW.cons (AW.refl _) EW.nil)) (lresT rfl lresN) rfl

/-- (*granary/pack.In).number -/
noncomputable def pack_In_number (p0 : Int) (p1 : List UInt8) (p2 : Bool) : Option (UInt64 × Nat × Nat × Bool) :=
  Option.bind (α := UInt64 × Nat × Nat × Bool)
    (Option.bind (pack_In_take p0 p1 p2) fun (r69, r70, r71, r72) =>
    Option.bind (α := UInt64 × Nat × Nat × Bool)
      (loop (Y := UInt64 × Int) (W := UInt64 × Nat × Nat × Bool) (fun (y76, y77) =>
        bif (decide (y77 < (r69 : Int))) then
          Option.bind (getS p1 0 r69 y77) fun v85 =>
          some (Sum.inl (((shl64 y76 8) ||| (v85.toUInt64)), (w64 (y77 + (1 : Int)))))
        else
          some (Sum.inr (y76, r70, r71, r72))) ((0 : UInt64), (0 : Int)))
      (fun e => some e))
    fun (y64, y65, y66, y67) =>
  some (y64, y65, y66, y67)
theorem pack_In_number_ok (p0 : Int) (p1 : List UInt8) (p2 : Bool) (r : UInt64 × Nat × Nat × Bool) (h0 : pack_In_number p0 p1 p2 = some r) : CallAt Tryd.prog 65 [.ref 0 0 0, .d (eI p0)] [.box (.agg [.slc 1 1 0 p1.length none, .d (eB p2)]), .row 1 (List.map eU8 p1) true] (.d (eU64 r.1)) [.box (.agg [.slc 1 1 r.2.1 r.2.2.1 none, .d (eB r.2.2.2)]), .row 1 (List.map eU8 p1) true] := by
  unfold pack_In_number at h0
  refine CallAt.of Tryd.func65 rfl ?_
  refine SC.post (Q' := fun e s => ∃ s1, Wk _ s s1 ∧ Fin _ _ _ _ e s1) ?_ (fun _ _ h => h)
  refine SC.wk (s1 := ⟨mk 23 [(0, .ref 0 0 0), (1, .d (eI p0))], [.box (.agg [.slc 1 1 0 p1.length none, .d (eB p2)]), .row 1 (List.map eU8 p1) true]⟩) (Wk.begin (n := 23) (Nat.le_of_ble_eq_true rfl)) ?_
  refine SC.seq ?_
  refine SC.region ?_
  refine SO.op (Wanted.free rfl) rfl (A_assign (v := .d (eU64 (0 : UInt64))) rfl rfl) ?_
  refine SO.nil ?_
  change SC _ _ _ _ _
  refine SC.seq ?_
  refine SC.region ?_
  refine SO.op (Wanted.free rfl) rfl (A_assign (v := .d (eU64 (0 : UInt64))) rfl rfl) ?_
  refine SO.nil ?_
  change SC _ _ _ _ _
  refine SC.seqP h0 (fun y => ⟨mk 23 [(5, .d (eU64 y.1))], [.box (.agg [.slc 1 1 y.2.1 y.2.2.1 none, .d (eB y.2.2.2)]), .row 1 (List.map eU8 p1) true]⟩) ?_ ?_
  · intro u1_68 h1
    refine SC.seq ?_
    refine SC.region ?_
    refine SO.op (Wanted.free rfl) rfl (A_move (v := .ref 0 0 0) rfl rfl) ?_
    refine SO.op (Wanted.free rfl) rfl (A_move (v := .d (eI p0)) rfl rfl) ?_
    obtain ⟨⟨r69, r70, r71, r72⟩, hq73, h1⟩ := ob h1
    refine SO.call (ι := [0, 1]) (σc := [.box (.agg [.slc 1 1 0 p1.length none, .d (eB p2)]), .row 1 (List.map eU8 p1) true]) (args' := [.ref 0 0 0, .d (eI p0)]) (r' := .slc 1 1 0 r69 none) (σ2 := [.box (.agg [.slc 1 1 r70 r71 none, .d (eB r72)]), .row 1 (List.map eU8 p1) true]) (os := [.box (.agg [.slc 1 1 r70 r71 none, .d (eB r72)]), .row 1 (List.map eU8 p1) true]) (r := .slc 1 1 0 r69 none) (σ' := [.box (.agg [.slc 1 1 r70 r71 none, .d (eB r72)]), .row 1 (List.map eU8 p1) true]) (Wanted.free rfl) rfl rfl rfl rfl rfl cb78 rfl rfl (pack_In_take_ok p0 p1 p2 _ hq73) rfl rfl (Nat.le_of_ble_eq_true rfl) rfl ?_
    refine SO.op (Wanted.free rfl) rfl (A_len (v := .d (eI (r69 : Int))) rfl rfl rfl rfl (len_slc un51)) ?_
    refine SO.op (Wanted.free rfl) rfl (A_move (v := .d (eI (0 : Int))) rfl rfl) ?_
    refine SO.nil ?_
    change SC _ _ _ _ _
    refine SC.blk ?_
    obtain ⟨u2_83, h2, h1⟩ := ob h1
    refine SC.loopB h2 (fun y => ⟨mk 23 [(5, .d (eU64 y.1)), (10, .slc 1 1 0 r69 none), (11, .d (eI (r69 : Int))), (12, .d (eI y.2))], [.box (.agg [.slc 1 1 r70 r71 none, .d (eB r72)]), .row 1 (List.map eU8 p1) true]⟩) (Wk.env (e' := [(5, .d (eU64 (0 : UInt64))), (10, .slc 1 1 0 r69 none), (11, .d (eI (r69 : Int))), (12, .d (eI (0 : Int)))]) (EW.cons (AW.refl _) (EW.cons (AW.refl _) (EW.cons (AW.refl _) (EW.cons (AW.refl _) EW.nil))))) ?_
    intro n86
    rintro ⟨y76, y77⟩ w2_82 h3 hv3
    change SC _ _ _ ⟨mk 23 [(5, .d (eU64 y76)), (10, .slc 1 1 0 r69 none), (11, .d (eI (r69 : Int))), (12, .d (eI y77))], [.box (.agg [.slc 1 1 r70 r71 none, .d (eB r72)]), .row 1 (List.map eU8 p1) true]⟩ _
    refine SC.seq ?_
    refine SC.region ?_
    refine SO.op (Wanted.free rfl) rfl (A_bin (v := .d (eB (decide (y77 < (r69 : Int))))) rfl rfl rfl (fun X Y => b_i64_lss _ X Y y77 (r69 : Int))) ?_
    refine SO.nil ?_
    change SC _ _ _ _ _
    refine SC.seq ?_
    refine SC.condB (t := (decide (y77 < (r69 : Int)))) rfl (fun hb84 => ?_) (fun hb84 => ?_)
    · replace h3 := ct hb84 h3
      refine SC.skip ?_
      change SC _ _ _ _ _
      refine SC.seq ?_
      refine SC.blk ?_
      refine SC.seq ?_
      refine SC.region ?_
      obtain ⟨v85, hv85, h3⟩ := ob h3
      refine SO.opW (v' := .ref 1 (y77.toNat) 0) (Wanted.free rfl) rfl (A_indexAddr (v := .ref 1 (0 + y77.toNat) 0) rfl rfl rfl (ia_slc un51 ts5 (getS_some hv85).1)) (AW.refz (by simp)) ?_
      refine SO.op (Wanted.free rfl) rfl (A_load (v := .d (eU8 v85)) rfl rfl (ld_row ts5 ta5 rfl (map_get (by have q := (getS_some hv85).2; simpa using q)) rfl)) ?_
      refine SO.op (Wanted.free rfl) rfl (A_assign (v := .d (eU8 v85)) rfl rfl) ?_
      refine SO.nil ?_
      change SC _ _ _ _ _
      refine SC.region ?_
      refine SO.op (Wanted.free rfl) rfl (A_move (v := .d (eU64 y76)) rfl rfl) ?_
      refine SO.op (Wanted.free rfl) rfl (A_bin (v := .d (eU64 (shl64 y76 8))) rfl rfl rfl (fun X Y => b_u64_shl _ X Y y76 _ (by decide))) ?_
      refine SO.op (Wanted.free rfl) rfl (A_move (v := .d (eU8 v85)) rfl rfl) ?_
      refine SO.op (Wanted.free rfl) rfl (A_conv (v := .d (eU64 (v85.toUInt64))) rfl rfl (cv_u8_u64 un5 un33 v85)) ?_
      refine SO.op (Wanted.free rfl) rfl (A_bin (v := .d (eU64 ((shl64 y76 8) ||| (v85.toUInt64)))) rfl rfl rfl (fun X Y => b_u64_or _ X Y (shl64 y76 8) (v85.toUInt64))) ?_
      refine SO.op (Wanted.free rfl) rfl (A_assign (v := .d (eU64 ((shl64 y76 8) ||| (v85.toUInt64)))) rfl rfl) ?_
      refine SO.nil ?_
      change SC _ _ _ _ _
      refine SC.region ?_
      refine SO.op (Wanted.free rfl) rfl (A_bin (v := .d (eI (w64 (y77 + (1 : Int))))) rfl rfl rfl (fun X Y => b_i64_add _ X Y y77 (1 : Int))) ?_
      refine SO.op (Wanted.free rfl) rfl (A_move (v := .d (eI (w64 (y77 + (1 : Int))))) rfl rfl) ?_
      refine SO.nil ?_
      have q := Option.some.inj h3; subst q
      exact lf (Wk.env (e' := [(5, .d (eU64 ((shl64 y76 8) ||| (v85.toUInt64)))), (10, .slc 1 1 0 r69 none), (11, .d (eI (r69 : Int))), (12, .d (eI (w64 (y77 + (1 : Int)))))]) (EW.cons (AW.refl _) (EW.cons (AW.refl _) (EW.cons (AW.refl _) (EW.cons (AW.refl _) EW.nil)))))
    · replace h3 := cf hb84 h3
      refine SC.exit ?_
      have q := Option.some.inj h3; subst q
      have q : _ = _ := hv3; subst q
      have q := Option.some.inj h1; subst q
      exact (Wk.env (e' := [(5, .d (eU64 y76))]) (EW.cons (AW.refl _) EW.nil))
  · rintro ⟨y64, y65, y66, y67⟩ h0
    change SC _ _ _ ⟨mk 23 [(5, .d (eU64 y64))], [.box (.agg [.slc 1 1 y65 y66 none, .d (eB y67)]), .row 1 (List.map eU8 p1) true]⟩ _
    refine SC.seq ?_
    refine SC.region ?_
    refine SO.op (Wanted.free rfl) rfl (A_move (v := .d (eU64 y64)) rfl rfl) ?_
    refine SO.op (Wanted.free rfl) rfl (A_assign (v := .d (eU64 y64)) rfl rfl) ?_
    refine SO.nil ?_
    change SC _ _ _ _ _
    refine SC.ret ?_
    have q := Option.some.inj h0; subst q
    exact finR (Wk.env (e' := [(4, .d (eU64 y64))]) (EW.cons (AW.refl _) EW.nil)) (lresT rfl lresN) rfl

/-- (*granary/pack.In).Flag -/
noncomputable def pack_In_Flag (p0 : List UInt8) (p1 : Bool) : Option (Bool × Nat × Nat × Bool) :=
  Option.bind (α := Bool)
    (bif (decide ((p0.length : Int) > (0 : Int))) then
      Option.bind (getI p0 (0 : Int)) fun v23 =>
      some (decide ((1 : UInt8) < v23))
    else
      some false)
    fun y20 =>
  bif y20 then
    Option.bind (α := Unit)
      (some ())
      fun _ =>
    some (false, 0, p0.length, true)
  else
    Option.bind (pack_In_number (1 : Int) p0 p1) fun (r26, r27, r28, r29) =>
    some ((r26 == (1 : UInt64)), r27, r28, r29)
theorem pack_In_Flag_ok (p0 : List UInt8) (p1 : Bool) (r : Bool × Nat × Nat × Bool) (h0 : pack_In_Flag p0 p1 = some r) : CallAt Tryd.prog 48 [.ref 0 0 0] [.box (.agg [.slc 1 1 0 p0.length none, .d (eB p1)]), .row 1 (List.map eU8 p0) true] (.d (eB r.1)) [.box (.agg [.slc 1 1 r.2.1 r.2.2.1 none, .d (eB r.2.2.2)]), .row 1 (List.map eU8 p0) true] := by
  unfold pack_In_Flag at h0
  refine CallAt.of Tryd.func48 rfl ?_
  refine SC.post (Q' := fun e s => ∃ s1, Wk _ s s1 ∧ Fin _ _ _ _ e s1) ?_ (fun _ _ h => h)
  refine SC.wk (s1 := ⟨mk 30 [(0, .ref 0 0 0)], [.box (.agg [.slc 1 1 0 p0.length none, .d (eB p1)]), .row 1 (List.map eU8 p0) true]⟩) (Wk.begin (n := 30) (Nat.le_of_ble_eq_true rfl)) ?_
  refine SC.seq ?_
  refine SC.region ?_
  refine SO.op (Wanted.free rfl) rfl (A_assign (v := .d (eB false)) rfl rfl) ?_
  refine SO.nil ?_
  change SC _ _ _ _ _
  refine SC.seq ?_
  refine SC.seqP h0 (fun y => ⟨mk 30 [(0, .ref 0 0 0), (21, .d (eB y))], [.box (.agg [.slc 1 1 0 p0.length none, .d (eB p1)]), .row 1 (List.map eU8 p0) true]⟩) ?_ ?_
  · intro u1_21 h1
    refine SC.region ?_
    refine SO.op (Wanted.free rfl) rfl (A_move (v := .ref 0 0 0) rfl rfl) ?_
    refine SO.op (Wanted.free rfl) rfl (A_bin (v := .d (eB false)) rfl rfl rfl (fun _ _ => nil_eql un71)) ?_
    refine SO.op (Wanted.free rfl) rfl (A_move (v := .d (eB false)) rfl rfl) ?_
    refine SO.op (Wanted.by rfl rfl rfl rfl) rfl (A_move (v := .ref 0 0 0) rfl rfl) ?_
    refine SO.op (Wanted.by rfl rfl rfl rfl) rfl (A_nilRef rfl rfl) ?_
    refine SO.op (Wanted.by rfl rfl rfl rfl) rfl (A_fieldAddr rfl rfl (fa_ref fo103_0 ts51 rfl)) ?_
    refine SO.op (Wanted.by rfl rfl rfl rfl) rfl (A_load (v := .slc 1 1 0 p0.length none) rfl rfl (ld_box ts51 ta51 rfl rfl)) ?_
    refine SO.op (Wanted.by rfl rfl rfl rfl) rfl (A_len (v := .d (eI (p0.length : Int))) rfl rfl rfl rfl (len_slc un51)) ?_
    refine SO.op (Wanted.by rfl rfl rfl rfl) rfl (A_bin (v := .d (eB (decide ((p0.length : Int) > (0 : Int))))) rfl rfl rfl (fun X Y => b_i64_gtr _ X Y (p0.length : Int) (0 : Int))) ?_
    refine SO.op (Wanted.by rfl rfl rfl rfl) rfl (A_move (v := .d (eB (decide ((p0.length : Int) > (0 : Int))))) rfl rfl) ?_
    refine SO.split (fun hb22 => ?_) (fun hb22 => ?_)
    · replace h1 := ct hb22 h1
      refine SO.op (Wanted.by rfl rfl rfl rfl) rfl (A_move (v := .ref 0 0 0) rfl rfl) ?_
      refine SO.op (Wanted.by rfl rfl rfl rfl) rfl (A_nilRef rfl rfl) ?_
      refine SO.op (Wanted.by rfl rfl rfl rfl) rfl (A_fieldAddr rfl rfl (fa_ref fo103_0 ts51 rfl)) ?_
      refine SO.op (Wanted.by rfl rfl rfl rfl) rfl (A_load (v := .slc 1 1 0 p0.length none) rfl rfl (ld_box ts51 ta51 rfl rfl)) ?_
      obtain ⟨v23, hv23, h1⟩ := ob h1
      refine SO.opW (v' := .ref 1 ((0 : Int).toNat) 0) (Wanted.by rfl rfl rfl rfl) rfl (A_indexAddr (v := .ref 1 (0 + (0 : Int).toNat) 0) rfl rfl rfl (ia_slc un51 ts5 (getI_lt hv23))) (AW.refz (by simp)) ?_
      refine SO.op (Wanted.by rfl rfl rfl rfl) rfl (A_load (v := .d (eU8 v23)) rfl rfl (ld_row ts5 ta5 rfl (map_get (getI_some hv23).2) rfl)) ?_
      refine SO.op (Wanted.by rfl rfl rfl rfl) rfl (A_bin (v := .d (eB (decide ((1 : UInt8) < v23)))) rfl rfl rfl (fun X Y => b_u8_gtr _ X Y v23 (1 : UInt8))) ?_
      refine SO.op (Wanted.by rfl rfl rfl rfl) rfl (A_pickT (v := .d (eB (decide ((1 : UInt8) < v23)))) rfl rfl rfl) ?_
      refine SO.op (Wanted.free rfl) rfl (A_pickF (v := .d (eB (decide ((1 : UInt8) < v23)))) rfl rfl rfl) ?_
      refine SO.nil ?_
      have q := Option.some.inj h1; subst q
      exact (Wk.env (e' := [(0, .ref 0 0 0), (21, .d (eB (decide ((1 : UInt8) < v23))))]) (EW.cons (AW.refl _) (EW.cons (AW.refl _) EW.nil)))
    · replace h1 := cf hb22 h1
      refine SO.skip (Wanted.by rfl rfl rfl rfl) rfl ?_
      refine SO.skip (Wanted.by rfl rfl rfl rfl) rfl ?_
      refine SO.skip (Wanted.by rfl rfl rfl rfl) rfl ?_
      refine SO.skip (Wanted.by rfl rfl rfl rfl) rfl ?_
      refine SO.skip (Wanted.by rfl rfl rfl rfl) rfl ?_
      refine SO.skip (Wanted.by rfl rfl rfl rfl) rfl ?_
      refine SO.skip (Wanted.by rfl rfl rfl rfl) rfl ?_
      refine SO.op (Wanted.by rfl rfl rfl rfl) rfl (A_pickF (v := .d (eB false)) rfl rfl rfl) ?_
      refine SO.op (Wanted.free rfl) rfl (A_pickF (v := .d (eB false)) rfl rfl rfl) ?_
      refine SO.nil ?_
      have q := Option.some.inj h1; subst q
      exact (Wk.env (e' := [(0, .ref 0 0 0), (21, .d (eB false))]) (EW.cons (AW.refl _) (EW.cons (AW.refl _) EW.nil)))
  · rintro y20 h0
    change SC _ _ _ ⟨mk 30 [(0, .ref 0 0 0), (21, .d (eB y20))], [.box (.agg [.slc 1 1 0 p0.length none, .d (eB p1)]), .row 1 (List.map eU8 p0) true]⟩ _
    refine SC.condB (t := y20) rfl (fun hb24 => ?_) (fun hb24 => ?_)
    · replace h0 := ct hb24 h0
      refine SC.seqP h0 (fun y => ⟨mk 30 [], [.box (.agg [.slc 1 1 0 p0.length none, .d (eB true)]), .row 1 (List.map eU8 p0) true]⟩) ?_ ?_
      · intro u1_25 h1
        refine SC.seq ?_
        refine SC.region ?_
        refine SO.op (Wanted.free rfl) rfl (A_move (v := .ref 0 0 0) rfl rfl) ?_
        refine SO.op (Wanted.free rfl) rfl (A_bin (v := .d (eB true)) rfl rfl rfl (fun _ _ => nil_neq un71)) ?_
        refine SO.nil ?_
        change SC _ _ _ _ _
        refine SC.condT rfl ?_
        refine SC.region ?_
        refine SO.op (Wanted.free rfl) rfl (A_move (v := .ref 0 0 0) rfl rfl) ?_
        refine SO.op (Wanted.free rfl) rfl (A_nilRef rfl rfl) ?_
        refine SO.op (Wanted.free rfl) rfl (A_fieldAddr rfl rfl (fa_ref fo103_1 ts4 rfl)) ?_
        refine SO.op0 (Wanted.free rfl) rfl (A_store (σ' := [.box (.agg [.slc 1 1 0 p0.length none, .d (eB true)]), .row 1 (List.map eU8 p0) true]) rfl rfl rfl (st_box (zs := [.d (eB true)]) ts4 rfl rfl rfl rfl rfl (Nat.le_of_ble_eq_true rfl) rfl)) ?_
        refine SO.nil ?_
        have q := Option.some.inj h1; subst q
        exact (Wk.env (e' := []) EW.nil)
      · intro _ h0
        change SC _ _ _ ⟨mk 30 [], [.box (.agg [.slc 1 1 0 p0.length none, .d (eB true)]), .row 1 (List.map eU8 p0) true]⟩ _
        refine SC.seq ?_
        refine SC.region ?_
        refine SO.op (Wanted.free rfl) rfl (A_assign (v := .d (eB false)) rfl rfl) ?_
        refine SO.nil ?_
        change SC _ _ _ _ _
        refine SC.ret ?_
        have q := Option.some.inj h0; subst q
        exact finR (Wk.env (e' := [(2, .d (eB false))]) (EW.cons (AW.refl _) EW.nil)) (lresT rfl lresN) rfl
    · replace h0 := cf hb24 h0
      refine SC.skip ?_
      change SC _ _ _ _ _
      refine SC.seq ?_
      refine SC.region ?_
      refine SO.op (Wanted.free rfl) rfl (A_move (v := .ref 0 0 0) rfl rfl) ?_
      obtain ⟨⟨r26, r27, r28, r29⟩, hq30, h0⟩ := ob h0
      refine SO.call (ι := [0, 1]) (σc := [.box (.agg [.slc 1 1 0 p0.length none, .d (eB p1)]), .row 1 (List.map eU8 p0) true]) (args' := [.ref 0 0 0, .d (eI (1 : Int))]) (r' := .d (eU64 r26)) (σ2 := [.box (.agg [.slc 1 1 r27 r28 none, .d (eB r29)]), .row 1 (List.map eU8 p0) true]) (os := [.box (.agg [.slc 1 1 r27 r28 none, .d (eB r29)]), .row 1 (List.map eU8 p0) true]) (r := .d (eU64 r26)) (σ' := [.box (.agg [.slc 1 1 r27 r28 none, .d (eB r29)]), .row 1 (List.map eU8 p0) true]) (Wanted.free rfl) rfl rfl rfl rfl rfl cb65 rfl rfl (pack_In_number_ok (1 : Int) p0 p1 _ hq30) rfl rfl (Nat.le_of_ble_eq_true rfl) rfl ?_
      refine SO.op (Wanted.free rfl) rfl (A_bin (v := .d (eB (r26 == (1 : UInt64)))) rfl rfl rfl (fun X Y => b_u64_eql _ X Y r26 (1 : UInt64))) ?_
      refine SO.op (Wanted.free rfl) rfl (A_assign (v := .d (eB (r26 == (1 : UInt64)))) rfl rfl) ?_
      refine SO.nil ?_
      change SC _ _ _ _ _
      refine SC.ret ?_
      have q := Option.some.inj h0; subst q
      exact finR (Wk.env (e' := [(2, .d (eB (r26 == (1 : UInt64))))]) (EW.cons (AW.refl _) EW.nil)) (lresT rfl lresN) rfl

/-- (*granary/pack.In).Bad -/
noncomputable def pack_In_Bad (p0 : List UInt8) (p1 : Nat) (p2 : Nat) (p3 : Bool) : Option Unit :=
  Option.bind (α := Unit)
    (some ())
    fun _ =>
  some ()
theorem pack_In_Bad_ok (p0 : List UInt8) (p1 : Nat) (p2 : Nat) (p3 : Bool) (r : Unit) (h0 : pack_In_Bad p0 p1 p2 p3 = some r) : CallAt Tryd.prog 49 [.ref 0 0 0] [.box (.agg [.slc 1 1 p1 p2 none, .d (eB p3)]), .row 1 (List.map eU8 p0) true] (.d (eB p3)) [.box (.agg [.slc 1 1 p1 p2 none, .d (eB p3)]), .row 1 (List.map eU8 p0) true] := by
  unfold pack_In_Bad at h0
  refine CallAt.of Tryd.func49 rfl ?_
  refine SC.post (Q' := fun e s => ∃ s1, Wk _ s s1 ∧ Fin _ _ _ _ e s1) ?_ (fun _ _ h => h)
  refine SC.wk (s1 := ⟨mk 11 [(0, .ref 0 0 0)], [.box (.agg [.slc 1 1 p1 p2 none, .d (eB p3)]), .row 1 (List.map eU8 p0) true]⟩) (Wk.begin (n := 11) (Nat.le_of_ble_eq_true rfl)) ?_
  refine SC.seq ?_
  refine SC.region ?_
  refine SO.op (Wanted.free rfl) rfl (A_assign (v := .d (eB false)) rfl rfl) ?_
  refine SO.nil ?_
  change SC _ _ _ _ _
  refine SC.seqP h0 (fun y => ⟨mk 11 [(2, .d (eB p3))], [.box (.agg [.slc 1 1 p1 p2 none, .d (eB p3)]), .row 1 (List.map eU8 p0) true]⟩) ?_ ?_
  · intro u1_2 h1
    refine SC.region ?_
    refine SO.op (Wanted.free rfl) rfl (A_move (v := .ref 0 0 0) rfl rfl) ?_
    refine SO.op (Wanted.free rfl) rfl (A_bin (v := .d (eB false)) rfl rfl rfl (fun _ _ => nil_eql un71)) ?_
    refine SO.op (Wanted.free rfl) rfl (A_move (v := .d (eB false)) rfl rfl) ?_
    refine SO.op (Wanted.by rfl rfl rfl rfl) rfl (A_move (v := .ref 0 0 0) rfl rfl) ?_
    refine SO.op (Wanted.by rfl rfl rfl rfl) rfl (A_nilRef rfl rfl) ?_
    refine SO.op (Wanted.by rfl rfl rfl rfl) rfl (A_fieldAddr rfl rfl (fa_ref fo103_1 ts4 rfl)) ?_
    refine SO.op (Wanted.by rfl rfl rfl rfl) rfl (A_load (v := .d (eB p3)) rfl rfl (ld_box ts4 ta4 rfl rfl)) ?_
    refine SO.op (Wanted.free rfl) rfl (A_pickF (v := .d (eB p3)) rfl rfl rfl) ?_
    refine SO.op (Wanted.free rfl) rfl (A_assign (v := .d (eB p3)) rfl rfl) ?_
    refine SO.nil ?_
    have q := Option.some.inj h1; subst q
    exact (Wk.env (e' := [(2, .d (eB p3))]) (EW.cons (AW.refl _) EW.nil))
  · intro _ h0
    change SC _ _ _ ⟨mk 11 [(2, .d (eB p3))], [.box (.agg [.slc 1 1 p1 p2 none, .d (eB p3)]), .row 1 (List.map eU8 p0) true]⟩ _
    refine SC.ret ?_
    have q := Option.some.inj h0; subst q
    exact finR (Wk.env (e' := [(2, .d (eB p3))]) (EW.cons (AW.refl _) EW.nil)) (lresT rfl lresN) rfl

/-- (*granary/pack.In).take -/
noncomputable def pack_In_take_1 (p0 : Int) (p1 : List UInt8) (p2 : Nat) (p3 : Nat) (p4 : Bool) : Option (Nat × Nat × Nat × Nat × Bool) :=
  Option.bind (α := Bool)
    (bif p4 then
      some true
    else
      some (decide ((p3 : Int) < p0)))
    fun y15 =>
  bif y15 then
    Option.bind (α := Unit)
      (some ())
      fun _ =>
    some (0, 0, p2, p3, true)
  else
    bif decide (0 ≤ p0 ∧ p0 ≤ (p3 : Int)) then
    bif decide (0 ≤ p0 ∧ p0 ≤ (p3 : Int)) then
    some (p2, p0.toNat, p2 + p0.toNat, p3 - p0.toNat, p4)
    else none
    else none
theorem pack_In_take_1_ok (p0 : Int) (p1 : List UInt8) (p2 : Nat) (p3 : Nat) (p4 : Bool) (r : Nat × Nat × Nat × Nat × Bool) (h0 : pack_In_take_1 p0 p1 p2 p3 p4 = some r) : CallAt Tryd.prog 78 [.ref 0 0 0, .d (eI p0)] [.box (.agg [.slc 1 1 p2 p3 none, .d (eB p4)]), .row 1 (List.map eU8 p1) true] (.slc 1 1 r.1 r.2.1 none) [.box (.agg [.slc 1 1 r.2.2.1 r.2.2.2.1 none, .d (eB r.2.2.2.2)]), .row 1 (List.map eU8 p1) true] := by
  unfold pack_In_take_1 at h0
  refine CallAt.of Tryd.func78 rfl ?_
  refine SC.post (Q' := fun e s => ∃ s1, Wk _ s s1 ∧ Fin _ _ _ _ e s1) ?_ (fun _ _ h => h)
  refine SC.wk (s1 := ⟨mk 44 [(0, .ref 0 0 0), (1, .d (eI p0))], [.box (.agg [.slc 1 1 p2 p3 none, .d (eB p4)]), .row 1 (List.map eU8 p1) true]⟩) (Wk.begin (n := 44) (Nat.le_of_ble_eq_true rfl)) ?_
  refine SC.seq ?_
  refine SC.region ?_
  refine SO.op (Wanted.free rfl) rfl (A_assign (v := .d .nils) rfl rfl) ?_
  refine SO.nil ?_
  change SC _ _ _ _ _
  refine SC.seq ?_
  refine SC.seqP h0 (fun y => ⟨mk 44 [(0, .ref 0 0 0), (1, .d (eI p0)), (22, .d (eB y))], [.box (.agg [.slc 1 1 p2 p3 none, .d (eB p4)]), .row 1 (List.map eU8 p1) true]⟩) ?_ ?_
  · intro u1_16 h1
    refine SC.region ?_
    refine SO.op (Wanted.free rfl) rfl (A_move (v := .ref 0 0 0) rfl rfl) ?_
    refine SO.op (Wanted.free rfl) rfl (A_bin (v := .d (eB false)) rfl rfl rfl (fun _ _ => nil_eql un71)) ?_
    refine SO.op (Wanted.free rfl) rfl (A_move (v := .d (eB false)) rfl rfl) ?_
    refine SO.op (Wanted.by rfl rfl rfl rfl) rfl (A_move (v := .ref 0 0 0) rfl rfl) ?_
    refine SO.op (Wanted.by rfl rfl rfl rfl) rfl (A_nilRef rfl rfl) ?_
    refine SO.op (Wanted.by rfl rfl rfl rfl) rfl (A_fieldAddr rfl rfl (fa_ref fo103_1 ts4 rfl)) ?_
    refine SO.op (Wanted.by rfl rfl rfl rfl) rfl (A_load (v := .d (eB p4)) rfl rfl (ld_box ts4 ta4 rfl rfl)) ?_
    refine SO.op (Wanted.free rfl) rfl (A_pickF (v := .d (eB p4)) rfl rfl rfl) ?_
    refine SO.op (Wanted.free rfl) rfl (A_move (v := .d (eB p4)) rfl rfl) ?_
    refine SO.split (fun hb17 => ?_) (fun hb17 => ?_)
    · replace h1 := ct hb17 h1
      refine SO.skip (Wanted.by rfl rfl rfl rfl) rfl ?_
      refine SO.skip (Wanted.by rfl rfl rfl rfl) rfl ?_
      refine SO.skip (Wanted.by rfl rfl rfl rfl) rfl ?_
      refine SO.skip (Wanted.by rfl rfl rfl rfl) rfl ?_
      refine SO.skip (Wanted.by rfl rfl rfl rfl) rfl ?_
      refine SO.skip (Wanted.by rfl rfl rfl rfl) rfl ?_
      refine SO.skip (Wanted.by rfl rfl rfl rfl) rfl ?_
      refine SO.op (Wanted.free rfl) rfl (A_pickT (v := .d (eB true)) rfl rfl rfl) ?_
      refine SO.nil ?_
      have q := Option.some.inj h1; subst q
      exact (Wk.env (e' := [(0, .ref 0 0 0), (1, .d (eI p0)), (22, .d (eB true))]) (EW.cons (AW.refl _) (EW.cons (AW.refl _) (EW.cons (AW.refl _) EW.nil))))
    · replace h1 := cf hb17 h1
      refine SO.op (Wanted.by rfl rfl rfl rfl) rfl (A_move (v := .ref 0 0 0) rfl rfl) ?_
      refine SO.op (Wanted.by rfl rfl rfl rfl) rfl (A_nilRef rfl rfl) ?_
      refine SO.op (Wanted.by rfl rfl rfl rfl) rfl (A_fieldAddr rfl rfl (fa_ref fo103_0 ts51 rfl)) ?_
      refine SO.op (Wanted.by rfl rfl rfl rfl) rfl (A_load (v := .slc 1 1 p2 p3 none) rfl rfl (ld_box ts51 ta51 rfl rfl)) ?_
      refine SO.op (Wanted.by rfl rfl rfl rfl) rfl (A_len (v := .d (eI (p3 : Int))) rfl rfl rfl rfl (len_slc un51)) ?_
      refine SO.op (Wanted.by rfl rfl rfl rfl) rfl (A_move (v := .d (eI p0)) rfl rfl) ?_
      refine SO.op (Wanted.by rfl rfl rfl rfl) rfl (A_bin (v := .d (eB (decide ((p3 : Int) < p0)))) rfl rfl rfl (fun X Y => b_i64_lss _ X Y (p3 : Int) p0)) ?_
      refine SO.op (Wanted.free rfl) rfl (A_pickF (v := .d (eB (decide ((p3 : Int) < p0)))) rfl rfl rfl) ?_
      refine SO.nil ?_
      have q := Option.some.inj h1; subst q
      exact (Wk.env (e' := [(0, .ref 0 0 0), (1, .d (eI p0)), (22, .d (eB (decide ((p3 : Int) < p0))))]) (EW.cons (AW.refl _) (EW.cons (AW.refl _) (EW.cons (AW.refl _) EW.nil))))
  · rintro y15 h0
    change SC _ _ _ ⟨mk 44 [(0, .ref 0 0 0), (1, .d (eI p0)), (22, .d (eB y15))], [.box (.agg [.slc 1 1 p2 p3 none, .d (eB p4)]), .row 1 (List.map eU8 p1) true]⟩ _
    refine SC.condB (t := y15) rfl (fun hb18 => ?_) (fun hb18 => ?_)
    · replace h0 := ct hb18 h0
      refine SC.seqP h0 (fun y => ⟨mk 44 [], [.box (.agg [.slc 1 1 p2 p3 none, .d (eB true)]), .row 1 (List.map eU8 p1) true]⟩) ?_ ?_
      · intro u1_19 h1
        refine SC.seq ?_
        refine SC.region ?_
        refine SO.op (Wanted.free rfl) rfl (A_move (v := .ref 0 0 0) rfl rfl) ?_
        refine SO.op (Wanted.free rfl) rfl (A_bin (v := .d (eB true)) rfl rfl rfl (fun _ _ => nil_neq un71)) ?_
        refine SO.nil ?_
        change SC _ _ _ _ _
        refine SC.condT rfl ?_
        refine SC.region ?_
        refine SO.op (Wanted.free rfl) rfl (A_move (v := .ref 0 0 0) rfl rfl) ?_
        refine SO.op (Wanted.free rfl) rfl (A_nilRef rfl rfl) ?_
        refine SO.op (Wanted.free rfl) rfl (A_fieldAddr rfl rfl (fa_ref fo103_1 ts4 rfl)) ?_
        refine SO.op0 (Wanted.free rfl) rfl (A_store (σ' := [.box (.agg [.slc 1 1 p2 p3 none, .d (eB true)]), .row 1 (List.map eU8 p1) true]) rfl rfl rfl (st_box (zs := [.d (eB true)]) ts4 rfl rfl rfl rfl rfl (Nat.le_of_ble_eq_true rfl) rfl)) ?_
        refine SO.nil ?_
        have q := Option.some.inj h1; subst q
        exact (Wk.env (e' := []) EW.nil)
      · intro _ h0
        change SC _ _ _ ⟨mk 44 [], [.box (.agg [.slc 1 1 p2 p3 none, .d (eB true)]), .row 1 (List.map eU8 p1) true]⟩ _
        refine SC.seq ?_
        refine SC.region ?_
        refine SO.op (Wanted.free rfl) rfl (A_assign (v := .d .nils) rfl rfl) ?_
        refine SO.nil ?_
        change SC _ _ _ _ _
        refine SC.ret ?_
        have q := Option.some.inj h0; subst q
        exact finR (Wk.trans (Wk.env (e' := [(4, .slc 1 1 0 0 none)]) (EW.cons (AW.slcn _ _ _) EW.nil)) (Wk.env (e' := [(4, .slc 1 1 0 0 none)]) (EW.cons (AW.refl _) EW.nil))) (lresT rfl lresN) rfl
    · replace h0 := cf hb18 h0
      refine SC.skip ?_
      change SC _ _ _ _ _
      refine SC.seq ?_
      refine SC.region ?_
      refine SO.op (Wanted.free rfl) rfl (A_move (v := .ref 0 0 0) rfl rfl) ?_
      refine SO.op (Wanted.free rfl) rfl (A_nilRef rfl rfl) ?_
      refine SO.op (Wanted.free rfl) rfl (A_fieldAddr rfl rfl (fa_ref fo103_0 ts51 rfl)) ?_
      refine SO.op (Wanted.free rfl) rfl (A_load (v := .slc 1 1 p2 p3 none) rfl rfl (ld_box ts51 ta51 rfl rfl)) ?_
      refine SO.op (Wanted.free rfl) rfl (A_move (v := .d (eI p0)) rfl rfl) ?_
      obtain ⟨hg20, h0⟩ := gd h0
      refine SO.op (Wanted.free rfl) rfl (A_slice (v := .slc 1 1 p2 p0.toNat none) rfl rfl rfl rfl rfl (sl_slc_hi un51 ts5 hg20)) ?_
      refine SO.op (Wanted.free rfl) rfl (A_assign (v := .slc 1 1 p2 p0.toNat none) rfl rfl) ?_
      refine SO.nil ?_
      change SC _ _ _ _ _
      refine SC.seq ?_
      refine SC.region ?_
      refine SO.op (Wanted.free rfl) rfl (A_move (v := .ref 0 0 0) rfl rfl) ?_
      refine SO.op (Wanted.free rfl) rfl (A_move (v := .ref 0 0 0) rfl rfl) ?_
      refine SO.op (Wanted.free rfl) rfl (A_nilRef rfl rfl) ?_
      refine SO.op (Wanted.free rfl) rfl (A_fieldAddr rfl rfl (fa_ref fo103_0 ts51 rfl)) ?_
      refine SO.op (Wanted.free rfl) rfl (A_load (v := .slc 1 1 p2 p3 none) rfl rfl (ld_box ts51 ta51 rfl rfl)) ?_
      refine SO.op (Wanted.free rfl) rfl (A_move (v := .d (eI p0)) rfl rfl) ?_
      obtain ⟨hg21, h0⟩ := gd h0
      refine SO.op (Wanted.free rfl) rfl (A_slice (v := .slc 1 1 (p2 + p0.toNat) (p3 - p0.toNat) none) rfl rfl rfl rfl rfl (sl_slc_lo un51 ts5 hg21)) ?_
      refine SO.op (Wanted.free rfl) rfl (A_nilRef rfl rfl) ?_
      refine SO.op (Wanted.free rfl) rfl (A_fieldAddr rfl rfl (fa_ref fo103_0 ts51 rfl)) ?_
      refine SO.op0 (Wanted.free rfl) rfl (A_store (σ' := [.box (.agg [.slc 1 1 (p2 + p0.toNat) (p3 - p0.toNat) none, .d (eB p4)]), .row 1 (List.map eU8 p1) true]) rfl rfl rfl (st_box (zs := [.slc 1 1 (p2 + p0.toNat) (p3 - p0.toNat) none]) ts51 rfl rfl rfl rfl rfl (Nat.le_of_ble_eq_true rfl) rfl)) ?_
      refine SO.nil ?_
      change SC _ _ _ _ _
      refine SC.seq ?_
      refine SC.region ?_
      refine SO.op (Wanted.free rfl) rfl (A_move (v := .slc 1 1 p2 p0.toNat none) rfl rfl) ?_
      refine SO.op (Wanted.free rfl) rfl (A_assign (v := .slc 1 1 p2 p0.toNat none) rfl rfl) ?_
      refine SO.nil ?_
      change SC _ _ _ _ _
      refine SC.ret ?_
      have q := Option.some.inj h0; subst q
      exact finR (Wk.env (e' := [(4, .slc 1 1 p2 p0.toNat none)]) (EW.cons (AW.refl _) EW.nil)) (lresT rfl lresN) rfl

/-- (*granary/pack.In).number -/
noncomputable def pack_In_number_1 (p0 : Int) (p1 : List UInt8) (p2 : Nat) (p3 : Nat) (p4 : Bool) : Option (UInt64 × Nat × Nat × Bool) :=
  Option.bind (α := UInt64 × Nat × Nat × Bool)
    (Option.bind (pack_In_take_1 p0 p1 p2 p3 p4) fun (r72, r73, r74, r75, r76) =>
    Option.bind (α := UInt64 × Nat × Nat × Bool)
      (loop (Y := UInt64 × Int) (W := UInt64 × Nat × Nat × Bool) (fun (y80, y81) =>
        bif (decide (y81 < (r73 : Int))) then
          Option.bind (getS p1 r72 r73 y81) fun v89 =>
          some (Sum.inl (((shl64 y80 8) ||| (v89.toUInt64)), (w64 (y81 + (1 : Int)))))
        else
          some (Sum.inr (y80, r74, r75, r76))) ((0 : UInt64), (0 : Int)))
      (fun e => some e))
    fun (y67, y68, y69, y70) =>
  some (y67, y68, y69, y70)
theorem pack_In_number_1_ok (p0 : Int) (p1 : List UInt8) (p2 : Nat) (p3 : Nat) (p4 : Bool) (r : UInt64 × Nat × Nat × Bool) (h0 : pack_In_number_1 p0 p1 p2 p3 p4 = some r) : CallAt Tryd.prog 65 [.ref 0 0 0, .d (eI p0)] [.box (.agg [.slc 1 1 p2 p3 none, .d (eB p4)]), .row 1 (List.map eU8 p1) true] (.d (eU64 r.1)) [.box (.agg [.slc 1 1 r.2.1 r.2.2.1 none, .d (eB r.2.2.2)]), .row 1 (List.map eU8 p1) true] := by
  unfold pack_In_number_1 at h0
  refine CallAt.of Tryd.func65 rfl ?_
  refine SC.post (Q' := fun e s => ∃ s1, Wk _ s s1 ∧ Fin _ _ _ _ e s1) ?_ (fun _ _ h => h)
  refine SC.wk (s1 := ⟨mk 23 [(0, .ref 0 0 0), (1, .d (eI p0))], [.box (.agg [.slc 1 1 p2 p3 none, .d (eB p4)]), .row 1 (List.map eU8 p1) true]⟩) (Wk.begin (n := 23) (Nat.le_of_ble_eq_true rfl)) ?_
  refine SC.seq ?_
  refine SC.region ?_
  refine SO.op (Wanted.free rfl) rfl (A_assign (v := .d (eU64 (0 : UInt64))) rfl rfl) ?_
  refine SO.nil ?_
  change SC _ _ _ _ _
  refine SC.seq ?_
  refine SC.region ?_
  refine SO.op (Wanted.free rfl) rfl (A_assign (v := .d (eU64 (0 : UInt64))) rfl rfl) ?_
  refine SO.nil ?_
  change SC _ _ _ _ _
  refine SC.seqP h0 (fun y => ⟨mk 23 [(5, .d (eU64 y.1))], [.box (.agg [.slc 1 1 y.2.1 y.2.2.1 none, .d (eB y.2.2.2)]), .row 1 (List.map eU8 p1) true]⟩) ?_ ?_
  · intro u1_71 h1
    refine SC.seq ?_
    refine SC.region ?_
    refine SO.op (Wanted.free rfl) rfl (A_move (v := .ref 0 0 0) rfl rfl) ?_
    refine SO.op (Wanted.free rfl) rfl (A_move (v := .d (eI p0)) rfl rfl) ?_
    obtain ⟨⟨r72, r73, r74, r75, r76⟩, hq77, h1⟩ := ob h1
    refine SO.call (ι := [0, 1]) (σc := [.box (.agg [.slc 1 1 p2 p3 none, .d (eB p4)]), .row 1 (List.map eU8 p1) true]) (args' := [.ref 0 0 0, .d (eI p0)]) (r' := .slc 1 1 r72 r73 none) (σ2 := [.box (.agg [.slc 1 1 r74 r75 none, .d (eB r76)]), .row 1 (List.map eU8 p1) true]) (os := [.box (.agg [.slc 1 1 r74 r75 none, .d (eB r76)]), .row 1 (List.map eU8 p1) true]) (r := .slc 1 1 r72 r73 none) (σ' := [.box (.agg [.slc 1 1 r74 r75 none, .d (eB r76)]), .row 1 (List.map eU8 p1) true]) (Wanted.free rfl) rfl rfl rfl rfl rfl cb78 rfl rfl (pack_In_take_1_ok p0 p1 p2 p3 p4 _ hq77) rfl rfl (Nat.le_of_ble_eq_true rfl) rfl ?_
    refine SO.op (Wanted.free rfl) rfl (A_len (v := .d (eI (r73 : Int))) rfl rfl rfl rfl (len_slc un51)) ?_
    refine SO.op (Wanted.free rfl) rfl (A_move (v := .d (eI (0 : Int))) rfl rfl) ?_
    refine SO.nil ?_
    change SC _ _ _ _ _
    refine SC.blk ?_
    obtain ⟨u2_87, h2, h1⟩ := ob h1
    refine SC.loopB h2 (fun y => ⟨mk 23 [(5, .d (eU64 y.1)), (10, .slc 1 1 r72 r73 none), (11, .d (eI (r73 : Int))), (12, .d (eI y.2))], [.box (.agg [.slc 1 1 r74 r75 none, .d (eB r76)]), .row 1 (List.map eU8 p1) true]⟩) (Wk.env (e' := [(5, .d (eU64 (0 : UInt64))), (10, .slc 1 1 r72 r73 none), (11, .d (eI (r73 : Int))), (12, .d (eI (0 : Int)))]) (EW.cons (AW.refl _) (EW.cons (AW.refl _) (EW.cons (AW.refl _) (EW.cons (AW.refl _) EW.nil))))) ?_
    intro n90
    rintro ⟨y80, y81⟩ w2_86 h3 hv3
    change SC _ _ _ ⟨mk 23 [(5, .d (eU64 y80)), (10, .slc 1 1 r72 r73 none), (11, .d (eI (r73 : Int))), (12, .d (eI y81))], [.box (.agg [.slc 1 1 r74 r75 none, .d (eB r76)]), .row 1 (List.map eU8 p1) true]⟩ _
    refine SC.seq ?_
    refine SC.region ?_
    refine SO.op (Wanted.free rfl) rfl (A_bin (v := .d (eB (decide (y81 < (r73 : Int))))) rfl rfl rfl (fun X Y => b_i64_lss _ X Y y81 (r73 : Int))) ?_
    refine SO.nil ?_
    change SC _ _ _ _ _
    refine SC.seq ?_
    refine SC.condB (t := (decide (y81 < (r73 : Int)))) rfl (fun hb88 => ?_) (fun hb88 => ?_)
    · replace h3 := ct hb88 h3
      refine SC.skip ?_
      change SC _ _ _ _ _
      refine SC.seq ?_
      refine SC.blk ?_
      refine SC.seq ?_
      refine SC.region ?_
      obtain ⟨v89, hv89, h3⟩ := ob h3
      refine SO.op (Wanted.free rfl) rfl (A_indexAddr (v := .ref 1 (r72 + y81.toNat) 0) rfl rfl rfl (ia_slc un51 ts5 (getS_some hv89).1)) ?_
      refine SO.op (Wanted.free rfl) rfl (A_load (v := .d (eU8 v89)) rfl rfl (ld_row ts5 ta5 rfl (map_get (getS_some hv89).2) rfl)) ?_
      refine SO.op (Wanted.free rfl) rfl (A_assign (v := .d (eU8 v89)) rfl rfl) ?_
      refine SO.nil ?_
      change SC _ _ _ _ _
      refine SC.region ?_
      refine SO.op (Wanted.free rfl) rfl (A_move (v := .d (eU64 y80)) rfl rfl) ?_
      refine SO.op (Wanted.free rfl) rfl (A_bin (v := .d (eU64 (shl64 y80 8))) rfl rfl rfl (fun X Y => b_u64_shl _ X Y y80 _ (by decide))) ?_
      refine SO.op (Wanted.free rfl) rfl (A_move (v := .d (eU8 v89)) rfl rfl) ?_
      refine SO.op (Wanted.free rfl) rfl (A_conv (v := .d (eU64 (v89.toUInt64))) rfl rfl (cv_u8_u64 un5 un33 v89)) ?_
      refine SO.op (Wanted.free rfl) rfl (A_bin (v := .d (eU64 ((shl64 y80 8) ||| (v89.toUInt64)))) rfl rfl rfl (fun X Y => b_u64_or _ X Y (shl64 y80 8) (v89.toUInt64))) ?_
      refine SO.op (Wanted.free rfl) rfl (A_assign (v := .d (eU64 ((shl64 y80 8) ||| (v89.toUInt64)))) rfl rfl) ?_
      refine SO.nil ?_
      change SC _ _ _ _ _
      refine SC.region ?_
      refine SO.op (Wanted.free rfl) rfl (A_bin (v := .d (eI (w64 (y81 + (1 : Int))))) rfl rfl rfl (fun X Y => b_i64_add _ X Y y81 (1 : Int))) ?_
      refine SO.op (Wanted.free rfl) rfl (A_move (v := .d (eI (w64 (y81 + (1 : Int))))) rfl rfl) ?_
      refine SO.nil ?_
      have q := Option.some.inj h3; subst q
      exact lf (Wk.env (e' := [(5, .d (eU64 ((shl64 y80 8) ||| (v89.toUInt64)))), (10, .slc 1 1 r72 r73 none), (11, .d (eI (r73 : Int))), (12, .d (eI (w64 (y81 + (1 : Int)))))]) (EW.cons (AW.refl _) (EW.cons (AW.refl _) (EW.cons (AW.refl _) (EW.cons (AW.refl _) EW.nil)))))
    · replace h3 := cf hb88 h3
      refine SC.exit ?_
      have q := Option.some.inj h3; subst q
      have q : _ = _ := hv3; subst q
      have q := Option.some.inj h1; subst q
      exact (Wk.env (e' := [(5, .d (eU64 y80))]) (EW.cons (AW.refl _) EW.nil))
  · rintro ⟨y67, y68, y69, y70⟩ h0
    change SC _ _ _ ⟨mk 23 [(5, .d (eU64 y67))], [.box (.agg [.slc 1 1 y68 y69 none, .d (eB y70)]), .row 1 (List.map eU8 p1) true]⟩ _
    refine SC.seq ?_
    refine SC.region ?_
    refine SO.op (Wanted.free rfl) rfl (A_move (v := .d (eU64 y67)) rfl rfl) ?_
    refine SO.op (Wanted.free rfl) rfl (A_assign (v := .d (eU64 y67)) rfl rfl) ?_
    refine SO.nil ?_
    change SC _ _ _ _ _
    refine SC.ret ?_
    have q := Option.some.inj h0; subst q
    exact finR (Wk.env (e' := [(4, .d (eU64 y67))]) (EW.cons (AW.refl _) EW.nil)) (lresT rfl lresN) rfl

/-- (*granary/pack.In).U64 -/
noncomputable def pack_In_U64 (p0 : List UInt8) (p1 : Nat) (p2 : Nat) (p3 : Bool) : Option (UInt64 × Nat × Nat × Bool) :=
  Option.bind (pack_In_number_1 (8 : Int) p0 p1 p2 p3) fun (r10, r11, r12, r13) =>
  some (r10, r11, r12, r13)
theorem pack_In_U64_ok (p0 : List UInt8) (p1 : Nat) (p2 : Nat) (p3 : Bool) (r : UInt64 × Nat × Nat × Bool) (h0 : pack_In_U64 p0 p1 p2 p3 = some r) : CallAt Tryd.prog 50 [.ref 0 0 0] [.box (.agg [.slc 1 1 p1 p2 none, .d (eB p3)]), .row 1 (List.map eU8 p0) true] (.d (eU64 r.1)) [.box (.agg [.slc 1 1 r.2.1 r.2.2.1 none, .d (eB r.2.2.2)]), .row 1 (List.map eU8 p0) true] := by
  unfold pack_In_U64 at h0
  refine CallAt.of Tryd.func50 rfl ?_
  refine SC.post (Q' := fun e s => ∃ s1, Wk _ s s1 ∧ Fin _ _ _ _ e s1) ?_ (fun _ _ h => h)
  refine SC.wk (s1 := ⟨mk 5 [(0, .ref 0 0 0)], [.box (.agg [.slc 1 1 p1 p2 none, .d (eB p3)]), .row 1 (List.map eU8 p0) true]⟩) (Wk.begin (n := 5) (Nat.le_of_ble_eq_true rfl)) ?_
  refine SC.seq ?_
  refine SC.region ?_
  refine SO.op (Wanted.free rfl) rfl (A_assign (v := .d (eU64 (0 : UInt64))) rfl rfl) ?_
  refine SO.nil ?_
  change SC _ _ _ _ _
  refine SC.seq ?_
  refine SC.region ?_
  refine SO.op (Wanted.free rfl) rfl (A_move (v := .ref 0 0 0) rfl rfl) ?_
  obtain ⟨⟨r10, r11, r12, r13⟩, hq14, h0⟩ := ob h0
  refine SO.call (ι := [0, 1]) (σc := [.box (.agg [.slc 1 1 p1 p2 none, .d (eB p3)]), .row 1 (List.map eU8 p0) true]) (args' := [.ref 0 0 0, .d (eI (8 : Int))]) (r' := .d (eU64 r10)) (σ2 := [.box (.agg [.slc 1 1 r11 r12 none, .d (eB r13)]), .row 1 (List.map eU8 p0) true]) (os := [.box (.agg [.slc 1 1 r11 r12 none, .d (eB r13)]), .row 1 (List.map eU8 p0) true]) (r := .d (eU64 r10)) (σ' := [.box (.agg [.slc 1 1 r11 r12 none, .d (eB r13)]), .row 1 (List.map eU8 p0) true]) (Wanted.free rfl) rfl rfl rfl rfl rfl cb65 rfl rfl (pack_In_number_1_ok (8 : Int) p0 p1 p2 p3 _ hq14) rfl rfl (Nat.le_of_ble_eq_true rfl) rfl ?_
  refine SO.op (Wanted.free rfl) rfl (A_assign (v := .d (eU64 r10)) rfl rfl) ?_
  refine SO.nil ?_
  change SC _ _ _ _ _
  refine SC.ret ?_
  have q := Option.some.inj h0; subst q
  exact finR (Wk.env (e' := [(2, .d (eU64 r10))]) (EW.cons (AW.refl _) EW.nil)) (lresT rfl lresN) rfl

/-- (*granary/pack.In).U8 -/
noncomputable def pack_In_U8 (p0 : List UInt8) (p1 : Nat) (p2 : Nat) (p3 : Bool) : Option (UInt8 × Nat × Nat × Bool) :=
  Option.bind (pack_In_number_1 (1 : Int) p0 p1 p2 p3) fun (r10, r11, r12, r13) =>
  some ((r10.toUInt8), r11, r12, r13)
theorem pack_In_U8_ok (p0 : List UInt8) (p1 : Nat) (p2 : Nat) (p3 : Bool) (r : UInt8 × Nat × Nat × Bool) (h0 : pack_In_U8 p0 p1 p2 p3 = some r) : CallAt Tryd.prog 51 [.ref 0 0 0] [.box (.agg [.slc 1 1 p1 p2 none, .d (eB p3)]), .row 1 (List.map eU8 p0) true] (.d (eU8 r.1)) [.box (.agg [.slc 1 1 r.2.1 r.2.2.1 none, .d (eB r.2.2.2)]), .row 1 (List.map eU8 p0) true] := by
  unfold pack_In_U8 at h0
  refine CallAt.of Tryd.func51 rfl ?_
  refine SC.post (Q' := fun e s => ∃ s1, Wk _ s s1 ∧ Fin _ _ _ _ e s1) ?_ (fun _ _ h => h)
  refine SC.wk (s1 := ⟨mk 6 [(0, .ref 0 0 0)], [.box (.agg [.slc 1 1 p1 p2 none, .d (eB p3)]), .row 1 (List.map eU8 p0) true]⟩) (Wk.begin (n := 6) (Nat.le_of_ble_eq_true rfl)) ?_
  refine SC.seq ?_
  refine SC.region ?_
  refine SO.op (Wanted.free rfl) rfl (A_assign (v := .d (eU8 (0 : UInt8))) rfl rfl) ?_
  refine SO.nil ?_
  change SC _ _ _ _ _
  refine SC.seq ?_
  refine SC.region ?_
  refine SO.op (Wanted.free rfl) rfl (A_move (v := .ref 0 0 0) rfl rfl) ?_
  obtain ⟨⟨r10, r11, r12, r13⟩, hq14, h0⟩ := ob h0
  refine SO.call (ι := [0, 1]) (σc := [.box (.agg [.slc 1 1 p1 p2 none, .d (eB p3)]), .row 1 (List.map eU8 p0) true]) (args' := [.ref 0 0 0, .d (eI (1 : Int))]) (r' := .d (eU64 r10)) (σ2 := [.box (.agg [.slc 1 1 r11 r12 none, .d (eB r13)]), .row 1 (List.map eU8 p0) true]) (os := [.box (.agg [.slc 1 1 r11 r12 none, .d (eB r13)]), .row 1 (List.map eU8 p0) true]) (r := .d (eU64 r10)) (σ' := [.box (.agg [.slc 1 1 r11 r12 none, .d (eB r13)]), .row 1 (List.map eU8 p0) true]) (Wanted.free rfl) rfl rfl rfl rfl rfl cb65 rfl rfl (pack_In_number_1_ok (1 : Int) p0 p1 p2 p3 _ hq14) rfl rfl (Nat.le_of_ble_eq_true rfl) rfl ?_
  refine SO.op (Wanted.free rfl) rfl (A_conv (v := .d (eU8 (r10.toUInt8))) rfl rfl (cv_u64_u8 un33 un5 r10)) ?_
  refine SO.op (Wanted.free rfl) rfl (A_assign (v := .d (eU8 (r10.toUInt8))) rfl rfl) ?_
  refine SO.nil ?_
  change SC _ _ _ _ _
  refine SC.ret ?_
  have q := Option.some.inj h0; subst q
  exact finR (Wk.env (e' := [(2, .d (eU8 (r10.toUInt8)))]) (EW.cons (AW.refl _) EW.nil)) (lresT rfl lresN) rfl

/-- granary/key.long -/
noncomputable def key_long (p0 : List UInt8) (p1 : Nat) (p2 : Nat) : Option ((List UInt8) × Int × Bool) :=
  bindE (Y := Unit) (E := (List UInt8) × Int × Bool)
    (Option.bind (α := Unit ⊕ ((List UInt8) × Int × Bool))
      (loop (Y := (List UInt8) × Int) (W := Unit ⊕ ((List UInt8) × Int × Bool)) (fun (y267, y268) =>
        bif (decide (y268 < (p2 : Int))) then
          bindE (Y := (List UInt8) × Int) (E := (List UInt8) × Int × Bool)
            (Option.bind (getS p0 p1 p2 y268) fun v311 =>
            bif (v311 != (0 : UInt8)) then
              Option.bind (getS p0 p1 p2 y268) fun v313 =>
              bif decide ((y267.length + [v313].length) * 1 ≤ room) then
              some (Sum.inl ((y267 ++ [v313]), y268))
              else none
            else
              bif ((w64 (y268 + (1 : Int))) == (p2 : Int)) then
                some (Sum.inr (([] : List UInt8), (0 : Int), false))
              else
                Option.bind (getS p0 p1 p2 (w64 (y268 + (1 : Int)))) fun v316 =>
                bif (v316 == (0 : UInt8)) then
                  some (Sum.inr (y267, (w64 ((w64 (y268 + (1 : Int))) + (1 : Int))), true))
                else
                  Option.bind (getS p0 p1 p2 (w64 (y268 + (1 : Int)))) fun v318 =>
                  bif (v318 != (255 : UInt8)) then
                    some (Sum.inr (([] : List UInt8), (0 : Int), false))
                  else
                    bif decide ((y267.length + [(0 : UInt8)].length) * 1 ≤ room) then
                    some (Sum.inl ((y267 ++ [(0 : UInt8)]), (w64 (y268 + (1 : Int)))))
                    else none)
            (fun (y308, y309) =>
              some (Sum.inl (y308, (w64 (y309 + (1 : Int))))))
            (fun e => some (Sum.inr (Sum.inr e)))
        else
          some (Sum.inr (Sum.inl ()))) (([] : List UInt8), (0 : Int)))
      (Sum.elim (fun e => some (Sum.inl e)) (fun e => some (Sum.inr e))))
    (fun _ =>
      some (([] : List UInt8), (0 : Int), false))
    (fun e => some e)
theorem key_long_ok (p0 : List UInt8) (p1 : Nat) (p2 : Nat) (r : (List UInt8) × Int × Bool) (h0 : key_long p0 p1 p2 = some r) : CallAt Tryd.prog 52 [.slc 0 1 p1 p2 none] [.row 1 (List.map eU8 p0) true] (.tuple [.d (eS r.1), .d (eI r.2.1), .d (eB r.2.2)]) [.row 1 (List.map eU8 p0) true] := by
  unfold key_long at h0
  refine CallAt.of Tryd.func52 rfl ?_
  refine SC.post (Q' := fun e s => ∃ s1, Wk _ s s1 ∧ Fin _ _ _ _ e s1) ?_ (fun _ _ h => h)
  refine SC.wk (s1 := ⟨mk 51 [(0, .slc 0 1 p1 p2 none)], [.row 1 (List.map eU8 p0) true]⟩) (Wk.begin (n := 51) (Nat.le_of_ble_eq_true rfl)) ?_
  refine SC.seq ?_
  refine SC.region ?_
  refine SO.op (Wanted.free rfl) rfl (A_assign (v := .d (eS ([] : List UInt8))) rfl rfl) ?_
  refine SO.op (Wanted.free rfl) rfl (A_assign (v := .d (eI (0 : Int))) rfl rfl) ?_
  refine SO.op (Wanted.free rfl) rfl (A_assign (v := .d (eB false)) rfl rfl) ?_
  refine SO.nil ?_
  change SC _ _ _ _ _
  refine SC.seq ?_
  refine SC.region ?_
  refine SO.op (Wanted.free rfl) rfl (A_assign (v := .d .nils) rfl rfl) ?_
  refine SO.nil ?_
  change SC _ _ _ _ _
  refine SC.seqB h0 (fun y => ⟨mk 51 [], [.row 1 (List.map eU8 p0) true]⟩) ?_ ?_
  · intro u1_242 h1 h0
    refine SC.seq ?_
    refine SC.region ?_
    refine SO.op (Wanted.free rfl) rfl (A_assign (v := .d (eI (0 : Int))) rfl rfl) ?_
    refine SO.nil ?_
    change SC _ _ _ _ _
    refine SC.blk ?_
    obtain ⟨u2_296, h2, h1⟩ := ob h1
    refine SC.loopB h2 (fun y => ⟨mk 51 [(0, .slc 0 1 p1 p2 none), (5, .slc 1 1 0 y.1.length none), (6, .d (eI y.2))], [.row 1 (List.map eU8 p0) true, .row 1 (List.map eU8 y.1) true]⟩) (Wk.trans (Wk.pushE (σ' := [.row 1 (List.map eU8 p0) true, .row 1 (List.map eU8 ([] : List UInt8)) true]) (.row 1 [] true) (fun _ hh => by cases hh) rfl) (Wk.trans (Wk.env (e' := [(0, .slc 0 1 p1 p2 none), (5, .slc 1 1 0 (([] : List UInt8).length) none), (6, .d (eI (0 : Int)))]) (EW.cons (AW.refl _) (EW.cons (AW.slcn _ _ _) (EW.cons (AW.refl _) EW.nil)))) (Wk.env (e' := [(0, .slc 0 1 p1 p2 none), (5, .slc 1 1 0 (([] : List UInt8).length) none), (6, .d (eI (0 : Int)))]) (EW.cons (AW.refl _) (EW.cons (AW.refl _) (EW.cons (AW.refl _) EW.nil)))))) ?_
    intro n321
    rintro ⟨y267, y268⟩ w2_295 h3 hv3
    change SC _ _ _ ⟨mk 51 [(0, .slc 0 1 p1 p2 none), (5, .slc 1 1 0 y267.length none), (6, .d (eI y268))], [.row 1 (List.map eU8 p0) true, .row 1 (List.map eU8 y267) true]⟩ _
    refine SC.seq ?_
    refine SC.seq ?_
    refine SC.region ?_
    refine SO.op (Wanted.free rfl) rfl (A_move (v := .d (eI y268)) rfl rfl) ?_
    refine SO.op (Wanted.free rfl) rfl (A_move (v := .slc 0 1 p1 p2 none) rfl rfl) ?_
    refine SO.op (Wanted.free rfl) rfl (A_len (v := .d (eI (p2 : Int))) rfl rfl rfl rfl (len_slc un51)) ?_
    refine SO.op (Wanted.free rfl) rfl (A_bin (v := .d (eB (decide (y268 < (p2 : Int))))) rfl rfl rfl (fun X Y => b_i64_lss _ X Y y268 (p2 : Int))) ?_
    refine SO.nil ?_
    change SC _ _ _ _ _
    refine SC.condB (t := (decide (y268 < (p2 : Int)))) rfl (fun hb297 => ?_) (fun hb297 => ?_)
    · replace h3 := ct hb297 h3
      refine SC.skip ?_
      change SC _ _ _ _ _
      refine SC.seqB h3 (fun y => ⟨mk 51 [(0, .slc 0 1 p1 p2 none), (5, .slc 1 1 0 y.1.length none), (6, .d (eI y.2))], [.row 1 (List.map eU8 p0) true, .row 1 (List.map eU8 y.1) true]⟩) ?_ ?_
      · intro u4_310 h4 h3
        refine SC.blk ?_
        refine SC.seq ?_
        refine SC.seq ?_
        refine SC.region ?_
        refine SO.op (Wanted.free rfl) rfl (A_move (v := .slc 0 1 p1 p2 none) rfl rfl) ?_
        refine SO.op (Wanted.free rfl) rfl (A_move (v := .d (eI y268)) rfl rfl) ?_
        obtain ⟨v311, hv311, h4⟩ := ob h4
        refine SO.op (Wanted.free rfl) rfl (A_indexAddr (v := .ref 0 (p1 + y268.toNat) 0) rfl rfl rfl (ia_slc un51 ts5 (getS_some hv311).1)) ?_
        refine SO.op (Wanted.free rfl) rfl (A_load (v := .d (eU8 v311)) rfl rfl (ld_row ts5 ta5 rfl (map_get (getS_some hv311).2) rfl)) ?_
        refine SO.op (Wanted.free rfl) rfl (A_bin (v := .d (eB (v311 != (0 : UInt8)))) rfl rfl rfl (fun X Y => b_u8_neq _ X Y v311 (0 : UInt8))) ?_
        refine SO.nil ?_
        change SC _ _ _ _ _
        refine SC.condB (t := (v311 != (0 : UInt8))) rfl (fun hb312 => ?_) (fun hb312 => ?_)
        · replace h4 := ct hb312 h4
          refine SC.seq ?_
          refine SC.region ?_
          refine SO.op (Wanted.free rfl) rfl (A_move (v := .slc 1 1 0 y267.length none) rfl rfl) ?_
          refine SO.op (Wanted.free rfl) rfl (A_move (v := .slc 0 1 p1 p2 none) rfl rfl) ?_
          refine SO.op (Wanted.free rfl) rfl (A_move (v := .d (eI y268)) rfl rfl) ?_
          obtain ⟨v313, hv313, h4⟩ := ob h4
          refine SO.op (Wanted.free rfl) rfl (A_indexAddr (v := .ref 0 (p1 + y268.toNat) 0) rfl rfl rfl (ia_slc un51 ts5 (getS_some hv313).1)) ?_
          refine SO.op (Wanted.free rfl) rfl (A_load (v := .d (eU8 v313)) rfl rfl (ld_row ts5 ta5 rfl (map_get (getS_some hv313).2) rfl)) ?_
          refine SO.opW (v' := .slc 2 1 0 ([v313].length) none) (Wanted.free rfl) rfl (A_buildSlice (v := .slc 2 1 0 1 (some 1)) (σ' := [.row 1 (List.map eU8 p0) true, .row 1 (List.map eU8 y267) true, .row 1 (List.map eU8 [v313]) true]) rfl rfl (bsl un51 ei5 (by decide) rfl (by rfl) rfl rfl)) (AW.slcc rfl rfl) ?_
          obtain ⟨hg314, h4⟩ := gd h4
          refine SO.op (Wanted.free rfl) rfl (A_append (v := .slc 3 1 0 ((y267 ++ [v313]).length) none) (σ' := [.row 1 (List.map eU8 p0) true, .dead, .row 1 (List.map eU8 [v313]) true, .row 1 (List.map eU8 (y267 ++ [v313])) true]) rfl rfl rfl rfl rfl bc51 (ApFull (f := eU8) (xs := y267) (ys := [v313]) rfl un51 ei5 rfl (el_full (xs := [v313]) rfl) hg314 rfl rfl)) ?_
          refine SO.op (Wanted.free rfl) rfl (A_assign (v := .slc 3 1 0 ((y267 ++ [v313]).length) none) rfl rfl) ?_
          refine SO.nil ?_
          change SC _ _ _ _ _
          refine SC.exit ?_
          have q := Option.some.inj h4; subst q
          exact lf (Wk.trans (Wk.env (e' := [(0, .slc 0 1 p1 p2 none), (5, .slc 3 1 0 ((y267 ++ [v313]).length) none), (6, .d (eI y268))]) (EW.cons (AW.refl _) (EW.cons (AW.refl _) (EW.cons (AW.refl _) EW.nil)))) (Wk.canon (ι := [0, 3]) (roots := [0, 0, 3]) (os := [.row 1 (List.map eU8 p0) true, .row 1 (List.map eU8 (y267 ++ [v313])) true]) (e' := [(0, .slc 0 1 p1 p2 none), (5, .slc 1 1 0 ((y267 ++ [v313]).length) none), (6, .d (eI y268))]) rfl rfl rfl))
        · replace h4 := cf hb312 h4
          refine SC.skip ?_
          change SC _ _ _ _ _
          refine SC.seq ?_
          refine SC.region ?_
          refine SO.op (Wanted.free rfl) rfl (A_move (v := .d (eI y268)) rfl rfl) ?_
          refine SO.op (Wanted.free rfl) rfl (A_bin (v := .d (eI (w64 (y268 + (1 : Int))))) rfl rfl rfl (fun X Y => b_i64_add _ X Y y268 (1 : Int))) ?_
          refine SO.op (Wanted.free rfl) rfl (A_assign (v := .d (eI (w64 (y268 + (1 : Int))))) rfl rfl) ?_
          refine SO.nil ?_
          change SC _ _ _ _ _
          refine SC.seq ?_
          refine SC.blk ?_
          refine SC.seq ?_
          refine SC.region ?_
          refine SO.op (Wanted.free rfl) rfl (A_move (v := .d (eI (w64 (y268 + (1 : Int))))) rfl rfl) ?_
          refine SO.op (Wanted.free rfl) rfl (A_move (v := .slc 0 1 p1 p2 none) rfl rfl) ?_
          refine SO.op (Wanted.free rfl) rfl (A_len (v := .d (eI (p2 : Int))) rfl rfl rfl rfl (len_slc un51)) ?_
          refine SO.op (Wanted.free rfl) rfl (A_bin (v := .d (eB ((w64 (y268 + (1 : Int))) == (p2 : Int)))) rfl rfl rfl (fun X Y => b_i64_eql _ X Y (w64 (y268 + (1 : Int))) (p2 : Int))) ?_
          refine SO.op (Wanted.free rfl) rfl (A_assign (v := .d (eB ((w64 (y268 + (1 : Int))) == (p2 : Int)))) rfl rfl) ?_
          refine SO.nil ?_
          change SC _ _ _ _ _
          refine SC.condB (t := ((w64 (y268 + (1 : Int))) == (p2 : Int))) rfl (fun hb315 => ?_) (fun hb315 => ?_)
          · replace h4 := ct hb315 h4
            refine SC.seq ?_
            refine SC.region ?_
            refine SO.op (Wanted.free rfl) rfl (A_assign (v := .d (eS ([] : List UInt8))) rfl rfl) ?_
            refine SO.op (Wanted.free rfl) rfl (A_assign (v := .d (eI (0 : Int))) rfl rfl) ?_
            refine SO.op (Wanted.free rfl) rfl (A_assign (v := .d (eB false)) rfl rfl) ?_
            refine SO.nil ?_
            change SC _ _ _ _ _
            refine SC.ret ?_
            have q := Option.some.inj h4; subst q
            have q := Option.some.inj h3; subst q
            have q : _ = _ := hv3; subst q
            have q := Option.some.inj h1; subst q
            have q := Option.some.inj h0; subst q
            exact finR (Wk.trans (Wk.env (e' := [(2, .d (eS ([] : List UInt8))), (3, .d (eI (0 : Int))), (4, .d (eB false))]) (EW.cons (AW.refl _) (EW.cons (AW.refl _) (EW.cons (AW.refl _) EW.nil)))) (Wk.canon (ι := [0]) (roots := [0]) (os := [.row 1 (List.map eU8 p0) true]) (e' := [(2, .d (eS ([] : List UInt8))), (3, .d (eI (0 : Int))), (4, .d (eB false))]) rfl rfl rfl)) (lresT rfl (lresT rfl (lresT rfl lresN))) rfl
          · replace h4 := cf hb315 h4
            refine SC.seq ?_
            refine SC.region ?_
            refine SO.op (Wanted.free rfl) rfl (A_move (v := .slc 0 1 p1 p2 none) rfl rfl) ?_
            refine SO.op (Wanted.free rfl) rfl (A_move (v := .d (eI (w64 (y268 + (1 : Int))))) rfl rfl) ?_
            obtain ⟨v316, hv316, h4⟩ := ob h4
            refine SO.op (Wanted.free rfl) rfl (A_indexAddr (v := .ref 0 (p1 + (w64 (y268 + (1 : Int))).toNat) 0) rfl rfl rfl (ia_slc un51 ts5 (getS_some hv316).1)) ?_
            refine SO.op (Wanted.free rfl) rfl (A_load (v := .d (eU8 v316)) rfl rfl (ld_row ts5 ta5 rfl (map_get (getS_some hv316).2) rfl)) ?_
            refine SO.op (Wanted.free rfl) rfl (A_bin (v := .d (eB (v316 == (0 : UInt8)))) rfl rfl rfl (fun X Y => b_u8_eql _ X Y v316 (0 : UInt8))) ?_
            refine SO.op (Wanted.free rfl) rfl (A_assign (v := .d (eB (v316 == (0 : UInt8)))) rfl rfl) ?_
            refine SO.nil ?_
            change SC _ _ _ _ _
            refine SC.condB (t := (v316 == (0 : UInt8))) rfl (fun hb317 => ?_) (fun hb317 => ?_)
            · replace h4 := ct hb317 h4
              refine SC.seq ?_
              refine SC.region ?_
              refine SO.op (Wanted.free rfl) rfl (A_move (v := .slc 1 1 0 y267.length none) rfl rfl) ?_
              refine SO.op (Wanted.free rfl) rfl (A_conv (v := .d (eS y267)) rfl rfl (cv_bytes_str un51 un9 un5 (el_full (xs := y267) rfl) (fun _ hh => by cases hh))) ?_
              refine SO.op (Wanted.free rfl) rfl (A_move (v := .d (eI (w64 (y268 + (1 : Int))))) rfl rfl) ?_
              refine SO.op (Wanted.free rfl) rfl (A_bin (v := .d (eI (w64 ((w64 (y268 + (1 : Int))) + (1 : Int))))) rfl rfl rfl (fun X Y => b_i64_add _ X Y (w64 (y268 + (1 : Int))) (1 : Int))) ?_
              refine SO.op (Wanted.free rfl) rfl (A_assign (v := .d (eS y267)) rfl rfl) ?_
              refine SO.op (Wanted.free rfl) rfl (A_assign (v := .d (eI (w64 ((w64 (y268 + (1 : Int))) + (1 : Int))))) rfl rfl) ?_
              refine SO.op (Wanted.free rfl) rfl (A_assign (v := .d (eB true)) rfl rfl) ?_
              refine SO.nil ?_
              change SC _ _ _ _ _
              refine SC.ret ?_
              have q := Option.some.inj h4; subst q
              have q := Option.some.inj h3; subst q
              have q : _ = _ := hv3; subst q
              have q := Option.some.inj h1; subst q
              have q := Option.some.inj h0; subst q
              exact finR (Wk.trans (Wk.env (e' := [(2, .d (eS y267)), (3, .d (eI (w64 ((w64 (y268 + (1 : Int))) + (1 : Int))))), (4, .d (eB true))]) (EW.cons (AW.refl _) (EW.cons (AW.refl _) (EW.cons (AW.refl _) EW.nil)))) (Wk.canon (ι := [0]) (roots := [0]) (os := [.row 1 (List.map eU8 p0) true]) (e' := [(2, .d (eS y267)), (3, .d (eI (w64 ((w64 (y268 + (1 : Int))) + (1 : Int))))), (4, .d (eB true))]) rfl rfl rfl)) (lresT rfl (lresT rfl (lresT rfl lresN))) rfl
            · replace h4 := cf hb317 h4
              refine SC.seq ?_
              refine SC.region ?_
              refine SO.op (Wanted.free rfl) rfl (A_move (v := .slc 0 1 p1 p2 none) rfl rfl) ?_
              refine SO.op (Wanted.free rfl) rfl (A_move (v := .d (eI (w64 (y268 + (1 : Int))))) rfl rfl) ?_
              obtain ⟨v318, hv318, h4⟩ := ob h4
              refine SO.op (Wanted.free rfl) rfl (A_indexAddr (v := .ref 0 (p1 + (w64 (y268 + (1 : Int))).toNat) 0) rfl rfl rfl (ia_slc un51 ts5 (getS_some hv318).1)) ?_
              refine SO.op (Wanted.free rfl) rfl (A_load (v := .d (eU8 v318)) rfl rfl (ld_row ts5 ta5 rfl (map_get (getS_some hv318).2) rfl)) ?_
              refine SO.op (Wanted.free rfl) rfl (A_bin (v := .d (eB (v318 != (255 : UInt8)))) rfl rfl rfl (fun X Y => b_u8_neq _ X Y v318 (255 : UInt8))) ?_
              refine SO.op (Wanted.free rfl) rfl (A_assign (v := .d (eB (v318 != (255 : UInt8)))) rfl rfl) ?_
              refine SO.nil ?_
              change SC _ _ _ _ _
              refine SC.condB (t := (v318 != (255 : UInt8))) rfl (fun hb319 => ?_) (fun hb319 => ?_)
              · replace h4 := ct hb319 h4
                refine SC.seq ?_
                refine SC.region ?_
                refine SO.op (Wanted.free rfl) rfl (A_assign (v := .d (eS ([] : List UInt8))) rfl rfl) ?_
                refine SO.op (Wanted.free rfl) rfl (A_assign (v := .d (eI (0 : Int))) rfl rfl) ?_
                refine SO.op (Wanted.free rfl) rfl (A_assign (v := .d (eB false)) rfl rfl) ?_
                refine SO.nil ?_
                change SC _ _ _ _ _
                refine SC.ret ?_
                have q := Option.some.inj h4; subst q
                have q := Option.some.inj h3; subst q
                have q : _ = _ := hv3; subst q
                have q := Option.some.inj h1; subst q
                have q := Option.some.inj h0; subst q
                exact finR (Wk.trans (Wk.env (e' := [(2, .d (eS ([] : List UInt8))), (3, .d (eI (0 : Int))), (4, .d (eB false))]) (EW.cons (AW.refl _) (EW.cons (AW.refl _) (EW.cons (AW.refl _) EW.nil)))) (Wk.canon (ι := [0]) (roots := [0]) (os := [.row 1 (List.map eU8 p0) true]) (e' := [(2, .d (eS ([] : List UInt8))), (3, .d (eI (0 : Int))), (4, .d (eB false))]) rfl rfl rfl)) (lresT rfl (lresT rfl (lresT rfl lresN))) rfl
              · replace h4 := cf hb319 h4
                refine SC.skip ?_
                change SC _ _ _ _ _
                refine SC.region ?_
                refine SO.op (Wanted.free rfl) rfl (A_move (v := .slc 1 1 0 y267.length none) rfl rfl) ?_
                refine SO.opW (v' := .slc 2 1 0 ([(0 : UInt8)].length) none) (Wanted.free rfl) rfl (A_buildSlice (v := .slc 2 1 0 1 (some 1)) (σ' := [.row 1 (List.map eU8 p0) true, .row 1 (List.map eU8 y267) true, .row 1 (List.map eU8 [(0 : UInt8)]) true]) rfl rfl (bsl un51 ei5 (by decide) rfl (by rfl) rfl rfl)) (AW.slcc rfl rfl) ?_
                obtain ⟨hg320, h4⟩ := gd h4
                refine SO.op (Wanted.free rfl) rfl (A_append (v := .slc 3 1 0 ((y267 ++ [(0 : UInt8)]).length) none) (σ' := [.row 1 (List.map eU8 p0) true, .dead, .row 1 (List.map eU8 [(0 : UInt8)]) true, .row 1 (List.map eU8 (y267 ++ [(0 : UInt8)])) true]) rfl rfl rfl rfl rfl bc51 (ApFull (f := eU8) (xs := y267) (ys := [(0 : UInt8)]) rfl un51 ei5 rfl (el_full (xs := [(0 : UInt8)]) rfl) hg320 rfl rfl)) ?_
                refine SO.op (Wanted.free rfl) rfl (A_assign (v := .slc 3 1 0 ((y267 ++ [(0 : UInt8)]).length) none) rfl rfl) ?_
                refine SO.nil ?_
                have q := Option.some.inj h4; subst q
                exact lf (Wk.trans (Wk.env (e' := [(0, .slc 0 1 p1 p2 none), (5, .slc 3 1 0 ((y267 ++ [(0 : UInt8)]).length) none), (6, .d (eI (w64 (y268 + (1 : Int)))))]) (EW.cons (AW.refl _) (EW.cons (AW.refl _) (EW.cons (AW.refl _) EW.nil)))) (Wk.canon (ι := [0, 3]) (roots := [0, 0, 3]) (os := [.row 1 (List.map eU8 p0) true, .row 1 (List.map eU8 (y267 ++ [(0 : UInt8)])) true]) (e' := [(0, .slc 0 1 p1 p2 none), (5, .slc 1 1 0 ((y267 ++ [(0 : UInt8)]).length) none), (6, .d (eI (w64 (y268 + (1 : Int)))))]) rfl rfl rfl))
      · rintro ⟨y308, y309⟩ h3
        change SC _ _ _ ⟨mk 51 [(0, .slc 0 1 p1 p2 none), (5, .slc 1 1 0 y308.length none), (6, .d (eI y309))], [.row 1 (List.map eU8 p0) true, .row 1 (List.map eU8 y308) true]⟩ _
        refine SC.region ?_
        refine SO.op (Wanted.free rfl) rfl (A_move (v := .d (eI y309)) rfl rfl) ?_
        refine SO.op (Wanted.free rfl) rfl (A_bin (v := .d (eI (w64 (y309 + (1 : Int))))) rfl rfl rfl (fun X Y => b_i64_add _ X Y y309 (1 : Int))) ?_
        refine SO.op (Wanted.free rfl) rfl (A_assign (v := .d (eI (w64 (y309 + (1 : Int))))) rfl rfl) ?_
        refine SO.nil ?_
        have q := Option.some.inj h3; subst q
        exact lf (Wk.env (e' := [(0, .slc 0 1 p1 p2 none), (5, .slc 1 1 0 y308.length none), (6, .d (eI (w64 (y309 + (1 : Int)))))]) (EW.cons (AW.refl _) (EW.cons (AW.refl _) (EW.cons (AW.refl _) EW.nil))))
    · replace h3 := cf hb297 h3
      refine SC.exit ?_
      have q := Option.some.inj h3; subst q
      have q : _ = _ := hv3; subst q
      have q := Option.some.inj h1; subst q
      exact lf (Wk.trans (Wk.env (e' := []) EW.nil) (Wk.canon (ι := [0]) (roots := [0]) (os := [.row 1 (List.map eU8 p0) true]) (e' := []) rfl rfl rfl))
  · intro _ h0
    change SC _ _ _ ⟨mk 51 [], [.row 1 (List.map eU8 p0) true]⟩ _
    refine SC.seq ?_
    refine SC.region ?_
    refine SO.op (Wanted.free rfl) rfl (A_assign (v := .d (eS ([] : List UInt8))) rfl rfl) ?_
    refine SO.op (Wanted.free rfl) rfl (A_assign (v := .d (eI (0 : Int))) rfl rfl) ?_
    refine SO.op (Wanted.free rfl) rfl (A_assign (v := .d (eB false)) rfl rfl) ?_
    refine SO.nil ?_
    change SC _ _ _ _ _
    refine SC.ret ?_
    have q := Option.some.inj h0; subst q
    exact finR (Wk.env (e' := [(2, .d (eS ([] : List UInt8))), (3, .d (eI (0 : Int))), (4, .d (eB false))]) (EW.cons (AW.refl _) (EW.cons (AW.refl _) (EW.cons (AW.refl _) EW.nil)))) (lresT rfl (lresT rfl (lresT rfl lresN))) rfl

/-- (*granary/pack.In).Left -/
noncomputable def pack_In_Left (p0 : List UInt8) (p1 : Nat) (p2 : Nat) (p3 : Bool) : Option Unit :=
  some ()
theorem pack_In_Left_ok (p0 : List UInt8) (p1 : Nat) (p2 : Nat) (p3 : Bool) (r : Unit) (h0 : pack_In_Left p0 p1 p2 p3 = some r) : CallAt Tryd.prog 53 [.ref 0 0 0] [.box (.agg [.slc 1 1 p1 p2 none, .d (eB p3)]), .row 1 (List.map eU8 p0) true] (.d (eI (p2 : Int))) [.box (.agg [.slc 1 1 p1 p2 none, .d (eB p3)]), .row 1 (List.map eU8 p0) true] := by
  unfold pack_In_Left at h0
  refine CallAt.of Tryd.func53 rfl ?_
  refine SC.post (Q' := fun e s => ∃ s1, Wk _ s s1 ∧ Fin _ _ _ _ e s1) ?_ (fun _ _ h => h)
  refine SC.wk (s1 := ⟨mk 10 [(0, .ref 0 0 0)], [.box (.agg [.slc 1 1 p1 p2 none, .d (eB p3)]), .row 1 (List.map eU8 p0) true]⟩) (Wk.begin (n := 10) (Nat.le_of_ble_eq_true rfl)) ?_
  refine SC.seq ?_
  refine SC.region ?_
  refine SO.op (Wanted.free rfl) rfl (A_assign (v := .d (eI (0 : Int))) rfl rfl) ?_
  refine SO.nil ?_
  change SC _ _ _ _ _
  refine SC.seq ?_
  refine SC.seq ?_
  refine SC.region ?_
  refine SO.op (Wanted.free rfl) rfl (A_move (v := .ref 0 0 0) rfl rfl) ?_
  refine SO.op (Wanted.free rfl) rfl (A_bin (v := .d (eB false)) rfl rfl rfl (fun _ _ => nil_eql un71)) ?_
  refine SO.nil ?_
  change SC _ _ _ _ _
  refine SC.condF rfl ?_
  refine SC.skip ?_
  change SC _ _ _ _ _
  refine SC.seq ?_
  refine SC.region ?_
  refine SO.op (Wanted.free rfl) rfl (A_move (v := .ref 0 0 0) rfl rfl) ?_
  refine SO.op (Wanted.free rfl) rfl (A_nilRef rfl rfl) ?_
  refine SO.op (Wanted.free rfl) rfl (A_fieldAddr rfl rfl (fa_ref fo103_0 ts51 rfl)) ?_
  refine SO.op (Wanted.free rfl) rfl (A_load (v := .slc 1 1 p1 p2 none) rfl rfl (ld_box ts51 ta51 rfl rfl)) ?_
  refine SO.op (Wanted.free rfl) rfl (A_len (v := .d (eI (p2 : Int))) rfl rfl rfl rfl (len_slc un51)) ?_
  refine SO.op (Wanted.free rfl) rfl (A_assign (v := .d (eI (p2 : Int))) rfl rfl) ?_
  refine SO.nil ?_
  change SC _ _ _ _ _
  refine SC.ret ?_
  have q := Option.some.inj h0; subst q
  exact finR (Wk.env (e' := [(2, .d (eI (p2 : Int)))]) (EW.cons (AW.refl _) EW.nil)) (lresT rfl lresN) rfl

/-- granary/key.take -/
noncomputable def key_take (p0 : Int) (p1 : List UInt8) : Option (Int × Bool × ApiValue) :=
  Option.bind (pack_To p1) fun _ =>
  Option.bind (pack_In_Flag p1 false) fun (r92, r93, r94, r95) =>
  bif (!r92) then
    Option.bind (pack_In_Bad p1 r93 r94 r95) fun _ =>
    some ((1 : Int), (!r95), (ApiValue.mk (0 : Int) (0 : UInt64) ([] : List UInt8)))
  else
    bindE (Y := Nat × Nat × Bool × ApiValue) (E := Int × Bool × ApiValue)
      (bif (p0 == (1 : Int)) then
        Option.bind (pack_In_U64 p1 r93 r94 r95) fun (r136, r137, r138, r139) =>
        some (Sum.inl (r137, r138, r139, (ApiValue.mk p0 (r136 ^^^ (9223372036854775808 : UInt64)) ([] : List UInt8))))
      else
        bif (p0 == (2 : Int)) then
          Option.bind (pack_In_U64 p1 r93 r94 r95) fun (r142, r143, r144, r145) =>
          some (Sum.inl (r143, r144, r145, (ApiValue.mk p0 r142 ([] : List UInt8))))
        else
          bif (p0 == (3 : Int)) then
            Option.bind (pack_In_U8 p1 r93 r94 r95) fun (r148, r149, r150, r151) =>
            some (Sum.inl (r149, r150, r151, (ApiValue.mk p0 (r148.toUInt64) ([] : List UInt8))))
          else
            bif decide (0 ≤ (1 : Int) ∧ (1 : Int) ≤ (p1.length : Int)) then
            Option.bind (key_long p1 (0 + (1 : Int).toNat) (p1.length - (1 : Int).toNat)) fun (r154, r155, r156) =>
            Option.bind (α := Bool)
              (bif r156 then
                Option.bind (value_Valid (ApiValue.mk p0 (0 : UInt64) r154)) fun r164 =>
                some r164
              else
                some false)
              fun y161 =>
            some (Sum.inr ((w64 ((1 : Int) + r155)), y161, (ApiValue.mk p0 (0 : UInt64) r154)))
            else none)
      (fun (y130, y131, y132, y133) =>
        Option.bind (α := Bool)
          (Option.bind (pack_In_Left p1 y130 y131 y132) fun _ =>
          Option.bind (pack_In_Bad p1 y130 y131 y132) fun _ =>
          bif (!y132) then
            Option.bind (value_Valid y133) fun r176 =>
            some r176
          else
            some false)
          fun y171 =>
        some ((w64 ((p1.length : Int) - (y131 : Int))), y171, y133))
      (fun e => some e)
theorem key_take_ok (p0 : Int) (p1 : List UInt8) (r : Int × Bool × ApiValue) (h0 : key_take p0 p1 = some r) : CallAt Tryd.prog 34 [.d (eI p0), .slc 0 1 0 p1.length none] [.row 1 (List.map eU8 p1) true] (.tuple [.d (eApiValue r.2.2), .d (eI r.1), .d (eB r.2.1)]) [.row 1 (List.map eU8 p1) true, .box (.d (eApiValue r.2.2))] := by
  unfold key_take at h0
  refine CallAt.of Tryd.func34 rfl ?_
  refine SC.post (Q' := fun e s => ∃ s1, Wk _ s s1 ∧ Fin _ _ _ _ e s1) ?_ (fun _ _ h => h)
  refine SC.wk (s1 := ⟨mk 71 [(0, .d (eI p0)), (1, .slc 0 1 0 p1.length none)], [.row 1 (List.map eU8 p1) true]⟩) (Wk.begin (n := 71) (Nat.le_of_ble_eq_true rfl)) ?_
  refine SC.seq ?_
  refine SC.region ?_
  refine SO.op (Wanted.free rfl) rfl (A_alloc (σ' := [.row 1 (List.map eU8 p1) true, .box (.d (eApiValue (ApiValue.mk (0 : Int) (0 : UInt64) ([] : List UInt8))))]) rfl zo35 rfl rfl) ?_
  refine SO.op (Wanted.free rfl) rfl (A_assign (v := .d (eI (0 : Int))) rfl rfl) ?_
  refine SO.op (Wanted.free rfl) rfl (A_assign (v := .d (eB false)) rfl rfl) ?_
  refine SO.nil ?_
  change SC _ _ _ _ _
  refine SC.seq ?_
  refine SC.region ?_
  refine SO.op (Wanted.free rfl) rfl (A_move (v := .slc 0 1 0 p1.length none) rfl rfl) ?_
  obtain ⟨_, hq91, h0⟩ := ob h0
  refine SO.call (ι := [0]) (σc := [.row 1 (List.map eU8 p1) true]) (args' := [.slc 0 1 0 p1.length none]) (r' := .ref 1 0 0) (σ2 := [.row 1 (List.map eU8 p1) true, .box (.agg [.slc 2 1 0 p1.length none, .d (eB false)]), .row 1 (List.map eU8 p1) true]) (os := [.row 1 (List.map eU8 p1) true, .box (.agg [.slc 3 1 0 p1.length none, .d (eB false)]), .row 1 (List.map eU8 p1) true]) (r := .ref 2 0 0) (σ' := [.row 1 (List.map eU8 p1) true, .box (.d (eApiValue (ApiValue.mk (0 : Int) (0 : UInt64) ([] : List UInt8)))), .box (.agg [.slc 3 1 0 p1.length none, .d (eB false)]), .row 1 (List.map eU8 p1) true]) (Wanted.free rfl) rfl rfl rfl rfl rfl cb47 rfl rfl (pack_To_ok p1 _ hq91) rfl rfl (Nat.le_of_ble_eq_true rfl) rfl ?_
  refine SO.op (Wanted.free rfl) rfl (A_assign (v := .ref 2 0 0) rfl rfl) ?_
  refine SO.nil ?_
  change SC _ _ _ _ _
  refine SC.seq ?_
  refine SC.seq ?_
  refine SC.region ?_
  refine SO.op (Wanted.free rfl) rfl (A_move (v := .ref 2 0 0) rfl rfl) ?_
  obtain ⟨⟨r92, r93, r94, r95⟩, hq96, h0⟩ := ob h0
  refine SO.call (ι := [2, 3]) (σc := [.box (.agg [.slc 1 1 0 p1.length none, .d (eB false)]), .row 1 (List.map eU8 p1) true]) (args' := [.ref 0 0 0]) (r' := .d (eB r92)) (σ2 := [.box (.agg [.slc 1 1 r93 r94 none, .d (eB r95)]), .row 1 (List.map eU8 p1) true]) (os := [.box (.agg [.slc 3 1 r93 r94 none, .d (eB r95)]), .row 1 (List.map eU8 p1) true]) (r := .d (eB r92)) (σ' := [.row 1 (List.map eU8 p1) true, .box (.d (eApiValue (ApiValue.mk (0 : Int) (0 : UInt64) ([] : List UInt8)))), .box (.agg [.slc 3 1 r93 r94 none, .d (eB r95)]), .row 1 (List.map eU8 p1) true]) (Wanted.free rfl) rfl rfl rfl rfl rfl cb48 rfl rfl (pack_In_Flag_ok p1 false _ hq96) rfl rfl (Nat.le_of_ble_eq_true rfl) rfl ?_
  refine SO.op (Wanted.free rfl) rfl (A_un (v := .d (eB (!r92))) rfl rfl rfl rfl) ?_
  refine SO.nil ?_
  change SC _ _ _ _ _
  refine SC.condB (t := (!r92)) rfl (fun hb97 => ?_) (fun hb97 => ?_)
  · replace h0 := ct hb97 h0
    refine SC.seq ?_
    refine SC.region ?_
    refine SO.op (Wanted.free rfl) rfl (A_build (v := .d (eApiValue (ApiValue.mk (0 : Int) (0 : UInt64) ([] : List UInt8)))) rfl rfl (bd35_ )) ?_
    refine SO.op (Wanted.free rfl) rfl (A_move (v := .ref 2 0 0) rfl rfl) ?_
    obtain ⟨_, hq98, h0⟩ := ob h0
    refine SO.call (ι := [2, 3]) (σc := [.box (.agg [.slc 1 1 r93 r94 none, .d (eB r95)]), .row 1 (List.map eU8 p1) true]) (args' := [.ref 0 0 0]) (r' := .d (eB r95)) (σ2 := [.box (.agg [.slc 1 1 r93 r94 none, .d (eB r95)]), .row 1 (List.map eU8 p1) true]) (os := [.box (.agg [.slc 3 1 r93 r94 none, .d (eB r95)]), .row 1 (List.map eU8 p1) true]) (r := .d (eB r95)) (σ' := [.row 1 (List.map eU8 p1) true, .box (.d (eApiValue (ApiValue.mk (0 : Int) (0 : UInt64) ([] : List UInt8)))), .box (.agg [.slc 3 1 r93 r94 none, .d (eB r95)]), .row 1 (List.map eU8 p1) true]) (Wanted.free rfl) rfl rfl rfl rfl rfl cb49 rfl rfl (pack_In_Bad_ok p1 r93 r94 r95 _ hq98) rfl rfl (Nat.le_of_ble_eq_true rfl) rfl ?_
    refine SO.op (Wanted.free rfl) rfl (A_un (v := .d (eB (!r95))) rfl rfl rfl rfl) ?_
    refine SO.op0 (Wanted.free rfl) rfl (A_store (σ' := [.row 1 (List.map eU8 p1) true, .box (.d (eApiValue (ApiValue.mk (0 : Int) (0 : UInt64) ([] : List UInt8)))), .box (.agg [.slc 3 1 r93 r94 none, .d (eB r95)]), .row 1 (List.map eU8 p1) true]) rfl rfl rfl (st_box (zs := [.d (eI (0 : Int)), .d (eU64 (0 : UInt64)), .d (eS ([] : List UInt8))]) ts35 rfl rfl rfl rfl rfl (Nat.le_of_ble_eq_true rfl) rfl)) ?_
    refine SO.op (Wanted.free rfl) rfl (A_assign (v := .d (eI (1 : Int))) rfl rfl) ?_
    refine SO.op (Wanted.free rfl) rfl (A_assign (v := .d (eB (!r95))) rfl rfl) ?_
    refine SO.nil ?_
    change SC _ _ _ _ _
    refine SC.ret ?_
    have q := Option.some.inj h0; subst q
    exact finR (Wk.trans (Wk.env (e' := [(4, .ref 1 0 0), (5, .d (eI (1 : Int))), (6, .d (eB (!r95)))]) (EW.cons (AW.refl _) (EW.cons (AW.refl _) (EW.cons (AW.refl _) EW.nil)))) (Wk.canon (ι := [0, 1]) (roots := [0, 1]) (os := [.row 1 (List.map eU8 p1) true, .box (.d (eApiValue (ApiValue.mk (0 : Int) (0 : UInt64) ([] : List UInt8))))]) (e' := [(4, .ref 1 0 0), (5, .d (eI (1 : Int))), (6, .d (eB (!r95)))]) rfl rfl rfl)) (lresC rfl (ld_box ts35 ta35 rfl rfl) (lresT rfl (lresT rfl lresN))) rfl
  · replace h0 := cf hb97 h0
    refine SC.skip ?_
    change SC _ _ _ _ _
    refine SC.seq ?_
    refine SC.region ?_
    refine SO.op (Wanted.free rfl) rfl (A_move (v := .d (eI p0)) rfl rfl) ?_
    refine SO.op (Wanted.free rfl) rfl (A_build (v := .d (eApiValue (ApiValue.mk p0 (0 : UInt64) ([] : List UInt8)))) rfl rfl (bd35_0 p0)) ?_
    refine SO.op (Wanted.free rfl) rfl (A_alloc (σ' := [.row 1 (List.map eU8 p1) true, .box (.d (eApiValue (ApiValue.mk (0 : Int) (0 : UInt64) ([] : List UInt8)))), .box (.agg [.slc 3 1 r93 r94 none, .d (eB r95)]), .row 1 (List.map eU8 p1) true, .box (.d (eApiValue (ApiValue.mk (0 : Int) (0 : UInt64) ([] : List UInt8))))]) rfl zo35 rfl rfl) ?_
    refine SO.op0 (Wanted.free rfl) rfl (A_store (σ' := [.row 1 (List.map eU8 p1) true, .box (.d (eApiValue (ApiValue.mk (0 : Int) (0 : UInt64) ([] : List UInt8)))), .box (.agg [.slc 3 1 r93 r94 none, .d (eB r95)]), .row 1 (List.map eU8 p1) true, .box (.d (eApiValue (ApiValue.mk p0 (0 : UInt64) ([] : List UInt8))))]) rfl rfl rfl (st_box (zs := [.d (eI p0), .d (eU64 (0 : UInt64)), .d (eS ([] : List UInt8))]) ts35 rfl rfl rfl rfl rfl (Nat.le_of_ble_eq_true rfl) rfl)) ?_
    refine SO.nil ?_
    change SC _ _ _ _ _
    refine SC.seqB h0 (fun y => ⟨mk 71 [(1, .slc 0 1 0 p1.length none), (4, .ref 1 0 0), (7, .ref 2 0 0), (8, .ref 3 0 0)], [.row 1 (List.map eU8 p1) true, .box (.d (eApiValue (ApiValue.mk (0 : Int) (0 : UInt64) ([] : List UInt8)))), .box (.agg [.slc 4 1 y.1 y.2.1 none, .d (eB y.2.2.1)]), .box (.d (eApiValue y.2.2.2)), .row 1 (List.map eU8 p1) true]⟩) ?_ ?_
    · intro u1_134 h1 h0
      refine SC.seq ?_
      refine SC.region ?_
      refine SO.op (Wanted.free rfl) rfl (A_move (v := .d (eI p0)) rfl rfl) ?_
      refine SO.nil ?_
      change SC _ _ _ _ _
      refine SC.blk ?_
      refine SC.seq ?_
      refine SC.region ?_
      refine SO.op (Wanted.free rfl) rfl (A_bin (v := .d (eB (p0 == (1 : Int)))) rfl rfl rfl (fun X Y => b_i64_eql _ X Y p0 (1 : Int))) ?_
      refine SO.op (Wanted.free rfl) rfl (A_assign (v := .d (eB (p0 == (1 : Int)))) rfl rfl) ?_
      refine SO.nil ?_
      change SC _ _ _ _ _
      refine SC.condB (t := (p0 == (1 : Int))) rfl (fun hb135 => ?_) (fun hb135 => ?_)
      · replace h1 := ct hb135 h1
        refine SC.region ?_
        refine SO.op (Wanted.free rfl) rfl (A_move (v := .ref 2 0 0) rfl rfl) ?_
        obtain ⟨⟨r136, r137, r138, r139⟩, hq140, h1⟩ := ob h1
        refine SO.call (ι := [2, 3]) (σc := [.box (.agg [.slc 1 1 r93 r94 none, .d (eB r95)]), .row 1 (List.map eU8 p1) true]) (args' := [.ref 0 0 0]) (r' := .d (eU64 r136)) (σ2 := [.box (.agg [.slc 1 1 r137 r138 none, .d (eB r139)]), .row 1 (List.map eU8 p1) true]) (os := [.box (.agg [.slc 3 1 r137 r138 none, .d (eB r139)]), .row 1 (List.map eU8 p1) true]) (r := .d (eU64 r136)) (σ' := [.row 1 (List.map eU8 p1) true, .box (.d (eApiValue (ApiValue.mk (0 : Int) (0 : UInt64) ([] : List UInt8)))), .box (.agg [.slc 3 1 r137 r138 none, .d (eB r139)]), .row 1 (List.map eU8 p1) true, .box (.d (eApiValue (ApiValue.mk p0 (0 : UInt64) ([] : List UInt8))))]) (Wanted.free rfl) rfl rfl rfl rfl rfl cb50 rfl rfl (pack_In_U64_ok p1 r93 r94 r95 _ hq140) rfl rfl (Nat.le_of_ble_eq_true rfl) rfl ?_
        refine SO.op (Wanted.free rfl) rfl (A_bin (v := .d (eU64 (r136 ^^^ (9223372036854775808 : UInt64)))) rfl rfl rfl (fun X Y => b_u64_xor _ X Y r136 (9223372036854775808 : UInt64))) ?_
        refine SO.op (Wanted.free rfl) rfl (A_fieldAddr rfl rfl (fa_ref fo35_1 ts33 rfl)) ?_
        refine SO.op0 (Wanted.free rfl) rfl (A_store (σ' := [.row 1 (List.map eU8 p1) true, .box (.d (eApiValue (ApiValue.mk (0 : Int) (0 : UInt64) ([] : List UInt8)))), .box (.agg [.slc 3 1 r137 r138 none, .d (eB r139)]), .row 1 (List.map eU8 p1) true, .box (.d (eApiValue (ApiValue.mk p0 (r136 ^^^ (9223372036854775808 : UInt64)) ([] : List UInt8))))]) rfl rfl rfl (st_box (zs := [.d (eU64 (r136 ^^^ (9223372036854775808 : UInt64)))]) ts33 rfl rfl rfl rfl rfl (Nat.le_of_ble_eq_true rfl) rfl)) ?_
        refine SO.nil ?_
        have q := Option.some.inj h1; subst q
        exact lf (Wk.trans (Wk.env (e' := [(1, .slc 0 1 0 p1.length none), (4, .ref 1 0 0), (7, .ref 2 0 0), (8, .ref 4 0 0)]) (EW.cons (AW.refl _) (EW.cons (AW.refl _) (EW.cons (AW.refl _) (EW.cons (AW.refl _) EW.nil))))) (Wk.canon (ι := [0, 1, 2, 4, 3]) (roots := [0, 0, 1, 2, 4]) (os := [.row 1 (List.map eU8 p1) true, .box (.d (eApiValue (ApiValue.mk (0 : Int) (0 : UInt64) ([] : List UInt8)))), .box (.agg [.slc 4 1 r137 r138 none, .d (eB r139)]), .box (.d (eApiValue (ApiValue.mk p0 (r136 ^^^ (9223372036854775808 : UInt64)) ([] : List UInt8)))), .row 1 (List.map eU8 p1) true]) (e' := [(1, .slc 0 1 0 p1.length none), (4, .ref 1 0 0), (7, .ref 2 0 0), (8, .ref 3 0 0)]) rfl rfl rfl))
      · replace h1 := cf hb135 h1
        refine SC.seq ?_
        refine SC.region ?_
        refine SO.op (Wanted.free rfl) rfl (A_bin (v := .d (eB (p0 == (2 : Int)))) rfl rfl rfl (fun X Y => b_i64_eql _ X Y p0 (2 : Int))) ?_
        refine SO.op (Wanted.free rfl) rfl (A_assign (v := .d (eB (p0 == (2 : Int)))) rfl rfl) ?_
        refine SO.nil ?_
        change SC _ _ _ _ _
        refine SC.condB (t := (p0 == (2 : Int))) rfl (fun hb141 => ?_) (fun hb141 => ?_)
        · replace h1 := ct hb141 h1
          refine SC.region ?_
          refine SO.op (Wanted.free rfl) rfl (A_move (v := .ref 2 0 0) rfl rfl) ?_
          obtain ⟨⟨r142, r143, r144, r145⟩, hq146, h1⟩ := ob h1
          refine SO.call (ι := [2, 3]) (σc := [.box (.agg [.slc 1 1 r93 r94 none, .d (eB r95)]), .row 1 (List.map eU8 p1) true]) (args' := [.ref 0 0 0]) (r' := .d (eU64 r142)) (σ2 := [.box (.agg [.slc 1 1 r143 r144 none, .d (eB r145)]), .row 1 (List.map eU8 p1) true]) (os := [.box (.agg [.slc 3 1 r143 r144 none, .d (eB r145)]), .row 1 (List.map eU8 p1) true]) (r := .d (eU64 r142)) (σ' := [.row 1 (List.map eU8 p1) true, .box (.d (eApiValue (ApiValue.mk (0 : Int) (0 : UInt64) ([] : List UInt8)))), .box (.agg [.slc 3 1 r143 r144 none, .d (eB r145)]), .row 1 (List.map eU8 p1) true, .box (.d (eApiValue (ApiValue.mk p0 (0 : UInt64) ([] : List UInt8))))]) (Wanted.free rfl) rfl rfl rfl rfl rfl cb50 rfl rfl (pack_In_U64_ok p1 r93 r94 r95 _ hq146) rfl rfl (Nat.le_of_ble_eq_true rfl) rfl ?_
          refine SO.op (Wanted.free rfl) rfl (A_fieldAddr rfl rfl (fa_ref fo35_1 ts33 rfl)) ?_
          refine SO.op0 (Wanted.free rfl) rfl (A_store (σ' := [.row 1 (List.map eU8 p1) true, .box (.d (eApiValue (ApiValue.mk (0 : Int) (0 : UInt64) ([] : List UInt8)))), .box (.agg [.slc 3 1 r143 r144 none, .d (eB r145)]), .row 1 (List.map eU8 p1) true, .box (.d (eApiValue (ApiValue.mk p0 r142 ([] : List UInt8))))]) rfl rfl rfl (st_box (zs := [.d (eU64 r142)]) ts33 rfl rfl rfl rfl rfl (Nat.le_of_ble_eq_true rfl) rfl)) ?_
          refine SO.nil ?_
          have q := Option.some.inj h1; subst q
          exact lf (Wk.trans (Wk.env (e' := [(1, .slc 0 1 0 p1.length none), (4, .ref 1 0 0), (7, .ref 2 0 0), (8, .ref 4 0 0)]) (EW.cons (AW.refl _) (EW.cons (AW.refl _) (EW.cons (AW.refl _) (EW.cons (AW.refl _) EW.nil))))) (Wk.canon (ι := [0, 1, 2, 4, 3]) (roots := [0, 0, 1, 2, 4]) (os := [.row 1 (List.map eU8 p1) true, .box (.d (eApiValue (ApiValue.mk (0 : Int) (0 : UInt64) ([] : List UInt8)))), .box (.agg [.slc 4 1 r143 r144 none, .d (eB r145)]), .box (.d (eApiValue (ApiValue.mk p0 r142 ([] : List UInt8)))), .row 1 (List.map eU8 p1) true]) (e' := [(1, .slc 0 1 0 p1.length none), (4, .ref 1 0 0), (7, .ref 2 0 0), (8, .ref 3 0 0)]) rfl rfl rfl))
        · replace h1 := cf hb141 h1
          refine SC.seq ?_
          refine SC.region ?_
          refine SO.op (Wanted.free rfl) rfl (A_bin (v := .d (eB (p0 == (3 : Int)))) rfl rfl rfl (fun X Y => b_i64_eql _ X Y p0 (3 : Int))) ?_
          refine SO.op (Wanted.free rfl) rfl (A_assign (v := .d (eB (p0 == (3 : Int)))) rfl rfl) ?_
          refine SO.nil ?_
          change SC _ _ _ _ _
          refine SC.condB (t := (p0 == (3 : Int))) rfl (fun hb147 => ?_) (fun hb147 => ?_)
          · replace h1 := ct hb147 h1
            refine SC.region ?_
            refine SO.op (Wanted.free rfl) rfl (A_move (v := .ref 2 0 0) rfl rfl) ?_
            obtain ⟨⟨r148, r149, r150, r151⟩, hq152, h1⟩ := ob h1
            refine SO.call (ι := [2, 3]) (σc := [.box (.agg [.slc 1 1 r93 r94 none, .d (eB r95)]), .row 1 (List.map eU8 p1) true]) (args' := [.ref 0 0 0]) (r' := .d (eU8 r148)) (σ2 := [.box (.agg [.slc 1 1 r149 r150 none, .d (eB r151)]), .row 1 (List.map eU8 p1) true]) (os := [.box (.agg [.slc 3 1 r149 r150 none, .d (eB r151)]), .row 1 (List.map eU8 p1) true]) (r := .d (eU8 r148)) (σ' := [.row 1 (List.map eU8 p1) true, .box (.d (eApiValue (ApiValue.mk (0 : Int) (0 : UInt64) ([] : List UInt8)))), .box (.agg [.slc 3 1 r149 r150 none, .d (eB r151)]), .row 1 (List.map eU8 p1) true, .box (.d (eApiValue (ApiValue.mk p0 (0 : UInt64) ([] : List UInt8))))]) (Wanted.free rfl) rfl rfl rfl rfl rfl cb51 rfl rfl (pack_In_U8_ok p1 r93 r94 r95 _ hq152) rfl rfl (Nat.le_of_ble_eq_true rfl) rfl ?_
            refine SO.op (Wanted.free rfl) rfl (A_conv (v := .d (eU64 (r148.toUInt64))) rfl rfl (cv_u8_u64 un5 un33 r148)) ?_
            refine SO.op (Wanted.free rfl) rfl (A_fieldAddr rfl rfl (fa_ref fo35_1 ts33 rfl)) ?_
            refine SO.op0 (Wanted.free rfl) rfl (A_store (σ' := [.row 1 (List.map eU8 p1) true, .box (.d (eApiValue (ApiValue.mk (0 : Int) (0 : UInt64) ([] : List UInt8)))), .box (.agg [.slc 3 1 r149 r150 none, .d (eB r151)]), .row 1 (List.map eU8 p1) true, .box (.d (eApiValue (ApiValue.mk p0 (r148.toUInt64) ([] : List UInt8))))]) rfl rfl rfl (st_box (zs := [.d (eU64 (r148.toUInt64))]) ts33 rfl rfl rfl rfl rfl (Nat.le_of_ble_eq_true rfl) rfl)) ?_
            refine SO.nil ?_
            have q := Option.some.inj h1; subst q
            exact lf (Wk.trans (Wk.env (e' := [(1, .slc 0 1 0 p1.length none), (4, .ref 1 0 0), (7, .ref 2 0 0), (8, .ref 4 0 0)]) (EW.cons (AW.refl _) (EW.cons (AW.refl _) (EW.cons (AW.refl _) (EW.cons (AW.refl _) EW.nil))))) (Wk.canon (ι := [0, 1, 2, 4, 3]) (roots := [0, 0, 1, 2, 4]) (os := [.row 1 (List.map eU8 p1) true, .box (.d (eApiValue (ApiValue.mk (0 : Int) (0 : UInt64) ([] : List UInt8)))), .box (.agg [.slc 4 1 r149 r150 none, .d (eB r151)]), .box (.d (eApiValue (ApiValue.mk p0 (r148.toUInt64) ([] : List UInt8)))), .row 1 (List.map eU8 p1) true]) (e' := [(1, .slc 0 1 0 p1.length none), (4, .ref 1 0 0), (7, .ref 2 0 0), (8, .ref 3 0 0)]) rfl rfl rfl))
          · replace h1 := cf hb147 h1
            refine SC.seq ?_
            refine SC.region ?_
            refine SO.op (Wanted.free rfl) rfl (A_move (v := .slc 0 1 0 p1.length none) rfl rfl) ?_
            obtain ⟨hg153, h1⟩ := gd h1
            refine SO.op (Wanted.free rfl) rfl (A_slice (v := .slc 0 1 (0 + (1 : Int).toNat) (p1.length - (1 : Int).toNat) none) rfl rfl rfl rfl rfl (sl_slc_lo un51 ts5 hg153)) ?_
            obtain ⟨⟨r154, r155, r156⟩, hq157, h1⟩ := ob h1
            refine SO.call (ι := [0]) (σc := [.row 1 (List.map eU8 p1) true]) (args' := [.slc 0 1 (0 + (1 : Int).toNat) (p1.length - (1 : Int).toNat) none]) (r' := .tuple [.d (eS r154), .d (eI r155), .d (eB r156)]) (σ2 := [.row 1 (List.map eU8 p1) true]) (os := [.row 1 (List.map eU8 p1) true]) (r := .tuple [.d (eS r154), .d (eI r155), .d (eB r156)]) (σ' := [.row 1 (List.map eU8 p1) true, .box (.d (eApiValue (ApiValue.mk (0 : Int) (0 : UInt64) ([] : List UInt8)))), .box (.agg [.slc 3 1 r93 r94 none, .d (eB r95)]), .row 1 (List.map eU8 p1) true, .box (.d (eApiValue (ApiValue.mk p0 (0 : UInt64) ([] : List UInt8))))]) (Wanted.free rfl) rfl rfl rfl rfl rfl cb52 rfl rfl (key_long_ok p1 (0 + (1 : Int).toNat) (p1.length - (1 : Int).toNat) _ hq157) rfl rfl (Nat.le_of_ble_eq_true rfl) rfl ?_
            refine SO.op (Wanted.free rfl) rfl (A_move (v := .tuple [.d (eS r154), .d (eI r155), .d (eB r156)]) rfl rfl) ?_
            refine SO.op (Wanted.free rfl) rfl (A_extract (v := .d (eS r154)) rfl rfl rfl) ?_
            refine SO.op (Wanted.free rfl) rfl (A_extract (v := .d (eI r155)) rfl rfl rfl) ?_
            refine SO.op (Wanted.free rfl) rfl (A_extract (v := .d (eB r156)) rfl rfl rfl) ?_
            refine SO.op (Wanted.free rfl) rfl (A_assign (v := .d (eS r154)) rfl rfl) ?_
            refine SO.op (Wanted.free rfl) rfl (A_assign (v := .d (eI r155)) rfl rfl) ?_
            refine SO.op (Wanted.free rfl) rfl (A_assign (v := .d (eB r156)) rfl rfl) ?_
            refine SO.nil ?_
            change SC _ _ _ _ _
            refine SC.seq ?_
            refine SC.region ?_
            refine SO.op (Wanted.free rfl) rfl (A_move (v := .d (eS r154)) rfl rfl) ?_
            refine SO.op (Wanted.free rfl) rfl (A_fieldAddr rfl rfl (fa_ref fo35_2 ts9 rfl)) ?_
            refine SO.op0 (Wanted.free rfl) rfl (A_store (σ' := [.row 1 (List.map eU8 p1) true, .box (.d (eApiValue (ApiValue.mk (0 : Int) (0 : UInt64) ([] : List UInt8)))), .box (.agg [.slc 3 1 r93 r94 none, .d (eB r95)]), .row 1 (List.map eU8 p1) true, .box (.d (eApiValue (ApiValue.mk p0 (0 : UInt64) r154)))]) rfl rfl rfl (st_box (zs := [.d (eS r154)]) ts9 rfl rfl rfl rfl rfl (Nat.le_of_ble_eq_true rfl) rfl)) ?_
            refine SO.nil ?_
            change SC _ _ _ _ _
            refine SC.seqP h1 (fun y => ⟨mk 71 [(4, .ref 1 0 0), (5, .d (eI (w64 ((1 : Int) + r155)))), (6, .d (eB y))], [.row 1 (List.map eU8 p1) true, .box (.d (eApiValue (ApiValue.mk p0 (0 : UInt64) r154)))]⟩) ?_ ?_
            · intro u2_162 h2
              refine SC.draws (by kernel_rfl) ?_
              refine ST.op (mk' := ([4], false)) (Wanted.free rfl) rfl (A_load (v := .d (eApiValue (ApiValue.mk p0 (0 : UInt64) r154))) rfl rfl (ld_box ts35 ta35 rfl rfl)) rfl ?_
              refine ST.op (mk' := ([], false)) (Wanted.free rfl) rfl (A_move (v := .d (eI r155)) rfl rfl) rfl ?_
              refine ST.op (mk' := ([], false)) (Wanted.free rfl) rfl (A_bin (v := .d (eI (w64 ((1 : Int) + r155)))) rfl rfl rfl (fun X Y => b_i64_add _ X Y (1 : Int) r155)) rfl ?_
              refine ST.op (mk' := ([], false)) (Wanted.free rfl) rfl (A_move (v := .d (eB r156)) rfl rfl) rfl ?_
              refine ST.op (mk' := ([], false)) (Wanted.free rfl) rfl (A_move (v := .d (eB r156)) rfl rfl) rfl ?_
              refine ST.split (fun hb163 => ?_) (fun hb163 => ?_)
              · replace h2 := ct hb163 h2
                refine ST.op (mk' := ([4], false)) (Wanted.by rfl rfl rfl rfl) rfl (A_load (v := .d (eApiValue (ApiValue.mk p0 (0 : UInt64) r154))) rfl rfl (ld_box ts35 ta35 rfl rfl)) rfl ?_
                obtain ⟨r164, hq165, h2⟩ := ob h2
                refine ST.call0 (r := .d (eB r164)) (Wanted.by rfl rfl rfl rfl) rfl rfl rfl rfl rfl cb27 rfl (fun _ => rfl) (fun _ => rfl) (value_Valid_ok (ApiValue.mk p0 (0 : UInt64) r154) _ hq165) ?_
                refine ST.op (mk' := ([], false)) (Wanted.free rfl) rfl (A_pickT (v := .d (eB r164)) rfl rfl rfl) rfl ?_
                refine ST.op0 (mk' := ([1], true)) (Wanted.free rfl) rfl (A_store (σ' := [.row 1 (List.map eU8 p1) true, .box (.d (eApiValue (ApiValue.mk p0 (0 : UInt64) r154))), .box (.agg [.slc 3 1 r93 r94 none, .d (eB r95)]), .row 1 (List.map eU8 p1) true, .box (.d (eApiValue (ApiValue.mk p0 (0 : UInt64) r154)))]) rfl rfl rfl (st_box (zs := [.d (eI p0), .d (eU64 (0 : UInt64)), .d (eS r154)]) ts35 rfl rfl rfl rfl rfl (Nat.le_of_ble_eq_true rfl) rfl)) rfl ?_
                refine ST.op (mk' := ([], false)) (Wanted.free rfl) rfl (A_assign (v := .d (eI (w64 ((1 : Int) + r155)))) rfl rfl) rfl ?_
                refine ST.op (mk' := ([], false)) (Wanted.free rfl) rfl (A_assign (v := .d (eB r164)) rfl rfl) rfl ?_
                refine ST.nil (And.intro (by decide +kernel) ?_)
                have q := Option.some.inj h2; subst q
                exact (Wk.trans (Wk.env (e' := [(4, .ref 1 0 0), (5, .d (eI (w64 ((1 : Int) + r155)))), (6, .d (eB r164))]) (EW.cons (AW.refl _) (EW.cons (AW.refl _) (EW.cons (AW.refl _) EW.nil)))) (Wk.canon (ι := [0, 1]) (roots := [0, 1]) (os := [.row 1 (List.map eU8 p1) true, .box (.d (eApiValue (ApiValue.mk p0 (0 : UInt64) r154)))]) (e' := [(4, .ref 1 0 0), (5, .d (eI (w64 ((1 : Int) + r155)))), (6, .d (eB r164))]) rfl rfl rfl))
              · replace h2 := cf hb163 h2
                refine ST.skip (Wanted.by rfl rfl rfl rfl) rfl ?_
                refine ST.skip (Wanted.by rfl rfl rfl rfl) rfl ?_
                refine ST.op (mk' := ([], false)) (Wanted.free rfl) rfl (A_pickF (v := .d (eB false)) rfl rfl rfl) rfl ?_
                refine ST.op0 (mk' := ([1], true)) (Wanted.free rfl) rfl (A_store (σ' := [.row 1 (List.map eU8 p1) true, .box (.d (eApiValue (ApiValue.mk p0 (0 : UInt64) r154))), .box (.agg [.slc 3 1 r93 r94 none, .d (eB r95)]), .row 1 (List.map eU8 p1) true, .box (.d (eApiValue (ApiValue.mk p0 (0 : UInt64) r154)))]) rfl rfl rfl (st_box (zs := [.d (eI p0), .d (eU64 (0 : UInt64)), .d (eS r154)]) ts35 rfl rfl rfl rfl rfl (Nat.le_of_ble_eq_true rfl) rfl)) rfl ?_
                refine ST.op (mk' := ([], false)) (Wanted.free rfl) rfl (A_assign (v := .d (eI (w64 ((1 : Int) + r155)))) rfl rfl) rfl ?_
                refine ST.op (mk' := ([], false)) (Wanted.free rfl) rfl (A_assign (v := .d (eB false)) rfl rfl) rfl ?_
                refine ST.nil (And.intro (by decide +kernel) ?_)
                have q := Option.some.inj h2; subst q
                exact (Wk.trans (Wk.env (e' := [(4, .ref 1 0 0), (5, .d (eI (w64 ((1 : Int) + r155)))), (6, .d (eB false))]) (EW.cons (AW.refl _) (EW.cons (AW.refl _) (EW.cons (AW.refl _) EW.nil)))) (Wk.canon (ι := [0, 1]) (roots := [0, 1]) (os := [.row 1 (List.map eU8 p1) true, .box (.d (eApiValue (ApiValue.mk p0 (0 : UInt64) r154)))]) (e' := [(4, .ref 1 0 0), (5, .d (eI (w64 ((1 : Int) + r155)))), (6, .d (eB false))]) rfl rfl rfl))
            · rintro y161 h1
              change SC _ _ _ ⟨mk 71 [(4, .ref 1 0 0), (5, .d (eI (w64 ((1 : Int) + r155)))), (6, .d (eB y161))], [.row 1 (List.map eU8 p1) true, .box (.d (eApiValue (ApiValue.mk p0 (0 : UInt64) r154)))]⟩ _
              refine SC.ret ?_
              have q := Option.some.inj h1; subst q
              have q := Option.some.inj h0; subst q
              exact finR (Wk.env (e' := [(4, .ref 1 0 0), (5, .d (eI (w64 ((1 : Int) + r155)))), (6, .d (eB y161))]) (EW.cons (AW.refl _) (EW.cons (AW.refl _) (EW.cons (AW.refl _) EW.nil)))) (lresC rfl (ld_box ts35 ta35 rfl rfl) (lresT rfl (lresT rfl lresN))) rfl
    · rintro ⟨y130, y131, y132, y133⟩ h0
      change SC _ _ _ ⟨mk 71 [(1, .slc 0 1 0 p1.length none), (4, .ref 1 0 0), (7, .ref 2 0 0), (8, .ref 3 0 0)], [.row 1 (List.map eU8 p1) true, .box (.d (eApiValue (ApiValue.mk (0 : Int) (0 : UInt64) ([] : List UInt8)))), .box (.agg [.slc 4 1 y130 y131 none, .d (eB y132)]), .box (.d (eApiValue y133)), .row 1 (List.map eU8 p1) true]⟩ _
      refine SC.seqP h0 (fun y => ⟨mk 71 [(4, .ref 1 0 0), (5, .d (eI (w64 ((p1.length : Int) - (y131 : Int))))), (6, .d (eB y))], [.row 1 (List.map eU8 p1) true, .box (.d (eApiValue y133))]⟩) ?_ ?_
      · intro u1_172 h1
        refine SC.draws (by kernel_rfl) ?_
        refine ST.op (mk' := ([3], false)) (Wanted.free rfl) rfl (A_load (v := .d (eApiValue y133)) rfl rfl (ld_box ts35 ta35 rfl rfl)) rfl ?_
        refine ST.op (mk' := ([], false)) (Wanted.free rfl) rfl (A_move (v := .slc 0 1 0 p1.length none) rfl rfl) rfl ?_
        refine ST.op (mk' := ([], false)) (Wanted.free rfl) rfl (A_len (v := .d (eI (p1.length : Int))) rfl rfl rfl rfl (len_slc un51)) rfl ?_
        refine ST.op (mk' := ([], false)) (Wanted.free rfl) rfl (A_move (v := .ref 2 0 0) rfl rfl) rfl ?_
        obtain ⟨_, hq173, h1⟩ := ob h1
        refine ST.call (ι := [2, 4]) (σc := [.box (.agg [.slc 1 1 y130 y131 none, .d (eB y132)]), .row 1 (List.map eU8 p1) true]) (args' := [.ref 0 0 0]) (r' := .d (eI (y131 : Int))) (σ2 := [.box (.agg [.slc 1 1 y130 y131 none, .d (eB y132)]), .row 1 (List.map eU8 p1) true]) (os := [.box (.agg [.slc 4 1 y130 y131 none, .d (eB y132)]), .row 1 (List.map eU8 p1) true]) (r := .d (eI (y131 : Int))) (σ' := [.row 1 (List.map eU8 p1) true, .box (.d (eApiValue (ApiValue.mk (0 : Int) (0 : UInt64) ([] : List UInt8)))), .box (.agg [.slc 4 1 y130 y131 none, .d (eB y132)]), .box (.d (eApiValue y133)), .row 1 (List.map eU8 p1) true]) (mk' := ([2, 4], true)) (Wanted.free rfl) rfl rfl rfl rfl rfl cb53 rfl rfl (pack_In_Left_ok p1 y130 y131 y132 _ hq173) rfl rfl (Nat.le_of_ble_eq_true rfl) rfl rfl ?_
        refine ST.op (mk' := ([], false)) (Wanted.free rfl) rfl (A_bin (v := .d (eI (w64 ((p1.length : Int) - (y131 : Int))))) rfl rfl rfl (fun X Y => b_i64_sub _ X Y (p1.length : Int) (y131 : Int))) rfl ?_
        refine ST.op (mk' := ([], false)) (Wanted.free rfl) rfl (A_move (v := .ref 2 0 0) rfl rfl) rfl ?_
        obtain ⟨_, hq174, h1⟩ := ob h1
        refine ST.call (ι := [2, 4]) (σc := [.box (.agg [.slc 1 1 y130 y131 none, .d (eB y132)]), .row 1 (List.map eU8 p1) true]) (args' := [.ref 0 0 0]) (r' := .d (eB y132)) (σ2 := [.box (.agg [.slc 1 1 y130 y131 none, .d (eB y132)]), .row 1 (List.map eU8 p1) true]) (os := [.box (.agg [.slc 4 1 y130 y131 none, .d (eB y132)]), .row 1 (List.map eU8 p1) true]) (r := .d (eB y132)) (σ' := [.row 1 (List.map eU8 p1) true, .box (.d (eApiValue (ApiValue.mk (0 : Int) (0 : UInt64) ([] : List UInt8)))), .box (.agg [.slc 4 1 y130 y131 none, .d (eB y132)]), .box (.d (eApiValue y133)), .row 1 (List.map eU8 p1) true]) (mk' := ([2, 4], true)) (Wanted.free rfl) rfl rfl rfl rfl rfl cb49 rfl rfl (pack_In_Bad_ok p1 y130 y131 y132 _ hq174) rfl rfl (Nat.le_of_ble_eq_true rfl) rfl rfl ?_
        refine ST.op (mk' := ([], false)) (Wanted.free rfl) rfl (A_un (v := .d (eB (!y132))) rfl rfl rfl rfl) rfl ?_
        refine ST.op (mk' := ([], false)) (Wanted.free rfl) rfl (A_move (v := .d (eB (!y132))) rfl rfl) rfl ?_
        refine ST.split (fun hb175 => ?_) (fun hb175 => ?_)
        · replace h1 := ct hb175 h1
          refine ST.op (mk' := ([3], false)) (Wanted.by rfl rfl rfl rfl) rfl (A_load (v := .d (eApiValue y133)) rfl rfl (ld_box ts35 ta35 rfl rfl)) rfl ?_
          obtain ⟨r176, hq177, h1⟩ := ob h1
          refine ST.call0 (r := .d (eB r176)) (Wanted.by rfl rfl rfl rfl) rfl rfl rfl rfl rfl cb27 rfl (fun _ => rfl) (fun _ => rfl) (value_Valid_ok y133 _ hq177) ?_
          refine ST.op (mk' := ([], false)) (Wanted.free rfl) rfl (A_pickT (v := .d (eB r176)) rfl rfl rfl) rfl ?_
          refine ST.op0 (mk' := ([1], true)) (Wanted.free rfl) rfl (A_store (σ' := [.row 1 (List.map eU8 p1) true, .box (.d (eApiValue y133)), .box (.agg [.slc 4 1 y130 y131 none, .d (eB y132)]), .box (.d (eApiValue y133)), .row 1 (List.map eU8 p1) true]) rfl rfl rfl (st_box (zs := [.d (eI y133.Kind), .d (eU64 y133.N), .d (eS y133.S)]) ts35 rfl rfl rfl rfl rfl (Nat.le_of_ble_eq_true rfl) rfl)) rfl ?_
          refine ST.op (mk' := ([], false)) (Wanted.free rfl) rfl (A_assign (v := .d (eI (w64 ((p1.length : Int) - (y131 : Int))))) rfl rfl) rfl ?_
          refine ST.op (mk' := ([], false)) (Wanted.free rfl) rfl (A_assign (v := .d (eB r176)) rfl rfl) rfl ?_
          refine ST.nil (And.intro (by decide +kernel) ?_)
          have q := Option.some.inj h1; subst q
          exact (Wk.trans (Wk.env (e' := [(4, .ref 1 0 0), (5, .d (eI (w64 ((p1.length : Int) - (y131 : Int))))), (6, .d (eB r176))]) (EW.cons (AW.refl _) (EW.cons (AW.refl _) (EW.cons (AW.refl _) EW.nil)))) (Wk.canon (ι := [0, 1]) (roots := [0, 1]) (os := [.row 1 (List.map eU8 p1) true, .box (.d (eApiValue y133))]) (e' := [(4, .ref 1 0 0), (5, .d (eI (w64 ((p1.length : Int) - (y131 : Int))))), (6, .d (eB r176))]) rfl rfl rfl))
        · replace h1 := cf hb175 h1
          refine ST.skip (Wanted.by rfl rfl rfl rfl) rfl ?_
          refine ST.skip (Wanted.by rfl rfl rfl rfl) rfl ?_
          refine ST.op (mk' := ([], false)) (Wanted.free rfl) rfl (A_pickF (v := .d (eB false)) rfl rfl rfl) rfl ?_
          refine ST.op0 (mk' := ([1], true)) (Wanted.free rfl) rfl (A_store (σ' := [.row 1 (List.map eU8 p1) true, .box (.d (eApiValue y133)), .box (.agg [.slc 4 1 y130 y131 none, .d (eB y132)]), .box (.d (eApiValue y133)), .row 1 (List.map eU8 p1) true]) rfl rfl rfl (st_box (zs := [.d (eI y133.Kind), .d (eU64 y133.N), .d (eS y133.S)]) ts35 rfl rfl rfl rfl rfl (Nat.le_of_ble_eq_true rfl) rfl)) rfl ?_
          refine ST.op (mk' := ([], false)) (Wanted.free rfl) rfl (A_assign (v := .d (eI (w64 ((p1.length : Int) - (y131 : Int))))) rfl rfl) rfl ?_
          refine ST.op (mk' := ([], false)) (Wanted.free rfl) rfl (A_assign (v := .d (eB false)) rfl rfl) rfl ?_
          refine ST.nil (And.intro (by decide +kernel) ?_)
          have q := Option.some.inj h1; subst q
          exact (Wk.trans (Wk.env (e' := [(4, .ref 1 0 0), (5, .d (eI (w64 ((p1.length : Int) - (y131 : Int))))), (6, .d (eB false))]) (EW.cons (AW.refl _) (EW.cons (AW.refl _) (EW.cons (AW.refl _) EW.nil)))) (Wk.canon (ι := [0, 1]) (roots := [0, 1]) (os := [.row 1 (List.map eU8 p1) true, .box (.d (eApiValue y133))]) (e' := [(4, .ref 1 0 0), (5, .d (eI (w64 ((p1.length : Int) - (y131 : Int))))), (6, .d (eB false))]) rfl rfl rfl))
      · rintro y171 h0
        change SC _ _ _ ⟨mk 71 [(4, .ref 1 0 0), (5, .d (eI (w64 ((p1.length : Int) - (y131 : Int))))), (6, .d (eB y171))], [.row 1 (List.map eU8 p1) true, .box (.d (eApiValue y133))]⟩ _
        refine SC.ret ?_
        have q := Option.some.inj h0; subst q
        exact finR (Wk.env (e' := [(4, .ref 1 0 0), (5, .d (eI (w64 ((p1.length : Int) - (y131 : Int))))), (6, .d (eB y171))]) (EW.cons (AW.refl _) (EW.cons (AW.refl _) (EW.cons (AW.refl _) EW.nil)))) (lresC rfl (ld_box ts35 ta35 rfl rfl) (lresT rfl (lresT rfl lresN))) rfl

/-- granary/key.Decode -/
noncomputable def key_Decode (p0 : List Int) (p1 : List Bool) (p2 : List UInt8) : Option ((List ApiValue) × Int) :=
  Option.bind (α := Bool)
    (bif ((p0.length : Int) != (p1.length : Int)) then
      some true
    else
      Option.bind (slices_ContainsFunc_int_int p0) fun r155 =>
      some r155)
    fun y152 =>
  bif y152 then
    some (([] : List ApiValue), (1 : Int))
  else
    bif (decide ((p2.length : Int) > (256 : Int))) then
      some (([] : List ApiValue), (2 : Int))
    else
      bindE (Y := (List UInt8) × (List ApiValue)) (E := (List ApiValue) × Int)
        (Option.bind (α := ((List UInt8) × (List ApiValue)) ⊕ ((List ApiValue) × Int))
          (loop (Y := (List UInt8) × (List ApiValue) × Int) (W := ((List UInt8) × (List ApiValue)) ⊕ ((List ApiValue) × Int)) (fun (y247, y248, y249) =>
            bif (decide (y249 < (p0.length : Int))) then
              Option.bind (getI p0 y249) fun v275 =>
              Option.bind (α := (List UInt8))
                (Option.bind (getI p1 y249) fun v282 =>
                bif v282 then
                  Option.bind (key_turned y247) fun r284 =>
                  some r284
                else
                  some y247)
                fun y280 =>
              Option.bind (key_take v275 y280) fun (r286, r287, r288) =>
              bif (!r287) then
                some (Sum.inr (Sum.inr (([] : List ApiValue), (2 : Int))))
              else
                bif decide ((y248.length + [r288].length) * 32 ≤ room) then
                bif decide (0 ≤ r286 ∧ r286 ≤ (y247.length : Int)) then
                some (Sum.inl ((List.drop r286.toNat y247), (y248 ++ [r288]), (w64 (y249 + (1 : Int)))))
                else none
                else none
            else
              some (Sum.inr (Sum.inl (y247, y248)))) (p2, ([] : List ApiValue), (0 : Int)))
          (Sum.elim (fun e => some (Sum.inl e)) (fun e => some (Sum.inr e))))
        (fun (y225, y226) =>
          bif (y225 != ([] : List UInt8)) then
            some (([] : List ApiValue), (2 : Int))
          else
            some (y226, (0 : Int)))
        (fun e => some e)
theorem key_Decode_ok (p0 : List Int) (p1 : List Bool) (p2 : List UInt8) (r : (List ApiValue) × Int) (h0 : key_Decode p0 p1 p2 = some r) : CallAt Tryd.prog 12 [.d ((eL 1 eI) p0), .d ((eL 1 eB) p1), .d (eS p2)] [] (.tuple [.d ((eL 3 eApiValue) r.1), .d (eI r.2)]) [] := by
  unfold key_Decode at h0
  refine CallAt.of Tryd.func12 rfl ?_
  refine SC.post (Q' := fun e s => ∃ s1, Wk _ s s1 ∧ Fin _ _ _ _ e s1) ?_ (fun _ _ h => h)
  refine SC.wk (s1 := ⟨mk 62 [(0, .d ((eL 1 eI) p0)), (1, .d ((eL 1 eB) p1)), (2, .d (eS p2))], []⟩) (Wk.begin (n := 62) (Nat.le_of_ble_eq_true rfl)) ?_
  refine SC.seq ?_
  refine SC.region ?_
  refine SO.op (Wanted.free rfl) rfl (A_assign (v := .d .nils) rfl rfl) ?_
  refine SO.op (Wanted.free rfl) rfl (A_assign (v := .d (eI (0 : Int))) rfl rfl) ?_
  refine SO.nil ?_
  change SC _ _ _ _ _
  refine SC.seq ?_
  refine SC.seqP h0 (fun y => ⟨mk 62 [(0, .d ((eL 1 eI) p0)), (1, .d ((eL 1 eB) p1)), (2, .d (eS p2)), (23, .d (eB y))], []⟩) ?_ ?_
  · intro u1_153 h1
    refine SC.region ?_
    refine SO.op (Wanted.free rfl) rfl (A_move (v := .d ((eL 1 eI) p0)) rfl rfl) ?_
    refine SO.op (Wanted.free rfl) rfl (A_len (v := .d (eI (p0.length : Int))) rfl rfl rfl rfl (len_lst un24)) ?_
    refine SO.op (Wanted.free rfl) rfl (A_move (v := .d ((eL 1 eB) p1)) rfl rfl) ?_
    refine SO.op (Wanted.free rfl) rfl (A_len (v := .d (eI (p1.length : Int))) rfl rfl rfl rfl (len_lst un23)) ?_
    refine SO.op (Wanted.free rfl) rfl (A_bin (v := .d (eB ((p0.length : Int) != (p1.length : Int)))) rfl rfl rfl (fun X Y => b_i64_neq _ X Y (p0.length : Int) (p1.length : Int))) ?_
    refine SO.op (Wanted.free rfl) rfl (A_move (v := .d (eB ((p0.length : Int) != (p1.length : Int)))) rfl rfl) ?_
    refine SO.split (fun hb154 => ?_) (fun hb154 => ?_)
    · replace h1 := ct hb154 h1
      refine SO.skip (Wanted.by rfl rfl rfl rfl) rfl ?_
      refine SO.skip (Wanted.by rfl rfl rfl rfl) rfl ?_
      refine SO.op (Wanted.free rfl) rfl (A_pickT (v := .d (eB true)) rfl rfl rfl) ?_
      refine SO.nil ?_
      have q := Option.some.inj h1; subst q
      exact (Wk.env (e' := [(0, .d ((eL 1 eI) p0)), (1, .d ((eL 1 eB) p1)), (2, .d (eS p2)), (23, .d (eB true))]) (EW.cons (AW.refl _) (EW.cons (AW.refl _) (EW.cons (AW.refl _) (EW.cons (AW.refl _) EW.nil)))))
    · replace h1 := cf hb154 h1
      refine SO.op (Wanted.by rfl rfl rfl rfl) rfl (A_move (v := .d ((eL 1 eI) p0)) rfl rfl) ?_
      obtain ⟨r155, hq156, h1⟩ := ob h1
      refine SO.call0 (r := .d (eB r155)) (Wanted.by rfl rfl rfl rfl) rfl rfl rfl rfl rfl cb31 rfl (fun _ => rfl) (fun _ => rfl) (slices_ContainsFunc_int_int_ok p0 _ hq156) ?_
      refine SO.op (Wanted.free rfl) rfl (A_pickF (v := .d (eB r155)) rfl rfl rfl) ?_
      refine SO.nil ?_
      have q := Option.some.inj h1; subst q
      exact (Wk.env (e' := [(0, .d ((eL 1 eI) p0)), (1, .d ((eL 1 eB) p1)), (2, .d (eS p2)), (23, .d (eB r155))]) (EW.cons (AW.refl _) (EW.cons (AW.refl _) (EW.cons (AW.refl _) (EW.cons (AW.refl _) EW.nil)))))
  · rintro y152 h0
    change SC _ _ _ ⟨mk 62 [(0, .d ((eL 1 eI) p0)), (1, .d ((eL 1 eB) p1)), (2, .d (eS p2)), (23, .d (eB y152))], []⟩ _
    refine SC.condB (t := y152) rfl (fun hb157 => ?_) (fun hb157 => ?_)
    · replace h0 := ct hb157 h0
      refine SC.seq ?_
      refine SC.region ?_
      refine SO.op (Wanted.free rfl) rfl (A_assign (v := .d .nils) rfl rfl) ?_
      refine SO.op (Wanted.free rfl) rfl (A_assign (v := .d (eI (1 : Int))) rfl rfl) ?_
      refine SO.nil ?_
      change SC _ _ _ _ _
      refine SC.ret ?_
      have q := Option.some.inj h0; subst q
      exact finR (Wk.env (e' := [(6, .d ((eL 3 eApiValue) ([] : List ApiValue))), (7, .d (eI (1 : Int)))]) (EW.cons (AW.nl _) (EW.cons (AW.refl _) EW.nil))) (lresT rfl (lresT rfl lresN)) rfl
    · replace h0 := cf hb157 h0
      refine SC.skip ?_
      change SC _ _ _ _ _
      refine SC.seq ?_
      refine SC.seq ?_
      refine SC.region ?_
      refine SO.op (Wanted.free rfl) rfl (A_move (v := .d (eS p2)) rfl rfl) ?_
      refine SO.op (Wanted.free rfl) rfl (A_len (v := .d (eI (p2.length : Int))) rfl rfl rfl rfl (len_str un9)) ?_
      refine SO.op (Wanted.free rfl) rfl (A_bin (v := .d (eB (decide ((p2.length : Int) > (256 : Int))))) rfl rfl rfl (fun X Y => b_i64_gtr _ X Y (p2.length : Int) (256 : Int))) ?_
      refine SO.nil ?_
      change SC _ _ _ _ _
      refine SC.condB (t := (decide ((p2.length : Int) > (256 : Int)))) rfl (fun hb158 => ?_) (fun hb158 => ?_)
      · replace h0 := ct hb158 h0
        refine SC.seq ?_
        refine SC.region ?_
        refine SO.op (Wanted.free rfl) rfl (A_assign (v := .d .nils) rfl rfl) ?_
        refine SO.op (Wanted.free rfl) rfl (A_assign (v := .d (eI (2 : Int))) rfl rfl) ?_
        refine SO.nil ?_
        change SC _ _ _ _ _
        refine SC.ret ?_
        have q := Option.some.inj h0; subst q
        exact finR (Wk.env (e' := [(6, .d ((eL 3 eApiValue) ([] : List ApiValue))), (7, .d (eI (2 : Int)))]) (EW.cons (AW.nl _) (EW.cons (AW.refl _) EW.nil))) (lresT rfl (lresT rfl lresN)) rfl
      · replace h0 := cf hb158 h0
        refine SC.skip ?_
        change SC _ _ _ _ _
        refine SC.seq ?_
        refine SC.region ?_
        refine SO.op (Wanted.free rfl) rfl (A_assign (v := .d .nils) rfl rfl) ?_
        refine SO.nil ?_
        change SC _ _ _ _ _
        refine SC.seqB h0 (fun y => ⟨mk 62 [(2, .d (eS y.1)), (8, .slc 0 3 0 y.2.length none)], [.row 3 (List.map eApiValue y.2) true]⟩) ?_ ?_
        · intro u1_227 h1 h0
          refine SC.seq ?_
          refine SC.region ?_
          refine SO.op (Wanted.free rfl) rfl (A_move (v := .d ((eL 1 eI) p0)) rfl rfl) ?_
          refine SO.op (Wanted.free rfl) rfl (A_len (v := .d (eI (p0.length : Int))) rfl rfl rfl rfl (len_lst un24)) ?_
          refine SO.op (Wanted.free rfl) rfl (A_move (v := .d (eI (0 : Int))) rfl rfl) ?_
          refine SO.nil ?_
          change SC _ _ _ _ _
          refine SC.blk ?_
          obtain ⟨u2_273, h2, h1⟩ := ob h1
          refine SC.loopB h2 (fun y => ⟨mk 62 [(1, .d ((eL 1 eB) p1)), (2, .d (eS y.1)), (8, .slc 0 3 0 y.2.1.length none), (27, .d ((eL 1 eI) p0)), (28, .d (eI (p0.length : Int))), (29, .d (eI y.2.2))], [.row 3 (List.map eApiValue y.2.1) true]⟩) (Wk.trans (Wk.pushE (σ' := [.row 3 (List.map eApiValue ([] : List ApiValue)) true]) (.row 3 [] true) (fun _ hh => by cases hh) rfl) (Wk.trans (Wk.env (e' := [(1, .d ((eL 1 eB) p1)), (2, .d (eS p2)), (8, .slc 0 3 0 (([] : List ApiValue).length) none), (27, .d ((eL 1 eI) p0)), (28, .d (eI (p0.length : Int))), (29, .d (eI (0 : Int)))]) (EW.cons (AW.refl _) (EW.cons (AW.refl _) (EW.cons (AW.slcn _ _ _) (EW.cons (AW.refl _) (EW.cons (AW.refl _) (EW.cons (AW.refl _) EW.nil))))))) (Wk.env (e' := [(1, .d ((eL 1 eB) p1)), (2, .d (eS p2)), (8, .slc 0 3 0 (([] : List ApiValue).length) none), (27, .d ((eL 1 eI) p0)), (28, .d (eI (p0.length : Int))), (29, .d (eI (0 : Int)))]) (EW.cons (AW.refl _) (EW.cons (AW.refl _) (EW.cons (AW.refl _) (EW.cons (AW.refl _) (EW.cons (AW.refl _) (EW.cons (AW.refl _) EW.nil))))))))) ?_
          intro n293
          rintro ⟨y247, y248, y249⟩ w2_272 h3 hv3
          change SC _ _ _ ⟨mk 62 [(1, .d ((eL 1 eB) p1)), (2, .d (eS y247)), (8, .slc 0 3 0 y248.length none), (27, .d ((eL 1 eI) p0)), (28, .d (eI (p0.length : Int))), (29, .d (eI y249))], [.row 3 (List.map eApiValue y248) true]⟩ _
          refine SC.seq ?_
          refine SC.region ?_
          refine SO.op (Wanted.free rfl) rfl (A_bin (v := .d (eB (decide (y249 < (p0.length : Int))))) rfl rfl rfl (fun X Y => b_i64_lss _ X Y y249 (p0.length : Int))) ?_
          refine SO.nil ?_
          change SC _ _ _ _ _
          refine SC.seq ?_
          refine SC.condB (t := (decide (y249 < (p0.length : Int)))) rfl (fun hb274 => ?_) (fun hb274 => ?_)
          · replace h3 := ct hb274 h3
            refine SC.skip ?_
            change SC _ _ _ _ _
            refine SC.seq ?_
            refine SC.blk ?_
            refine SC.seq ?_
            refine SC.region ?_
            refine SO.op (Wanted.free rfl) rfl (A_move (v := .d (eI y249)) rfl rfl) ?_
            obtain ⟨v275, hv275, h3⟩ := ob h3
            refine SO.op (Wanted.free rfl) rfl (A_indexAddr (v := .rop [(eI v275)]) rfl rfl rfl (ia_lst un24 ts3 (getI_some hv275).1 (map_get (getI_some hv275).2))) ?_
            refine SO.op (Wanted.free rfl) rfl (A_load (v := .d (eI v275)) rfl rfl (ld_rop ts3 ta3 rfl)) ?_
            refine SO.op (Wanted.free rfl) rfl (A_assign (v := .d (eI y249)) rfl rfl) ?_
            refine SO.op (Wanted.free rfl) rfl (A_assign (v := .d (eI v275)) rfl rfl) ?_
            refine SO.nil ?_
            change SC _ _ _ _ _
            refine SC.seq ?_
            refine SC.region ?_
            refine SO.op (Wanted.free rfl) rfl (A_move (v := .d (eS y247)) rfl rfl) ?_
            refine SO.op (Wanted.free rfl) rfl (A_conv (v := .slc 1 1 0 y247.length none) (σ' := [.row 3 (List.map eApiValue y248) true, .row 1 (List.map eU8 y247) true]) rfl rfl (cv_str_bytes un9 un51 un5 ts5 rfl rfl)) ?_
            refine SO.op (Wanted.free rfl) rfl (A_assign (v := .slc 1 1 0 y247.length none) rfl rfl) ?_
            refine SO.nil ?_
            change SC _ _ _ _ _
            refine SC.seqP h3 (fun y => ⟨mk 62 [(1, .d ((eL 1 eB) p1)), (2, .d (eS y247)), (8, .slc 0 3 0 y248.length none), (10, .d (eI v275)), (11, .slc 1 1 0 y.length none), (27, .d ((eL 1 eI) p0)), (28, .d (eI (p0.length : Int))), (29, .d (eI y249))], [.row 3 (List.map eApiValue y248) true, .row 1 (List.map eU8 y) true]⟩) ?_ ?_
            · intro u4_281 h4
              refine SC.seq ?_
              refine SC.region ?_
              refine SO.op (Wanted.free rfl) rfl (A_move (v := .d ((eL 1 eB) p1)) rfl rfl) ?_
              refine SO.op (Wanted.free rfl) rfl (A_move (v := .d (eI y249)) rfl rfl) ?_
              obtain ⟨v282, hv282, h4⟩ := ob h4
              refine SO.op (Wanted.free rfl) rfl (A_indexAddr (v := .rop [(eB v282)]) rfl rfl rfl (ia_lst un23 ts4 (getI_some hv282).1 (map_get (getI_some hv282).2))) ?_
              refine SO.op (Wanted.free rfl) rfl (A_load (v := .d (eB v282)) rfl rfl (ld_rop ts4 ta4 rfl)) ?_
              refine SO.nil ?_
              change SC _ _ _ _ _
              refine SC.condB (t := v282) rfl (fun hb283 => ?_) (fun hb283 => ?_)
              · replace h4 := ct hb283 h4
                refine SC.region ?_
                refine SO.op (Wanted.free rfl) rfl (A_move (v := .slc 1 1 0 y247.length none) rfl rfl) ?_
                obtain ⟨r284, hq285, h4⟩ := ob h4
                refine SO.call (ι := [1]) (σc := [.row 1 (List.map eU8 y247) true]) (args' := [.slc 0 1 0 y247.length none]) (r' := .slc 0 1 0 r284.length none) (σ2 := [.row 1 (List.map eU8 r284) true]) (os := [.row 1 (List.map eU8 r284) true]) (r := .slc 1 1 0 r284.length none) (σ' := [.row 3 (List.map eApiValue y248) true, .row 1 (List.map eU8 r284) true]) (Wanted.free rfl) rfl rfl rfl rfl rfl cb33 rfl rfl (key_turned_ok y247 _ hq285) rfl rfl (Nat.le_of_ble_eq_true rfl) rfl ?_
                refine SO.op (Wanted.free rfl) rfl (A_assign (v := .slc 1 1 0 r284.length none) rfl rfl) ?_
                refine SO.nil ?_
                have q := Option.some.inj h4; subst q
                exact (Wk.env (e' := [(1, .d ((eL 1 eB) p1)), (2, .d (eS y247)), (8, .slc 0 3 0 y248.length none), (10, .d (eI v275)), (11, .slc 1 1 0 r284.length none), (27, .d ((eL 1 eI) p0)), (28, .d (eI (p0.length : Int))), (29, .d (eI y249))]) (EW.cons (AW.refl _) (EW.cons (AW.refl _) (EW.cons (AW.refl _) (EW.cons (AW.refl _) (EW.cons (AW.refl _) (EW.cons (AW.refl _) (EW.cons (AW.refl _) (EW.cons (AW.refl _) EW.nil)))))))))
              · replace h4 := cf hb283 h4
                refine SC.skip ?_
                have q := Option.some.inj h4; subst q
                exact (Wk.env (e' := [(1, .d ((eL 1 eB) p1)), (2, .d (eS y247)), (8, .slc 0 3 0 y248.length none), (10, .d (eI v275)), (11, .slc 1 1 0 y247.length none), (27, .d ((eL 1 eI) p0)), (28, .d (eI (p0.length : Int))), (29, .d (eI y249))]) (EW.cons (AW.refl _) (EW.cons (AW.refl _) (EW.cons (AW.refl _) (EW.cons (AW.refl _) (EW.cons (AW.refl _) (EW.cons (AW.refl _) (EW.cons (AW.refl _) (EW.cons (AW.refl _) EW.nil)))))))))
            · rintro y280 h3
              change SC _ _ _ ⟨mk 62 [(1, .d ((eL 1 eB) p1)), (2, .d (eS y247)), (8, .slc 0 3 0 y248.length none), (10, .d (eI v275)), (11, .slc 1 1 0 y280.length none), (27, .d ((eL 1 eI) p0)), (28, .d (eI (p0.length : Int))), (29, .d (eI y249))], [.row 3 (List.map eApiValue y248) true, .row 1 (List.map eU8 y280) true]⟩ _
              refine SC.seq ?_
              refine SC.region ?_
              refine SO.op (Wanted.free rfl) rfl (A_move (v := .d (eI v275)) rfl rfl) ?_
              refine SO.op (Wanted.free rfl) rfl (A_move (v := .slc 1 1 0 y280.length none) rfl rfl) ?_
              obtain ⟨⟨r286, r287, r288⟩, hq289, h3⟩ := ob h3
              refine SO.call (ι := [1]) (σc := [.row 1 (List.map eU8 y280) true]) (args' := [.d (eI v275), .slc 0 1 0 y280.length none]) (r' := .tuple [.d (eApiValue r288), .d (eI r286), .d (eB r287)]) (σ2 := [.row 1 (List.map eU8 y280) true, .box (.d (eApiValue r288))]) (os := [.row 1 (List.map eU8 y280) true, .box (.d (eApiValue r288))]) (r := .tuple [.d (eApiValue r288), .d (eI r286), .d (eB r287)]) (σ' := [.row 3 (List.map eApiValue y248) true, .row 1 (List.map eU8 y280) true, .box (.d (eApiValue r288))]) (Wanted.free rfl) rfl rfl rfl rfl rfl cb34 rfl rfl (key_take_ok v275 y280 _ hq289) rfl rfl (Nat.le_of_ble_eq_true rfl) rfl ?_
              refine SO.op (Wanted.free rfl) rfl (A_move (v := .tuple [.d (eApiValue r288), .d (eI r286), .d (eB r287)]) rfl rfl) ?_
              refine SO.op (Wanted.free rfl) rfl (A_extract (v := .d (eApiValue r288)) rfl rfl rfl) ?_
              refine SO.op (Wanted.free rfl) rfl (A_extract (v := .d (eI r286)) rfl rfl rfl) ?_
              refine SO.op (Wanted.free rfl) rfl (A_extract (v := .d (eB r287)) rfl rfl rfl) ?_
              refine SO.op (Wanted.free rfl) rfl (A_alloc (σ' := [.row 3 (List.map eApiValue y248) true, .row 1 (List.map eU8 y280) true, .box (.d (eApiValue r288)), .box (.d (eApiValue (ApiValue.mk (0 : Int) (0 : UInt64) ([] : List UInt8))))]) rfl zo35 rfl rfl) ?_
              refine SO.op0 (Wanted.free rfl) rfl (A_store (σ' := [.row 3 (List.map eApiValue y248) true, .row 1 (List.map eU8 y280) true, .box (.d (eApiValue r288)), .box (.d (eApiValue r288))]) rfl rfl rfl (st_box (zs := [.d (eI r288.Kind), .d (eU64 r288.N), .d (eS r288.S)]) ts35 rfl rfl rfl rfl rfl (Nat.le_of_ble_eq_true rfl) rfl)) ?_
              refine SO.op (Wanted.free rfl) rfl (A_assign (v := .d (eI r286)) rfl rfl) ?_
              refine SO.op (Wanted.free rfl) rfl (A_assign (v := .d (eB r287)) rfl rfl) ?_
              refine SO.nil ?_
              change SC _ _ _ _ _
              refine SC.seq ?_
              refine SC.seq ?_
              refine SC.region ?_
              refine SO.op (Wanted.free rfl) rfl (A_move (v := .d (eB r287)) rfl rfl) ?_
              refine SO.op (Wanted.free rfl) rfl (A_un (v := .d (eB (!r287))) rfl rfl rfl rfl) ?_
              refine SO.nil ?_
              change SC _ _ _ _ _
              refine SC.condB (t := (!r287)) rfl (fun hb290 => ?_) (fun hb290 => ?_)
              · replace h3 := ct hb290 h3
                refine SC.seq ?_
                refine SC.region ?_
                refine SO.op (Wanted.free rfl) rfl (A_assign (v := .d .nils) rfl rfl) ?_
                refine SO.op (Wanted.free rfl) rfl (A_assign (v := .d (eI (2 : Int))) rfl rfl) ?_
                refine SO.nil ?_
                change SC _ _ _ _ _
                refine SC.ret ?_
                have q := Option.some.inj h3; subst q
                have q : _ = _ := hv3; subst q
                have q := Option.some.inj h1; subst q
                have q := Option.some.inj h0; subst q
                exact finR (Wk.trans (Wk.env (e' := [(6, .d ((eL 3 eApiValue) ([] : List ApiValue))), (7, .d (eI (2 : Int)))]) (EW.cons (AW.nl _) (EW.cons (AW.refl _) EW.nil))) (Wk.canon (ι := []) (roots := []) (os := []) (e' := [(6, .d ((eL 3 eApiValue) ([] : List ApiValue))), (7, .d (eI (2 : Int)))]) rfl rfl rfl)) (lresT rfl (lresT rfl lresN)) rfl
              · replace h3 := cf hb290 h3
                refine SC.skip ?_
                change SC _ _ _ _ _
                refine SC.draws (by kernel_rfl) ?_
                refine ST.op (mk' := ([], false)) (Wanted.free rfl) rfl (A_move (v := .slc 0 3 0 y248.length none) rfl rfl) rfl ?_
                refine ST.op (mk' := ([3], false)) (Wanted.free rfl) rfl (A_load (v := .d (eApiValue r288)) rfl rfl (ld_box ts35 ta35 rfl rfl)) rfl ?_
                refine ST.opW (mk' := ([4], true)) (v' := .slc 4 3 0 ([r288].length) none) (Wanted.free rfl) rfl (A_buildSlice (v := .slc 4 3 0 1 (some 1)) (σ' := [.row 3 (List.map eApiValue y248) true, .row 1 (List.map eU8 y280) true, .box (.d (eApiValue r288)), .box (.d (eApiValue r288)), .row 3 (List.map eApiValue [r288]) true]) rfl rfl (bsl un22 ei35 (by decide) rfl (by rfl) rfl rfl)) (AW.slcc rfl rfl) rfl ?_
                obtain ⟨hg291, h3⟩ := gd h3
                refine ST.op (mk' := ([0, 4, 5], true)) (Wanted.free rfl) rfl (A_append (v := .slc 5 3 0 ((y248 ++ [r288]).length) none) (σ' := [.dead, .row 1 (List.map eU8 y280) true, .box (.d (eApiValue r288)), .box (.d (eApiValue r288)), .row 3 (List.map eApiValue [r288]) true, .row 3 (List.map eApiValue (y248 ++ [r288])) true]) rfl rfl rfl rfl rfl bc22 (ApFull (f := eApiValue) (xs := y248) (ys := [r288]) rfl un22 ei35 rfl (el_full (xs := [r288]) rfl) hg291 rfl rfl)) rfl ?_
                refine ST.op (mk' := ([], false)) (Wanted.free rfl) rfl (A_move (v := .d (eS y247)) rfl rfl) rfl ?_
                refine ST.op (mk' := ([], false)) (Wanted.free rfl) rfl (A_move (v := .d (eI r286)) rfl rfl) rfl ?_
                obtain ⟨hg292, h3⟩ := gd h3
                refine ST.op (mk' := ([], false)) (Wanted.free rfl) rfl (A_slice (v := .d (eS (List.drop r286.toNat y247))) rfl rfl rfl rfl rfl (sl_str_lo un9 hg292)) rfl ?_
                refine ST.op (mk' := ([], false)) (Wanted.free rfl) rfl (A_assign (v := .slc 5 3 0 ((y248 ++ [r288]).length) none) rfl rfl) rfl ?_
                refine ST.op (mk' := ([], false)) (Wanted.free rfl) rfl (A_assign (v := .d (eS (List.drop r286.toNat y247))) rfl rfl) rfl ?_
                refine ST.nil (And.intro (by decide +kernel) ?_)
                change SC _ _ _ _ _
                refine SC.region ?_
                refine SO.op (Wanted.free rfl) rfl (A_bin (v := .d (eI (w64 (y249 + (1 : Int))))) rfl rfl rfl (fun X Y => b_i64_add _ X Y y249 (1 : Int))) ?_
                refine SO.op (Wanted.free rfl) rfl (A_move (v := .d (eI (w64 (y249 + (1 : Int))))) rfl rfl) ?_
                refine SO.nil ?_
                have q := Option.some.inj h3; subst q
                exact lf (Wk.trans (Wk.env (e' := [(1, .d ((eL 1 eB) p1)), (2, .d (eS (List.drop r286.toNat y247))), (8, .slc 5 3 0 ((y248 ++ [r288]).length) none), (27, .d ((eL 1 eI) p0)), (28, .d (eI (p0.length : Int))), (29, .d (eI (w64 (y249 + (1 : Int)))))]) (EW.cons (AW.refl _) (EW.cons (AW.refl _) (EW.cons (AW.refl _) (EW.cons (AW.refl _) (EW.cons (AW.refl _) (EW.cons (AW.refl _) EW.nil))))))) (Wk.canon (ι := [5]) (roots := [5]) (os := [.row 3 (List.map eApiValue (y248 ++ [r288])) true]) (e' := [(1, .d ((eL 1 eB) p1)), (2, .d (eS (List.drop r286.toNat y247))), (8, .slc 0 3 0 ((y248 ++ [r288]).length) none), (27, .d ((eL 1 eI) p0)), (28, .d (eI (p0.length : Int))), (29, .d (eI (w64 (y249 + (1 : Int)))))]) rfl rfl rfl))
          · replace h3 := cf hb274 h3
            refine SC.exit ?_
            have q := Option.some.inj h3; subst q
            have q : _ = _ := hv3; subst q
            have q := Option.some.inj h1; subst q
            exact lf (Wk.env (e' := [(2, .d (eS y247)), (8, .slc 0 3 0 y248.length none)]) (EW.cons (AW.refl _) (EW.cons (AW.refl _) EW.nil)))
        · rintro ⟨y225, y226⟩ h0
          change SC _ _ _ ⟨mk 62 [(2, .d (eS y225)), (8, .slc 0 3 0 y226.length none)], [.row 3 (List.map eApiValue y226) true]⟩ _
          refine SC.seq ?_
          refine SC.seq ?_
          refine SC.region ?_
          refine SO.op (Wanted.free rfl) rfl (A_move (v := .d (eS y225)) rfl rfl) ?_
          refine SO.op (Wanted.free rfl) rfl (A_bin (v := .d (eB (y225 != ([] : List UInt8)))) rfl rfl rfl (fun X Y => b_str_neq _ X Y y225 ([] : List UInt8))) ?_
          refine SO.nil ?_
          change SC _ _ _ _ _
          refine SC.condB (t := (y225 != ([] : List UInt8))) rfl (fun hb294 => ?_) (fun hb294 => ?_)
          · replace h0 := ct hb294 h0
            refine SC.seq ?_
            refine SC.region ?_
            refine SO.op (Wanted.free rfl) rfl (A_assign (v := .d .nils) rfl rfl) ?_
            refine SO.op (Wanted.free rfl) rfl (A_assign (v := .d (eI (2 : Int))) rfl rfl) ?_
            refine SO.nil ?_
            change SC _ _ _ _ _
            refine SC.ret ?_
            have q := Option.some.inj h0; subst q
            exact finR (Wk.trans (Wk.env (e' := [(6, .d ((eL 3 eApiValue) ([] : List ApiValue))), (7, .d (eI (2 : Int)))]) (EW.cons (AW.nl _) (EW.cons (AW.refl _) EW.nil))) (Wk.canon (ι := []) (roots := []) (os := []) (e' := [(6, .d ((eL 3 eApiValue) ([] : List ApiValue))), (7, .d (eI (2 : Int)))]) rfl rfl rfl)) (lresT rfl (lresT rfl lresN)) rfl
          · replace h0 := cf hb294 h0
            refine SC.skip ?_
            change SC _ _ _ _ _
            refine SC.seq ?_
            refine SC.region ?_
            refine SO.op (Wanted.free rfl) rfl (A_move (v := .slc 0 3 0 y226.length none) rfl rfl) ?_
            refine SO.op (Wanted.free rfl) rfl (A_assign (v := .slc 0 3 0 y226.length none) rfl rfl) ?_
            refine SO.op (Wanted.free rfl) rfl (A_assign (v := .d (eI (0 : Int))) rfl rfl) ?_
            refine SO.nil ?_
            change SC _ _ _ _ _
            refine SC.ret ?_
            have q := Option.some.inj h0; subst q
            exact finR (Wk.trans (Wk.frz (i := 6) (x := .slc 0 3 0 y226.length none) (y := ((eL 3 eApiValue) y226)) (σ1 := [.row 3 (List.map eApiValue y226) false]) rfl rfl (frz_full rfl rfl)) (Wk.trans (Wk.env (e' := [(6, .d ((eL 3 eApiValue) y226)), (7, .d (eI (0 : Int)))]) (EW.cons (AW.refl _) (EW.cons (AW.refl _) EW.nil))) (Wk.canon (ι := []) (roots := []) (os := []) (e' := [(6, .d ((eL 3 eApiValue) y226)), (7, .d (eI (0 : Int)))]) rfl rfl rfl))) (lresT rfl (lresT rfl lresN)) rfl
end Lv
