/- Part of the proof of a law: functions and their walks. -/
import Derived.Test.YtnlnojicpchmiaaDoorXPrims
namespace Lv
open Go Go.Proofs
set_option linter.unusedVariables false
set_option linter.unusedSimpArgs false
set_option linter.unusedSectionVars false
set_option maxRecDepth 100000
variable [BaseTab] [TabOk]
/-- granary/value.Valid -/
noncomputable def value_Valid (p0 : ApiValue) : Option Bool :=
  bif (p0.Kind == (0 : Int)) then
    some (eqApiValue p0 (ApiValue.mk (0 : Int) (0 : UInt64) ([] : List UInt8)))
  else
    Option.bind (α := Bool)
      (bif (p0.Kind == (1 : Int)) then
        some (p0.Kind == (1 : Int))
      else
        some (p0.Kind == (2 : Int)))
      fun y31 =>
    bif y31 then
      some (p0.S == ([] : List UInt8))
    else
      bif (p0.Kind == (3 : Int)) then
        Option.bind (α := Bool)
          (bif (decide (p0.N ≤ (1 : UInt64))) then
            some (p0.S == ([] : List UInt8))
          else
            some false)
          fun y37 =>
        some y37
      else
        bif (p0.Kind == (4 : Int)) then
          Option.bind (α := Bool)
            (bif (p0.N == (0 : UInt64)) then
              some (decide ((p0.S.length : Int) ≤ (64 : Int)))
            else
              some false)
            fun y42 =>
          some y42
        else
          bif (p0.Kind == (5 : Int)) then
            Option.bind (α := Bool)
              (bif (p0.N == (0 : UInt64)) then
                bif (decide ((p0.S.length : Int) ≤ (64 : Int))) then
                  Option.bind (validF p0.S) fun r54 =>
                  some r54
                else
                  some false
              else
                some false)
              fun y50 =>
            some y50
          else
            some false
theorem value_Valid_ok (p0 : ApiValue) (r : Bool) (h0 : value_Valid p0 = some r) : CallAt Tryd.prog 27 [.d (eApiValue p0)] [] (.d (eB r)) [] := by
  unfold value_Valid at h0
  refine CallAt.of Tryd.func27 rfl ?_
  refine SC.post (Q' := fun e s => ∃ s1, Wk _ s s1 ∧ Fin _ _ _ _ e s1) ?_ (fun _ _ h => h)
  refine SC.wk (s1 := ⟨mk 53 [(0, .d (eApiValue p0))], []⟩) (Wk.begin (n := 53) (Nat.le_of_ble_eq_true rfl)) ?_
  refine SC.seq ?_
  refine SC.region ?_
  refine SO.op (Wanted.free rfl) rfl (A_box (v := .d (eApiValue p0)) (σ' := [.box (.d (eApiValue p0))]) rfl rfl rfl rfl rfl) ?_
  refine SO.op (Wanted.free rfl) rfl (A_assign (v := .d (eB false)) rfl rfl) ?_
  refine SO.nil ?_
  change SC _ _ _ _ _
  refine SC.seq ?_
  refine SC.seq ?_
  refine SC.region ?_
  refine SO.op (Wanted.free rfl) rfl (A_fieldAddr rfl rfl (fa_ref fo35_0 ts3 rfl)) ?_
  refine SO.op (Wanted.free rfl) rfl (A_load (v := .d (eI p0.Kind)) rfl rfl (ld_box ts3 ta3 rfl rfl)) ?_
  refine SO.nil ?_
  change SC _ _ _ _ _
  refine SC.blk ?_
  refine SC.seq ?_
  refine SC.region ?_
  refine SO.op (Wanted.free rfl) rfl (A_bin (v := .d (eB (p0.Kind == (0 : Int)))) rfl rfl rfl (fun X Y => b_i64_eql _ X Y p0.Kind (0 : Int))) ?_
  refine SO.op (Wanted.free rfl) rfl (A_assign (v := .d (eB (p0.Kind == (0 : Int)))) rfl rfl) ?_
  refine SO.nil ?_
  change SC _ _ _ _ _
  refine SC.condB (t := (p0.Kind == (0 : Int))) rfl (fun hb29 => ?_) (fun hb29 => ?_)
  · replace h0 := ct hb29 h0
    refine SC.seq ?_
    refine SC.region ?_
    refine SO.op (Wanted.free rfl) rfl (A_load (v := .d (eApiValue p0)) rfl rfl (ld_box ts35 ta35 rfl rfl)) ?_
    refine SO.op (Wanted.free rfl) rfl (A_build (v := .d (eApiValue (ApiValue.mk (0 : Int) (0 : UInt64) ([] : List UInt8)))) rfl rfl (bd35_ )) ?_
    refine SO.op (Wanted.free rfl) rfl (A_bin (v := .d (eB (eqApiValue p0 (ApiValue.mk (0 : Int) (0 : UInt64) ([] : List UInt8))))) rfl rfl rfl (fun X Y => eqApiValue_eql_35 X Y p0 (ApiValue.mk (0 : Int) (0 : UInt64) ([] : List UInt8)))) ?_
    refine SO.op (Wanted.free rfl) rfl (A_assign (v := .d (eB (eqApiValue p0 (ApiValue.mk (0 : Int) (0 : UInt64) ([] : List UInt8))))) rfl rfl) ?_
    refine SO.nil ?_
    change SC _ _ _ _ _
    refine SC.ret ?_
    have q := Option.some.inj h0; subst q
    exact finR (Wk.trans (Wk.env (e' := [(2, .d (eB (eqApiValue p0 (ApiValue.mk (0 : Int) (0 : UInt64) ([] : List UInt8)))))]) (EW.cons (AW.refl _) EW.nil)) (Wk.canon (ι := []) (roots := []) (os := []) (e' := [(2, .d (eB (eqApiValue p0 (ApiValue.mk (0 : Int) (0 : UInt64) ([] : List UInt8)))))]) rfl rfl rfl)) (lresT rfl lresN) rfl
  · replace h0 := cf hb29 h0
    refine SC.seqP h0 (fun y => ⟨mk 53 [(1, .ref 0 0 0), (4, .d (eI p0.Kind)), (10, .d (eB y))], [.box (.d (eApiValue p0))]⟩) ?_ ?_
    · intro u1_32 h1
      refine SC.seq ?_
      refine SC.region ?_
      refine SO.op (Wanted.free rfl) rfl (A_bin (v := .d (eB (p0.Kind == (1 : Int)))) rfl rfl rfl (fun X Y => b_i64_eql _ X Y p0.Kind (1 : Int))) ?_
      refine SO.op (Wanted.free rfl) rfl (A_assign (v := .d (eB (p0.Kind == (1 : Int)))) rfl rfl) ?_
      refine SO.nil ?_
      change SC _ _ _ _ _
      refine SC.condB (t := (p0.Kind == (1 : Int))) rfl (fun hb33 => ?_) (fun hb33 => ?_)
      · replace h1 := ct hb33 h1
        refine SC.skip ?_
        have q := Option.some.inj h1; subst q
        exact (Wk.env (e' := [(1, .ref 0 0 0), (4, .d (eI p0.Kind)), (10, .d (eB (p0.Kind == (1 : Int))))]) (EW.cons (AW.refl _) (EW.cons (AW.refl _) (EW.cons (AW.refl _) EW.nil))))
      · replace h1 := cf hb33 h1
        refine SC.region ?_
        refine SO.op (Wanted.free rfl) rfl (A_bin (v := .d (eB (p0.Kind == (2 : Int)))) rfl rfl rfl (fun X Y => b_i64_eql _ X Y p0.Kind (2 : Int))) ?_
        refine SO.op (Wanted.free rfl) rfl (A_assign (v := .d (eB (p0.Kind == (2 : Int)))) rfl rfl) ?_
        refine SO.nil ?_
        have q := Option.some.inj h1; subst q
        exact (Wk.env (e' := [(1, .ref 0 0 0), (4, .d (eI p0.Kind)), (10, .d (eB (p0.Kind == (2 : Int))))]) (EW.cons (AW.refl _) (EW.cons (AW.refl _) (EW.cons (AW.refl _) EW.nil))))
    · rintro y31 h0
      change SC _ _ _ ⟨mk 53 [(1, .ref 0 0 0), (4, .d (eI p0.Kind)), (10, .d (eB y31))], [.box (.d (eApiValue p0))]⟩ _
      refine SC.condB (t := y31) rfl (fun hb34 => ?_) (fun hb34 => ?_)
      · replace h0 := ct hb34 h0
        refine SC.seq ?_
        refine SC.region ?_
        refine SO.op (Wanted.free rfl) rfl (A_fieldAddr rfl rfl (fa_ref fo35_2 ts9 rfl)) ?_
        refine SO.op (Wanted.free rfl) rfl (A_load (v := .d (eS p0.S)) rfl rfl (ld_box ts9 ta9 rfl rfl)) ?_
        refine SO.op (Wanted.free rfl) rfl (A_bin (v := .d (eB (p0.S == ([] : List UInt8)))) rfl rfl rfl (fun X Y => b_str_eql _ X Y p0.S ([] : List UInt8))) ?_
        refine SO.op (Wanted.free rfl) rfl (A_assign (v := .d (eB (p0.S == ([] : List UInt8)))) rfl rfl) ?_
        refine SO.nil ?_
        change SC _ _ _ _ _
        refine SC.ret ?_
        have q := Option.some.inj h0; subst q
        exact finR (Wk.trans (Wk.env (e' := [(2, .d (eB (p0.S == ([] : List UInt8))))]) (EW.cons (AW.refl _) EW.nil)) (Wk.canon (ι := []) (roots := []) (os := []) (e' := [(2, .d (eB (p0.S == ([] : List UInt8))))]) rfl rfl rfl)) (lresT rfl lresN) rfl
      · replace h0 := cf hb34 h0
        refine SC.seq ?_
        refine SC.region ?_
        refine SO.op (Wanted.free rfl) rfl (A_bin (v := .d (eB (p0.Kind == (3 : Int)))) rfl rfl rfl (fun X Y => b_i64_eql _ X Y p0.Kind (3 : Int))) ?_
        refine SO.op (Wanted.free rfl) rfl (A_assign (v := .d (eB (p0.Kind == (3 : Int)))) rfl rfl) ?_
        refine SO.nil ?_
        change SC _ _ _ _ _
        refine SC.condB (t := (p0.Kind == (3 : Int))) rfl (fun hb35 => ?_) (fun hb35 => ?_)
        · replace h0 := ct hb35 h0
          refine SC.seqP h0 (fun y => ⟨mk 53 [(2, .d (eB y))], []⟩) ?_ ?_
          · intro u1_38 h1
            refine SC.region ?_
            refine SO.op (Wanted.free rfl) rfl (A_fieldAddr rfl rfl (fa_ref fo35_1 ts33 rfl)) ?_
            refine SO.op (Wanted.free rfl) rfl (A_load (v := .d (eU64 p0.N)) rfl rfl (ld_box ts33 ta33 rfl rfl)) ?_
            refine SO.op (Wanted.free rfl) rfl (A_bin (v := .d (eB (decide (p0.N ≤ (1 : UInt64))))) rfl rfl rfl (fun X Y => b_u64_leq _ X Y p0.N (1 : UInt64))) ?_
            refine SO.op (Wanted.free rfl) rfl (A_move (v := .d (eB (decide (p0.N ≤ (1 : UInt64))))) rfl rfl) ?_
            refine SO.split (fun hb39 => ?_) (fun hb39 => ?_)
            · replace h1 := ct hb39 h1
              refine SO.op (Wanted.by rfl rfl rfl rfl) rfl (A_fieldAddr rfl rfl (fa_ref fo35_2 ts9 rfl)) ?_
              refine SO.op (Wanted.by rfl rfl rfl rfl) rfl (A_load (v := .d (eS p0.S)) rfl rfl (ld_box ts9 ta9 rfl rfl)) ?_
              refine SO.op (Wanted.by rfl rfl rfl rfl) rfl (A_bin (v := .d (eB (p0.S == ([] : List UInt8)))) rfl rfl rfl (fun X Y => b_str_eql _ X Y p0.S ([] : List UInt8))) ?_
              refine SO.op (Wanted.free rfl) rfl (A_pickT (v := .d (eB (p0.S == ([] : List UInt8)))) rfl rfl rfl) ?_
              refine SO.op (Wanted.free rfl) rfl (A_assign (v := .d (eB (p0.S == ([] : List UInt8)))) rfl rfl) ?_
              refine SO.nil ?_
              have q := Option.some.inj h1; subst q
              exact (Wk.trans (Wk.env (e' := [(2, .d (eB (p0.S == ([] : List UInt8))))]) (EW.cons (AW.refl _) EW.nil)) (Wk.canon (ι := []) (roots := []) (os := []) (e' := [(2, .d (eB (p0.S == ([] : List UInt8))))]) rfl rfl rfl))
            · replace h1 := cf hb39 h1
              refine SO.skip (Wanted.by rfl rfl rfl rfl) rfl ?_
              refine SO.skip (Wanted.by rfl rfl rfl rfl) rfl ?_
              refine SO.skip (Wanted.by rfl rfl rfl rfl) rfl ?_
              refine SO.op (Wanted.free rfl) rfl (A_pickF (v := .d (eB false)) rfl rfl rfl) ?_
              refine SO.op (Wanted.free rfl) rfl (A_assign (v := .d (eB false)) rfl rfl) ?_
              refine SO.nil ?_
              have q := Option.some.inj h1; subst q
              exact (Wk.trans (Wk.env (e' := [(2, .d (eB false))]) (EW.cons (AW.refl _) EW.nil)) (Wk.canon (ι := []) (roots := []) (os := []) (e' := [(2, .d (eB false))]) rfl rfl rfl))
          · rintro y37 h0
            change SC _ _ _ ⟨mk 53 [(2, .d (eB y37))], []⟩ _
            refine SC.ret ?_
            have q := Option.some.inj h0; subst q
            exact finR (Wk.env (e' := [(2, .d (eB y37))]) (EW.cons (AW.refl _) EW.nil)) (lresT rfl lresN) rfl
        · replace h0 := cf hb35 h0
          refine SC.seq ?_
          refine SC.region ?_
          refine SO.op (Wanted.free rfl) rfl (A_bin (v := .d (eB (p0.Kind == (4 : Int)))) rfl rfl rfl (fun X Y => b_i64_eql _ X Y p0.Kind (4 : Int))) ?_
          refine SO.op (Wanted.free rfl) rfl (A_assign (v := .d (eB (p0.Kind == (4 : Int)))) rfl rfl) ?_
          refine SO.nil ?_
          change SC _ _ _ _ _
          refine SC.condB (t := (p0.Kind == (4 : Int))) rfl (fun hb40 => ?_) (fun hb40 => ?_)
          · replace h0 := ct hb40 h0
            refine SC.seqP h0 (fun y => ⟨mk 53 [(2, .d (eB y))], []⟩) ?_ ?_
            · intro u1_43 h1
              refine SC.region ?_
              refine SO.op (Wanted.free rfl) rfl (A_fieldAddr rfl rfl (fa_ref fo35_1 ts33 rfl)) ?_
              refine SO.op (Wanted.free rfl) rfl (A_load (v := .d (eU64 p0.N)) rfl rfl (ld_box ts33 ta33 rfl rfl)) ?_
              refine SO.op (Wanted.free rfl) rfl (A_bin (v := .d (eB (p0.N == (0 : UInt64)))) rfl rfl rfl (fun X Y => b_u64_eql _ X Y p0.N (0 : UInt64))) ?_
              refine SO.op (Wanted.free rfl) rfl (A_move (v := .d (eB (p0.N == (0 : UInt64)))) rfl rfl) ?_
              refine SO.split (fun hb44 => ?_) (fun hb44 => ?_)
              · replace h1 := ct hb44 h1
                refine SO.op (Wanted.by rfl rfl rfl rfl) rfl (A_fieldAddr rfl rfl (fa_ref fo35_2 ts9 rfl)) ?_
                refine SO.op (Wanted.by rfl rfl rfl rfl) rfl (A_load (v := .d (eS p0.S)) rfl rfl (ld_box ts9 ta9 rfl rfl)) ?_
                refine SO.op (Wanted.by rfl rfl rfl rfl) rfl (A_len (v := .d (eI (p0.S.length : Int))) rfl rfl rfl rfl (len_str un9)) ?_
                refine SO.op (Wanted.by rfl rfl rfl rfl) rfl (A_bin (v := .d (eB (decide ((p0.S.length : Int) ≤ (64 : Int))))) rfl rfl rfl (fun X Y => b_i64_leq _ X Y (p0.S.length : Int) (64 : Int))) ?_
                refine SO.op (Wanted.free rfl) rfl (A_pickT (v := .d (eB (decide ((p0.S.length : Int) ≤ (64 : Int))))) rfl rfl rfl) ?_
                refine SO.op (Wanted.free rfl) rfl (A_assign (v := .d (eB (decide ((p0.S.length : Int) ≤ (64 : Int))))) rfl rfl) ?_
                refine SO.nil ?_
                have q := Option.some.inj h1; subst q
                exact (Wk.trans (Wk.env (e' := [(2, .d (eB (decide ((p0.S.length : Int) ≤ (64 : Int)))))]) (EW.cons (AW.refl _) EW.nil)) (Wk.canon (ι := []) (roots := []) (os := []) (e' := [(2, .d (eB (decide ((p0.S.length : Int) ≤ (64 : Int)))))]) rfl rfl rfl))
              · replace h1 := cf hb44 h1
                refine SO.skip (Wanted.by rfl rfl rfl rfl) rfl ?_
                refine SO.skip (Wanted.by rfl rfl rfl rfl) rfl ?_
                refine SO.skip (Wanted.by rfl rfl rfl rfl) rfl ?_
                refine SO.skip (Wanted.by rfl rfl rfl rfl) rfl ?_
                refine SO.op (Wanted.free rfl) rfl (A_pickF (v := .d (eB false)) rfl rfl rfl) ?_
                refine SO.op (Wanted.free rfl) rfl (A_assign (v := .d (eB false)) rfl rfl) ?_
                refine SO.nil ?_
                have q := Option.some.inj h1; subst q
                exact (Wk.trans (Wk.env (e' := [(2, .d (eB false))]) (EW.cons (AW.refl _) EW.nil)) (Wk.canon (ι := []) (roots := []) (os := []) (e' := [(2, .d (eB false))]) rfl rfl rfl))
            · rintro y42 h0
              change SC _ _ _ ⟨mk 53 [(2, .d (eB y42))], []⟩ _
              refine SC.ret ?_
              have q := Option.some.inj h0; subst q
              exact finR (Wk.env (e' := [(2, .d (eB y42))]) (EW.cons (AW.refl _) EW.nil)) (lresT rfl lresN) rfl
          · replace h0 := cf hb40 h0
            refine SC.seq ?_
            refine SC.region ?_
            refine SO.op (Wanted.free rfl) rfl (A_bin (v := .d (eB (p0.Kind == (5 : Int)))) rfl rfl rfl (fun X Y => b_i64_eql _ X Y p0.Kind (5 : Int))) ?_
            refine SO.op (Wanted.free rfl) rfl (A_assign (v := .d (eB (p0.Kind == (5 : Int)))) rfl rfl) ?_
            refine SO.nil ?_
            change SC _ _ _ _ _
            refine SC.condB (t := (p0.Kind == (5 : Int))) rfl (fun hb45 => ?_) (fun hb45 => ?_)
            · replace h0 := ct hb45 h0
              refine SC.seqP h0 (fun y => ⟨mk 53 [(2, .d (eB y))], []⟩) ?_ ?_
              · intro u1_51 h1
                refine SC.region ?_
                refine SO.op (Wanted.free rfl) rfl (A_fieldAddr rfl rfl (fa_ref fo35_1 ts33 rfl)) ?_
                refine SO.op (Wanted.free rfl) rfl (A_load (v := .d (eU64 p0.N)) rfl rfl (ld_box ts33 ta33 rfl rfl)) ?_
                refine SO.op (Wanted.free rfl) rfl (A_bin (v := .d (eB (p0.N == (0 : UInt64)))) rfl rfl rfl (fun X Y => b_u64_eql _ X Y p0.N (0 : UInt64))) ?_
                refine SO.op (Wanted.free rfl) rfl (A_move (v := .d (eB (p0.N == (0 : UInt64)))) rfl rfl) ?_
                refine SO.split (fun hb52 => ?_) (fun hb52 => ?_)
                · replace h1 := ct hb52 h1
                  refine SO.op (Wanted.by rfl rfl rfl rfl) rfl (A_fieldAddr rfl rfl (fa_ref fo35_2 ts9 rfl)) ?_
                  refine SO.op (Wanted.by rfl rfl rfl rfl) rfl (A_load (v := .d (eS p0.S)) rfl rfl (ld_box ts9 ta9 rfl rfl)) ?_
                  refine SO.op (Wanted.by rfl rfl rfl rfl) rfl (A_len (v := .d (eI (p0.S.length : Int))) rfl rfl rfl rfl (len_str un9)) ?_
                  refine SO.op (Wanted.by rfl rfl rfl rfl) rfl (A_bin (v := .d (eB (decide ((p0.S.length : Int) ≤ (64 : Int))))) rfl rfl rfl (fun X Y => b_i64_leq _ X Y (p0.S.length : Int) (64 : Int))) ?_
                  refine SO.op (Wanted.free rfl) rfl (A_pickT (v := .d (eB (decide ((p0.S.length : Int) ≤ (64 : Int))))) rfl rfl rfl) ?_
                  refine SO.op (Wanted.free rfl) rfl (A_move (v := .d (eB (decide ((p0.S.length : Int) ≤ (64 : Int))))) rfl rfl) ?_
                  refine SO.split (fun hb53 => ?_) (fun hb53 => ?_)
                  · replace h1 := ct hb53 h1
                    refine SO.op (Wanted.by rfl rfl rfl rfl) rfl (A_fieldAddr rfl rfl (fa_ref fo35_2 ts9 rfl)) ?_
                    refine SO.op (Wanted.by rfl rfl rfl rfl) rfl (A_load (v := .d (eS p0.S)) rfl rfl (ld_box ts9 ta9 rfl rfl)) ?_
                    obtain ⟨r54, hq55, h1⟩ := ob h1
                    refine SO.call0 (r := .d (eB r54)) (Wanted.by rfl rfl rfl rfl) rfl rfl rfl rfl rfl cb38 rfl (fun _ => rfl) (fun _ => rfl) (valid_ok p0.S _ hq55) ?_
                    refine SO.op (Wanted.free rfl) rfl (A_pickT (v := .d (eB r54)) rfl rfl rfl) ?_
                    refine SO.op (Wanted.free rfl) rfl (A_assign (v := .d (eB r54)) rfl rfl) ?_
                    refine SO.nil ?_
                    have q := Option.some.inj h1; subst q
                    exact (Wk.trans (Wk.env (e' := [(2, .d (eB r54))]) (EW.cons (AW.refl _) EW.nil)) (Wk.canon (ι := []) (roots := []) (os := []) (e' := [(2, .d (eB r54))]) rfl rfl rfl))
                  · replace h1 := cf hb53 h1
                    refine SO.skip (Wanted.by rfl rfl rfl rfl) rfl ?_
                    refine SO.skip (Wanted.by rfl rfl rfl rfl) rfl ?_
                    refine SO.skip (Wanted.by rfl rfl rfl rfl) rfl ?_
                    refine SO.op (Wanted.free rfl) rfl (A_pickF (v := .d (eB false)) rfl rfl rfl) ?_
                    refine SO.op (Wanted.free rfl) rfl (A_assign (v := .d (eB false)) rfl rfl) ?_
                    refine SO.nil ?_
                    have q := Option.some.inj h1; subst q
                    exact (Wk.trans (Wk.env (e' := [(2, .d (eB false))]) (EW.cons (AW.refl _) EW.nil)) (Wk.canon (ι := []) (roots := []) (os := []) (e' := [(2, .d (eB false))]) rfl rfl rfl))
                · replace h1 := cf hb52 h1
                  refine SO.skip (Wanted.by rfl rfl rfl rfl) rfl ?_
                  refine SO.skip (Wanted.by rfl rfl rfl rfl) rfl ?_
                  refine SO.skip (Wanted.by rfl rfl rfl rfl) rfl ?_
                  refine SO.skip (Wanted.by rfl rfl rfl rfl) rfl ?_
                  refine SO.op (Wanted.free rfl) rfl (A_pickF (v := .d (eB false)) rfl rfl rfl) ?_
                  refine SO.op (Wanted.free rfl) rfl (A_move (v := .d (eB false)) rfl rfl) ?_
                  refine SO.skip (Wanted.by rfl rfl rfl rfl) rfl ?_
                  refine SO.skip (Wanted.by rfl rfl rfl rfl) rfl ?_
                  refine SO.skip (Wanted.by rfl rfl rfl rfl) rfl ?_
                  refine SO.op (Wanted.free rfl) rfl (A_pickF (v := .d (eB false)) rfl rfl rfl) ?_
                  refine SO.op (Wanted.free rfl) rfl (A_assign (v := .d (eB false)) rfl rfl) ?_
                  refine SO.nil ?_
                  have q := Option.some.inj h1; subst q
                  exact (Wk.trans (Wk.env (e' := [(2, .d (eB false))]) (EW.cons (AW.refl _) EW.nil)) (Wk.canon (ι := []) (roots := []) (os := []) (e' := [(2, .d (eB false))]) rfl rfl rfl))
              · rintro y50 h0
                change SC _ _ _ ⟨mk 53 [(2, .d (eB y50))], []⟩ _
                refine SC.ret ?_
                have q := Option.some.inj h0; subst q
                exact finR (Wk.env (e' := [(2, .d (eB y50))]) (EW.cons (AW.refl _) EW.nil)) (lresT rfl lresN) rfl
            · replace h0 := cf hb45 h0
              refine SC.skip ?_
              change SC _ _ _ _ _
              refine SC.seq ?_
              refine SC.region ?_
              refine SO.op (Wanted.free rfl) rfl (A_assign (v := .d (eB false)) rfl rfl) ?_
              refine SO.nil ?_
              change SC _ _ _ _ _
              refine SC.ret ?_
              have q := Option.some.inj h0; subst q
              exact finR (Wk.trans (Wk.env (e' := [(2, .d (eB false))]) (EW.cons (AW.refl _) EW.nil)) (Wk.canon (ι := []) (roots := []) (os := []) (e' := [(2, .d (eB false))]) rfl rfl rfl)) (lresT rfl lresN) rfl

/-- granary/key.Encode$1 -/
noncomputable def key_Encode_1 (p0 : ApiValue) : Option Bool :=
  Option.bind (value_Valid p0) fun r4 =>
  some (!r4)
theorem key_Encode_1_ok (p0 : ApiValue) (r : Bool) (h0 : key_Encode_1 p0 = some r) : CallAt Tryd.prog 26 [.d (eApiValue p0)] [] (.d (eB r)) [] := by
  unfold key_Encode_1 at h0
  refine CallAt.of Tryd.func26 rfl ?_
  refine SC.post (Q' := fun e s => ∃ s1, Wk _ s s1 ∧ Fin _ _ _ _ e s1) ?_ (fun _ _ h => h)
  refine SC.wk (s1 := ⟨mk 6 [(0, .d (eApiValue p0))], []⟩) (Wk.begin (n := 6) (Nat.le_of_ble_eq_true rfl)) ?_
  refine SC.seq ?_
  refine SC.region ?_
  refine SO.op (Wanted.free rfl) rfl (A_box (v := .d (eApiValue p0)) (σ' := [.box (.d (eApiValue p0))]) rfl rfl rfl rfl rfl) ?_
  refine SO.op (Wanted.free rfl) rfl (A_assign (v := .d (eB false)) rfl rfl) ?_
  refine SO.nil ?_
  change SC _ _ _ _ _
  refine SC.seq ?_
  refine SC.region ?_
  refine SO.op (Wanted.free rfl) rfl (A_load (v := .d (eApiValue p0)) rfl rfl (ld_box ts35 ta35 rfl rfl)) ?_
  obtain ⟨r4, hq5, h0⟩ := ob h0
  refine SO.call0 (r := .d (eB r4)) (Wanted.free rfl) rfl rfl rfl rfl rfl cb27 rfl (fun _ => rfl) (fun _ => rfl) (value_Valid_ok p0 _ hq5) ?_
  refine SO.op (Wanted.free rfl) rfl (A_un (v := .d (eB (!r4))) rfl rfl rfl rfl) ?_
  refine SO.op (Wanted.free rfl) rfl (A_assign (v := .d (eB (!r4))) rfl rfl) ?_
  refine SO.nil ?_
  change SC _ _ _ _ _
  refine SC.ret ?_
  have q := Option.some.inj h0; subst q
  exact finR (Wk.trans (Wk.env (e' := [(2, .d (eB (!r4)))]) (EW.cons (AW.refl _) EW.nil)) (Wk.canon (ι := []) (roots := []) (os := []) (e' := [(2, .d (eB (!r4)))]) rfl rfl rfl)) (lresT rfl lresN) rfl

/-- slices.IndexFunc[[]granary/api.Value,granary/api.Value] -/
noncomputable def slices_IndexFunc_api_Value_api_Value (p0 : List ApiValue) : Option Int :=
  bindE (Y := Unit) (E := Int)
    (Option.bind (α := Unit ⊕ Int)
      (loop (Y := Int) (W := Unit ⊕ Int) (fun y69 =>
        bif (decide (y69 < (p0.length : Int))) then
          Option.bind (getI p0 y69) fun v79 =>
          Option.bind (key_Encode_1 v79) fun r80 =>
          bif r80 then
            some (Sum.inr (Sum.inr y69))
          else
            some (Sum.inl (w64 (y69 + (1 : Int))))
        else
          some (Sum.inr (Sum.inl ()))) (0 : Int))
      (Sum.elim (fun e => some (Sum.inl e)) (fun e => some (Sum.inr e))))
    (fun _ =>
      some (-1 : Int))
    (fun e => some e)
theorem slices_IndexFunc_api_Value_api_Value_ok (p0 : List ApiValue) (r : Int) (h0 : slices_IndexFunc_api_Value_api_Value p0 = some r) : CallAt Tryd.prog 37 [.d ((eL 3 eApiValue) p0), .fn (.func 26) [] []] [] (.d (eI r)) [] := by
  unfold slices_IndexFunc_api_Value_api_Value at h0
  refine CallAt.of Tryd.func37 rfl ?_
  refine SC.post (Q' := fun e s => ∃ s1, Wk _ s s1 ∧ Fin _ _ _ _ e s1) ?_ (fun _ _ h => h)
  refine SC.wk (s1 := ⟨mk 19 [(0, .d ((eL 3 eApiValue) p0)), (1, .fn (.func 26) [] [])], []⟩) (Wk.begin (n := 19) (Nat.le_of_ble_eq_true rfl)) ?_
  refine SC.seq ?_
  refine SC.region ?_
  refine SO.op (Wanted.free rfl) rfl (A_assign (v := .d (eI (0 : Int))) rfl rfl) ?_
  refine SO.nil ?_
  change SC _ _ _ _ _
  refine SC.seqB h0 (fun y => ⟨mk 19 [], []⟩) ?_ ?_
  · intro u1_63 h1 h0
    refine SC.seq ?_
    refine SC.region ?_
    refine SO.op (Wanted.free rfl) rfl (A_move (v := .d ((eL 3 eApiValue) p0)) rfl rfl) ?_
    refine SO.op (Wanted.free rfl) rfl (A_len (v := .d (eI (p0.length : Int))) rfl rfl rfl rfl (len_lst un22)) ?_
    refine SO.op (Wanted.free rfl) rfl (A_move (v := .d (eI (0 : Int))) rfl rfl) ?_
    refine SO.nil ?_
    change SC _ _ _ _ _
    refine SC.blk ?_
    obtain ⟨u2_77, h2, h1⟩ := ob h1
    refine SC.loopB h2 (fun y => ⟨mk 19 [(0, .d ((eL 3 eApiValue) p0)), (1, .fn (.func 26) [] []), (7, .d (eI (p0.length : Int))), (8, .d (eI y))], []⟩) (Wk.env (e' := [(0, .d ((eL 3 eApiValue) p0)), (1, .fn (.func 26) [] []), (7, .d (eI (p0.length : Int))), (8, .d (eI (0 : Int)))]) (EW.cons (AW.refl _) (EW.cons (AW.refl _) (EW.cons (AW.refl _) (EW.cons (AW.refl _) EW.nil))))) ?_
    intro n83
    rintro y69 w2_76 h3 hv3
    change SC _ _ _ ⟨mk 19 [(0, .d ((eL 3 eApiValue) p0)), (1, .fn (.func 26) [] []), (7, .d (eI (p0.length : Int))), (8, .d (eI y69))], []⟩ _
    refine SC.seq ?_
    refine SC.region ?_
    refine SO.op (Wanted.free rfl) rfl (A_bin (v := .d (eB (decide (y69 < (p0.length : Int))))) rfl rfl rfl (fun X Y => b_i64_lss _ X Y y69 (p0.length : Int))) ?_
    refine SO.nil ?_
    change SC _ _ _ _ _
    refine SC.seq ?_
    refine SC.condB (t := (decide (y69 < (p0.length : Int)))) rfl (fun hb78 => ?_) (fun hb78 => ?_)
    · replace h3 := ct hb78 h3
      refine SC.skip ?_
      change SC _ _ _ _ _
      refine SC.seq ?_
      refine SC.blk ?_
      refine SC.seq ?_
      refine SC.region ?_
      refine SO.op (Wanted.free rfl) rfl (A_move (v := .d (eI y69)) rfl rfl) ?_
      refine SO.op (Wanted.free rfl) rfl (A_assign (v := .d (eI y69)) rfl rfl) ?_
      refine SO.nil ?_
      change SC _ _ _ _ _
      refine SC.seq ?_
      refine SC.region ?_
      refine SO.op (Wanted.free rfl) rfl (A_move (v := .fn (.func 26) [] []) rfl rfl) ?_
      refine SO.op (Wanted.free rfl) rfl (A_move (v := .d ((eL 3 eApiValue) p0)) rfl rfl) ?_
      refine SO.op (Wanted.free rfl) rfl (A_move (v := .d (eI y69)) rfl rfl) ?_
      obtain ⟨v79, hv79, h3⟩ := ob h3
      refine SO.op (Wanted.free rfl) rfl (A_indexAddr (v := .rop [(eI v79.Kind), (eU64 v79.N), (eS v79.S)]) rfl rfl rfl (ia_lst un22 ts35 (getI_some hv79).1 (map_get (getI_some hv79).2))) ?_
      refine SO.op (Wanted.free rfl) rfl (A_load (v := .d (eApiValue v79)) rfl rfl (ld_rop ts35 ta35 rfl)) ?_
      obtain ⟨r80, hq81, h3⟩ := ob h3
      refine SO.call0 (r := .d (eB r80)) (Wanted.free rfl) rfl rfl rfl rfl rfl cb26 rfl (fun _ => rfl) (fun _ => rfl) (key_Encode_1_ok v79 _ hq81) ?_
      refine SO.nil ?_
      change SC _ _ _ _ _
      refine SC.condB (t := r80) rfl (fun hb82 => ?_) (fun hb82 => ?_)
      · replace h3 := ct hb82 h3
        refine SC.seq ?_
        refine SC.region ?_
        refine SO.op (Wanted.free rfl) rfl (A_move (v := .d (eI y69)) rfl rfl) ?_
        refine SO.op (Wanted.free rfl) rfl (A_assign (v := .d (eI y69)) rfl rfl) ?_
        refine SO.nil ?_
        change SC _ _ _ _ _
        refine SC.ret ?_
        have q := Option.some.inj h3; subst q
        have q : _ = _ := hv3; subst q
        have q := Option.some.inj h1; subst q
        have q := Option.some.inj h0; subst q
        exact finR (Wk.env (e' := [(4, .d (eI y69))]) (EW.cons (AW.refl _) EW.nil)) (lresT rfl lresN) rfl
      · replace h3 := cf hb82 h3
        refine SC.skip ?_
        change SC _ _ _ _ _
        refine SC.region ?_
        refine SO.op (Wanted.free rfl) rfl (A_bin (v := .d (eI (w64 (y69 + (1 : Int))))) rfl rfl rfl (fun X Y => b_i64_add _ X Y y69 (1 : Int))) ?_
        refine SO.op (Wanted.free rfl) rfl (A_move (v := .d (eI (w64 (y69 + (1 : Int))))) rfl rfl) ?_
        refine SO.nil ?_
        have q := Option.some.inj h3; subst q
        exact lf (Wk.env (e' := [(0, .d ((eL 3 eApiValue) p0)), (1, .fn (.func 26) [] []), (7, .d (eI (p0.length : Int))), (8, .d (eI (w64 (y69 + (1 : Int)))))]) (EW.cons (AW.refl _) (EW.cons (AW.refl _) (EW.cons (AW.refl _) (EW.cons (AW.refl _) EW.nil)))))
    · replace h3 := cf hb78 h3
      refine SC.exit ?_
      have q := Option.some.inj h3; subst q
      have q : _ = _ := hv3; subst q
      have q := Option.some.inj h1; subst q
      exact lf (Wk.env (e' := []) EW.nil)
  · intro _ h0
    change SC _ _ _ ⟨mk 19 [], []⟩ _
    refine SC.seq ?_
    refine SC.region ?_
    refine SO.op (Wanted.free rfl) rfl (A_assign (v := .d (eI (-1 : Int))) rfl rfl) ?_
    refine SO.nil ?_
    change SC _ _ _ _ _
    refine SC.ret ?_
    have q := Option.some.inj h0; subst q
    exact finR (Wk.env (e' := [(4, .d (eI (-1 : Int)))]) (EW.cons (AW.refl _) EW.nil)) (lresT rfl lresN) rfl

/-- slices.ContainsFunc[[]granary/api.Value,granary/api.Value] -/
noncomputable def slices_ContainsFunc_api_Value_api_Value (p0 : List ApiValue) : Option Bool :=
  Option.bind (slices_IndexFunc_api_Value_api_Value p0) fun r4 =>
  some (decide (r4 ≥ (0 : Int)))
theorem slices_ContainsFunc_api_Value_api_Value_ok (p0 : List ApiValue) (r : Bool) (h0 : slices_ContainsFunc_api_Value_api_Value p0 = some r) : CallAt Tryd.prog 25 [.d ((eL 3 eApiValue) p0), .fn (.func 26) [] []] [] (.d (eB r)) [] := by
  unfold slices_ContainsFunc_api_Value_api_Value at h0
  refine CallAt.of Tryd.func25 rfl ?_
  refine SC.post (Q' := fun e s => ∃ s1, Wk _ s s1 ∧ Fin _ _ _ _ e s1) ?_ (fun _ _ h => h)
  refine SC.wk (s1 := ⟨mk 9 [(0, .d ((eL 3 eApiValue) p0)), (1, .fn (.func 26) [] [])], []⟩) (Wk.begin (n := 9) (Nat.le_of_ble_eq_true rfl)) ?_
  refine SC.seq ?_
  refine SC.region ?_
  refine SO.op (Wanted.free rfl) rfl (A_assign (v := .d (eB false)) rfl rfl) ?_
  refine SO.nil ?_
  change SC _ _ _ _ _
  refine SC.seq ?_
  refine SC.region ?_
  refine SO.op (Wanted.free rfl) rfl (A_move (v := .d ((eL 3 eApiValue) p0)) rfl rfl) ?_
  refine SO.op (Wanted.free rfl) rfl (A_move (v := .fn (.func 26) [] []) rfl rfl) ?_
  obtain ⟨r4, hq5, h0⟩ := ob h0
  refine SO.call0 (r := .d (eI r4)) (Wanted.free rfl) rfl rfl rfl rfl rfl cb37 rfl (fun _ => rfl) (fun _ => rfl) (slices_IndexFunc_api_Value_api_Value_ok p0 _ hq5) ?_
  refine SO.op (Wanted.free rfl) rfl (A_bin (v := .d (eB (decide (r4 ≥ (0 : Int))))) rfl rfl rfl (fun X Y => b_i64_geq _ X Y r4 (0 : Int))) ?_
  refine SO.op (Wanted.free rfl) rfl (A_assign (v := .d (eB (decide (r4 ≥ (0 : Int))))) rfl rfl) ?_
  refine SO.nil ?_
  change SC _ _ _ _ _
  refine SC.ret ?_
  have q := Option.some.inj h0; subst q
  exact finR (Wk.env (e' := [(4, .d (eB (decide (r4 ≥ (0 : Int)))))]) (EW.cons (AW.refl _) EW.nil)) (lresT rfl lresN) rfl

/-- (*granary/pack.Out).put -/
noncomputable def pack_Out_put (p0 : List UInt8) : Option Unit :=
  bif decide (p0.length * 1 ≤ room) then
  some ()
  else none
theorem pack_Out_put_ok (p0 : List UInt8) (r : Unit) (h0 : pack_Out_put p0 = some r) : CallAt Tryd.prog 61 [.ref 0 0 0, .slc 1 1 0 p0.length none] [.box (.d (.agg [.nils])), .row 1 (List.map eU8 p0) true] (.tuple []) [.box (.agg [.slc 2 1 0 p0.length none]), .row 1 (List.map eU8 p0) true, .row 1 (List.map eU8 p0) true] := by
  unfold pack_Out_put at h0
  refine CallAt.of Tryd.func61 rfl ?_
  refine SC.post (Q' := fun e s => ∃ s1, Wk _ s s1 ∧ Fin _ _ _ _ e s1) ?_ (fun _ _ h => h)
  refine SC.wk (s1 := ⟨mk 15 [(0, .ref 0 0 0), (1, .slc 1 1 0 p0.length none)], [.box (.d (.agg [.nils])), .row 1 (List.map eU8 p0) true]⟩) (Wk.begin (n := 15) (Nat.le_of_ble_eq_true rfl)) ?_
  refine SC.seq ?_
  refine SC.region ?_
  refine SO.op (Wanted.free rfl) rfl (A_move (v := .ref 0 0 0) rfl rfl) ?_
  refine SO.op (Wanted.free rfl) rfl (A_bin (v := .d (eB true)) rfl rfl rfl (fun _ _ => nil_neq un93)) ?_
  refine SO.nil ?_
  change SC _ _ _ _ _
  refine SC.condT rfl ?_
  refine SC.region ?_
  refine SO.op (Wanted.free rfl) rfl (A_move (v := .ref 0 0 0) rfl rfl) ?_
  refine SO.op (Wanted.free rfl) rfl (A_move (v := .ref 0 0 0) rfl rfl) ?_
  refine SO.op (Wanted.free rfl) rfl (A_nilRef rfl rfl) ?_
  refine SO.op (Wanted.free rfl) rfl (A_fieldAddr rfl rfl (fa_ref fo64_0 ts51 rfl)) ?_
  refine SO.op (Wanted.free rfl) rfl (A_load (v := .d .nils) rfl rfl (ld_box ts51 ta51 rfl rfl)) ?_
  refine SO.op (Wanted.free rfl) rfl (A_move (v := .slc 1 1 0 p0.length none) rfl rfl) ?_
  obtain ⟨hg2, h0⟩ := gd h0
  refine SO.op (Wanted.free rfl) rfl (A_append (v := .slc 2 1 0 p0.length none) (σ' := [.box (.d (.agg [.nils])), .row 1 (List.map eU8 p0) true, .row 1 (List.map eU8 p0) true]) rfl rfl rfl rfl rfl bc51 (apNil (f := eU8) (ys := p0) un51 ei5 (el_full (xs := p0) rfl) hg2 rfl rfl)) ?_
  refine SO.op (Wanted.free rfl) rfl (A_nilRef rfl rfl) ?_
  refine SO.op (Wanted.free rfl) rfl (A_fieldAddr rfl rfl (fa_ref fo64_0 ts51 rfl)) ?_
  refine SO.op0 (Wanted.free rfl) rfl (A_store (σ' := [.box (.agg [.slc 2 1 0 p0.length none]), .row 1 (List.map eU8 p0) true, .row 1 (List.map eU8 p0) true]) rfl rfl rfl (st_box (zs := [.slc 2 1 0 p0.length none]) ts51 rfl rfl rfl rfl rfl (Nat.le_of_ble_eq_true rfl) rfl)) ?_
  refine SO.nil ?_
  have q := Option.some.inj h0; subst q
  exact finN (Wk.env (e' := []) EW.nil) lresN rfl

/-- (*granary/pack.Out).Flag -/
noncomputable def pack_Out_Flag (p0 : Bool) : Option ((List UInt8)) :=
  bif p0 then
    Option.bind (pack_Out_put [(1 : UInt8)]) fun _ =>
    some [(1 : UInt8)]
  else
    Option.bind (pack_Out_put [(0 : UInt8)]) fun _ =>
    some [(0 : UInt8)]
theorem pack_Out_Flag_ok (p0 : Bool) (r : (List UInt8)) (h0 : pack_Out_Flag p0 = some r) : CallAt Tryd.prog 39 [.ref 0 0 0, .d (eB p0)] [.box (.d (.agg [.nils]))] (.tuple []) [.box (.agg [.slc 1 1 0 r.length none]), .row 1 (List.map eU8 r) true] := by
  unfold pack_Out_Flag at h0
  refine CallAt.of Tryd.func39 rfl ?_
  refine SC.post (Q' := fun e s => ∃ s1, Wk _ s s1 ∧ Fin _ _ _ _ e s1) ?_ (fun _ _ h => h)
  refine SC.wk (s1 := ⟨mk 11 [(0, .ref 0 0 0), (1, .d (eB p0))], [.box (.d (.agg [.nils]))]⟩) (Wk.begin (n := 11) (Nat.le_of_ble_eq_true rfl)) ?_
  refine SC.seq ?_
  refine SC.region ?_
  refine SO.op (Wanted.free rfl) rfl (A_move (v := .d (eB p0)) rfl rfl) ?_
  refine SO.nil ?_
  change SC _ _ _ _ _
  refine SC.condB (t := p0) rfl (fun hb5 => ?_) (fun hb5 => ?_)
  · replace h0 := ct hb5 h0
    refine SC.region ?_
    refine SO.op (Wanted.free rfl) rfl (A_move (v := .ref 0 0 0) rfl rfl) ?_
    refine SO.opW (v' := .slc 1 1 0 ([(1 : UInt8)].length) none) (Wanted.free rfl) rfl (A_buildSlice (v := .slc 1 1 0 1 (some 1)) (σ' := [.box (.d (.agg [.nils])), .row 1 (List.map eU8 [(1 : UInt8)]) true]) rfl rfl (bsl un51 ei5 (by decide) rfl (by rfl) rfl rfl)) (AW.slcc rfl rfl) ?_
    obtain ⟨_, hq6, h0⟩ := ob h0
    refine SO.call (ι := [0, 1]) (σc := [.box (.d (.agg [.nils])), .row 1 (List.map eU8 [(1 : UInt8)]) true]) (args' := [.ref 0 0 0, .slc 1 1 0 ([(1 : UInt8)].length) none]) (r' := .tuple []) (σ2 := [.box (.agg [.slc 2 1 0 ([(1 : UInt8)].length) none]), .row 1 (List.map eU8 [(1 : UInt8)]) true, .row 1 (List.map eU8 [(1 : UInt8)]) true]) (os := [.box (.agg [.slc 2 1 0 ([(1 : UInt8)].length) none]), .row 1 (List.map eU8 [(1 : UInt8)]) true, .row 1 (List.map eU8 [(1 : UInt8)]) true]) (r := .tuple []) (σ' := [.box (.agg [.slc 2 1 0 ([(1 : UInt8)].length) none]), .row 1 (List.map eU8 [(1 : UInt8)]) true, .row 1 (List.map eU8 [(1 : UInt8)]) true]) (Wanted.free rfl) rfl rfl rfl rfl rfl cb61 rfl rfl (pack_Out_put_ok [(1 : UInt8)] _ hq6) rfl rfl (Nat.le_of_ble_eq_true rfl) rfl ?_
    refine SO.nil ?_
    have q := Option.some.inj h0; subst q
    exact finN (Wk.trans (Wk.env (e' := []) EW.nil) (Wk.canon (ι := [0, 2]) (roots := [0]) (os := [.box (.agg [.slc 1 1 0 ([(1 : UInt8)].length) none]), .row 1 (List.map eU8 [(1 : UInt8)]) true]) (e' := []) rfl rfl rfl)) lresN rfl
  · replace h0 := cf hb5 h0
    refine SC.region ?_
    refine SO.op (Wanted.free rfl) rfl (A_move (v := .ref 0 0 0) rfl rfl) ?_
    refine SO.opW (v' := .slc 1 1 0 ([(0 : UInt8)].length) none) (Wanted.free rfl) rfl (A_buildSlice (v := .slc 1 1 0 1 (some 1)) (σ' := [.box (.d (.agg [.nils])), .row 1 (List.map eU8 [(0 : UInt8)]) true]) rfl rfl (bsl un51 ei5 (by decide) rfl (by rfl) rfl rfl)) (AW.slcc rfl rfl) ?_
    obtain ⟨_, hq7, h0⟩ := ob h0
    refine SO.call (ι := [0, 1]) (σc := [.box (.d (.agg [.nils])), .row 1 (List.map eU8 [(0 : UInt8)]) true]) (args' := [.ref 0 0 0, .slc 1 1 0 ([(0 : UInt8)].length) none]) (r' := .tuple []) (σ2 := [.box (.agg [.slc 2 1 0 ([(0 : UInt8)].length) none]), .row 1 (List.map eU8 [(0 : UInt8)]) true, .row 1 (List.map eU8 [(0 : UInt8)]) true]) (os := [.box (.agg [.slc 2 1 0 ([(0 : UInt8)].length) none]), .row 1 (List.map eU8 [(0 : UInt8)]) true, .row 1 (List.map eU8 [(0 : UInt8)]) true]) (r := .tuple []) (σ' := [.box (.agg [.slc 2 1 0 ([(0 : UInt8)].length) none]), .row 1 (List.map eU8 [(0 : UInt8)]) true, .row 1 (List.map eU8 [(0 : UInt8)]) true]) (Wanted.free rfl) rfl rfl rfl rfl rfl cb61 rfl rfl (pack_Out_put_ok [(0 : UInt8)] _ hq7) rfl rfl (Nat.le_of_ble_eq_true rfl) rfl ?_
    refine SO.nil ?_
    have q := Option.some.inj h0; subst q
    exact finN (Wk.trans (Wk.env (e' := []) EW.nil) (Wk.canon (ι := [0, 2]) (roots := [0]) (os := [.box (.agg [.slc 1 1 0 ([(0 : UInt8)].length) none]), .row 1 (List.map eU8 [(0 : UInt8)]) true]) (e' := []) rfl rfl rfl)) lresN rfl

/-- (*granary/pack.Out).put -/
noncomputable def pack_Out_put_1 (p0 : List UInt8) (p1 : List UInt8) : Option Unit :=
  bif decide ((p1.length + p0.length) * 1 ≤ room) then
  some ()
  else none
theorem pack_Out_put_1_ok (p0 : List UInt8) (p1 : List UInt8) (r : Unit) (h0 : pack_Out_put_1 p0 p1 = some r) : CallAt Tryd.prog 61 [.ref 0 0 0, .slc 1 1 0 p0.length none] [.box (.agg [.slc 2 1 0 p1.length none]), .row 1 (List.map eU8 p0) true, .row 1 (List.map eU8 p1) true] (.tuple []) [.box (.agg [.slc 3 1 0 ((p1 ++ p0).length) none]), .row 1 (List.map eU8 p0) true, .dead, .row 1 (List.map eU8 (p1 ++ p0)) true] := by
  unfold pack_Out_put_1 at h0
  refine CallAt.of Tryd.func61 rfl ?_
  refine SC.post (Q' := fun e s => ∃ s1, Wk _ s s1 ∧ Fin _ _ _ _ e s1) ?_ (fun _ _ h => h)
  refine SC.wk (s1 := ⟨mk 15 [(0, .ref 0 0 0), (1, .slc 1 1 0 p0.length none)], [.box (.agg [.slc 2 1 0 p1.length none]), .row 1 (List.map eU8 p0) true, .row 1 (List.map eU8 p1) true]⟩) (Wk.begin (n := 15) (Nat.le_of_ble_eq_true rfl)) ?_
  refine SC.seq ?_
  refine SC.region ?_
  refine SO.op (Wanted.free rfl) rfl (A_move (v := .ref 0 0 0) rfl rfl) ?_
  refine SO.op (Wanted.free rfl) rfl (A_bin (v := .d (eB true)) rfl rfl rfl (fun _ _ => nil_neq un93)) ?_
  refine SO.nil ?_
  change SC _ _ _ _ _
  refine SC.condT rfl ?_
  refine SC.region ?_
  refine SO.op (Wanted.free rfl) rfl (A_move (v := .ref 0 0 0) rfl rfl) ?_
  refine SO.op (Wanted.free rfl) rfl (A_move (v := .ref 0 0 0) rfl rfl) ?_
  refine SO.op (Wanted.free rfl) rfl (A_nilRef rfl rfl) ?_
  refine SO.op (Wanted.free rfl) rfl (A_fieldAddr rfl rfl (fa_ref fo64_0 ts51 rfl)) ?_
  refine SO.op (Wanted.free rfl) rfl (A_load (v := .slc 2 1 0 p1.length none) rfl rfl (ld_box ts51 ta51 rfl rfl)) ?_
  refine SO.op (Wanted.free rfl) rfl (A_move (v := .slc 1 1 0 p0.length none) rfl rfl) ?_
  obtain ⟨hg2, h0⟩ := gd h0
  refine SO.op (Wanted.free rfl) rfl (A_append (v := .slc 3 1 0 ((p1 ++ p0).length) none) (σ' := [.box (.agg [.slc 2 1 0 p1.length none]), .row 1 (List.map eU8 p0) true, .dead, .row 1 (List.map eU8 (p1 ++ p0)) true]) rfl rfl rfl rfl rfl bc51 (ApFull (f := eU8) (xs := p1) (ys := p0) rfl un51 ei5 rfl (el_full (xs := p0) rfl) hg2 rfl rfl)) ?_
  refine SO.op (Wanted.free rfl) rfl (A_nilRef rfl rfl) ?_
  refine SO.op (Wanted.free rfl) rfl (A_fieldAddr rfl rfl (fa_ref fo64_0 ts51 rfl)) ?_
  refine SO.op0 (Wanted.free rfl) rfl (A_store (σ' := [.box (.agg [.slc 3 1 0 ((p1 ++ p0).length) none]), .row 1 (List.map eU8 p0) true, .dead, .row 1 (List.map eU8 (p1 ++ p0)) true]) rfl rfl rfl (st_box (zs := [.slc 3 1 0 ((p1 ++ p0).length) none]) ts51 rfl rfl rfl rfl rfl (Nat.le_of_ble_eq_true rfl) rfl)) ?_
  refine SO.nil ?_
  have q := Option.some.inj h0; subst q
  exact finN (Wk.env (e' := []) EW.nil) lresN rfl

/-- (*granary/pack.Out).U16 -/
noncomputable def pack_Out_U16 (p0 : UInt16) (p1 : List UInt8) : Option Unit :=
  Option.bind (pack_Out_put_1 [((shr16 p0 8).toUInt8), (p0.toUInt8)] p1) fun _ =>
  some ()
theorem pack_Out_U16_ok (p0 : UInt16) (p1 : List UInt8) (r : Unit) (h0 : pack_Out_U16 p0 p1 = some r) : CallAt Tryd.prog 71 [.ref 0 0 0, .d (eU16 p0)] [.box (.agg [.slc 1 1 0 p1.length none]), .row 1 (List.map eU8 p1) true] (.tuple []) [.box (.agg [.slc 2 1 0 ((p1 ++ [((shr16 p0 8).toUInt8), (p0.toUInt8)]).length) none]), .dead, .row 1 (List.map eU8 (p1 ++ [((shr16 p0 8).toUInt8), (p0.toUInt8)])) true] := by
  unfold pack_Out_U16 at h0
  refine CallAt.of Tryd.func71 rfl ?_
  refine SC.post (Q' := fun e s => ∃ s1, Wk _ s s1 ∧ Fin _ _ _ _ e s1) ?_ (fun _ _ h => h)
  refine SC.wk (s1 := ⟨mk 12 [(0, .ref 0 0 0), (1, .d (eU16 p0))], [.box (.agg [.slc 1 1 0 p1.length none]), .row 1 (List.map eU8 p1) true]⟩) (Wk.begin (n := 12) (Nat.le_of_ble_eq_true rfl)) ?_
  refine SC.region ?_
  refine SO.op (Wanted.free rfl) rfl (A_move (v := .ref 0 0 0) rfl rfl) ?_
  refine SO.op (Wanted.free rfl) rfl (A_move (v := .d (eU16 p0)) rfl rfl) ?_
  refine SO.op (Wanted.free rfl) rfl (A_bin (v := .d (eU16 (shr16 p0 8))) rfl rfl rfl (fun X Y => b_u16_shr _ X Y p0 _ (by decide))) ?_
  refine SO.op (Wanted.free rfl) rfl (A_conv (v := .d (eU8 ((shr16 p0 8).toUInt8))) rfl rfl (cv_u16_u8 un107 un5 (shr16 p0 8))) ?_
  refine SO.op (Wanted.free rfl) rfl (A_move (v := .d (eU16 p0)) rfl rfl) ?_
  refine SO.op (Wanted.free rfl) rfl (A_conv (v := .d (eU8 (p0.toUInt8))) rfl rfl (cv_u16_u8 un107 un5 p0)) ?_
  refine SO.opW (v' := .slc 2 1 0 ([((shr16 p0 8).toUInt8), (p0.toUInt8)].length) none) (Wanted.free rfl) rfl (A_buildSlice (v := .slc 2 1 0 2 (some 2)) (σ' := [.box (.agg [.slc 1 1 0 p1.length none]), .row 1 (List.map eU8 p1) true, .row 1 (List.map eU8 [((shr16 p0 8).toUInt8), (p0.toUInt8)]) true]) rfl rfl (bsl un51 ei5 (by decide) rfl (by rfl) rfl rfl)) (AW.slcc rfl rfl) ?_
  obtain ⟨_, hq2, h0⟩ := ob h0
  refine SO.call (ι := [0, 2, 1]) (σc := [.box (.agg [.slc 2 1 0 p1.length none]), .row 1 (List.map eU8 [((shr16 p0 8).toUInt8), (p0.toUInt8)]) true, .row 1 (List.map eU8 p1) true]) (args' := [.ref 0 0 0, .slc 1 1 0 ([((shr16 p0 8).toUInt8), (p0.toUInt8)].length) none]) (r' := .tuple []) (σ2 := [.box (.agg [.slc 3 1 0 ((p1 ++ [((shr16 p0 8).toUInt8), (p0.toUInt8)]).length) none]), .row 1 (List.map eU8 [((shr16 p0 8).toUInt8), (p0.toUInt8)]) true, .dead, .row 1 (List.map eU8 (p1 ++ [((shr16 p0 8).toUInt8), (p0.toUInt8)])) true]) (os := [.box (.agg [.slc 3 1 0 ((p1 ++ [((shr16 p0 8).toUInt8), (p0.toUInt8)]).length) none]), .row 1 (List.map eU8 [((shr16 p0 8).toUInt8), (p0.toUInt8)]) true, .dead, .row 1 (List.map eU8 (p1 ++ [((shr16 p0 8).toUInt8), (p0.toUInt8)])) true]) (r := .tuple []) (σ' := [.box (.agg [.slc 3 1 0 ((p1 ++ [((shr16 p0 8).toUInt8), (p0.toUInt8)]).length) none]), .dead, .row 1 (List.map eU8 [((shr16 p0 8).toUInt8), (p0.toUInt8)]) true, .row 1 (List.map eU8 (p1 ++ [((shr16 p0 8).toUInt8), (p0.toUInt8)])) true]) (Wanted.free rfl) rfl rfl rfl rfl rfl cb61 rfl rfl (pack_Out_put_1_ok [((shr16 p0 8).toUInt8), (p0.toUInt8)] p1 _ hq2) rfl rfl (Nat.le_of_ble_eq_true rfl) rfl ?_
  refine SO.nil ?_
  have q := Option.some.inj h0; subst q
  exact finN (Wk.trans (Wk.env (e' := []) EW.nil) (Wk.canon (ι := [0, 1, 3]) (roots := [0, 1]) (os := [.box (.agg [.slc 2 1 0 ((p1 ++ [((shr16 p0 8).toUInt8), (p0.toUInt8)]).length) none]), .dead, .row 1 (List.map eU8 (p1 ++ [((shr16 p0 8).toUInt8), (p0.toUInt8)])) true]) (e' := []) rfl rfl rfl)) lresN rfl

/-- (*granary/pack.Out).U32 -/
noncomputable def pack_Out_U32 (p0 : UInt32) (p1 : List UInt8) : Option Unit :=
  Option.bind (pack_Out_U16 ((shr32 p0 16).toUInt16) p1) fun _ =>
  Option.bind (pack_Out_U16 (p0.toUInt16) (p1 ++ [((shr16 ((shr32 p0 16).toUInt16) 8).toUInt8), (((shr32 p0 16).toUInt16).toUInt8)])) fun _ =>
  some ()
theorem pack_Out_U32_ok (p0 : UInt32) (p1 : List UInt8) (r : Unit) (h0 : pack_Out_U32 p0 p1 = some r) : CallAt Tryd.prog 62 [.ref 0 0 0, .d (eU32 p0)] [.box (.agg [.slc 1 1 0 p1.length none]), .row 1 (List.map eU8 p1) true] (.tuple []) [.box (.agg [.slc 2 1 0 (((p1 ++ [((shr16 ((shr32 p0 16).toUInt16) 8).toUInt8), (((shr32 p0 16).toUInt16).toUInt8)]) ++ [((shr16 (p0.toUInt16) 8).toUInt8), ((p0.toUInt16).toUInt8)]).length) none]), .dead, .row 1 (List.map eU8 ((p1 ++ [((shr16 ((shr32 p0 16).toUInt16) 8).toUInt8), (((shr32 p0 16).toUInt16).toUInt8)]) ++ [((shr16 (p0.toUInt16) 8).toUInt8), ((p0.toUInt16).toUInt8)])) true] := by
  unfold pack_Out_U32 at h0
  refine CallAt.of Tryd.func62 rfl ?_
  refine SC.post (Q' := fun e s => ∃ s1, Wk _ s s1 ∧ Fin _ _ _ _ e s1) ?_ (fun _ _ h => h)
  refine SC.wk (s1 := ⟨mk 13 [(0, .ref 0 0 0), (1, .d (eU32 p0))], [.box (.agg [.slc 1 1 0 p1.length none]), .row 1 (List.map eU8 p1) true]⟩) (Wk.begin (n := 13) (Nat.le_of_ble_eq_true rfl)) ?_
  refine SC.seq ?_
  refine SC.region ?_
  refine SO.op (Wanted.free rfl) rfl (A_move (v := .ref 0 0 0) rfl rfl) ?_
  refine SO.op (Wanted.free rfl) rfl (A_move (v := .d (eU32 p0)) rfl rfl) ?_
  refine SO.op (Wanted.free rfl) rfl (A_bin (v := .d (eU32 (shr32 p0 16))) rfl rfl rfl (fun X Y => b_u32_shr _ X Y p0 _ (by decide))) ?_
  refine SO.op (Wanted.free rfl) rfl (A_conv (v := .d (eU16 ((shr32 p0 16).toUInt16))) rfl rfl (cv_u32_u16 un96 un107 (shr32 p0 16))) ?_
  obtain ⟨_, hq3, h0⟩ := ob h0
  refine SO.call (ι := [0, 1]) (σc := [.box (.agg [.slc 1 1 0 p1.length none]), .row 1 (List.map eU8 p1) true]) (args' := [.ref 0 0 0, .d (eU16 ((shr32 p0 16).toUInt16))]) (r' := .tuple []) (σ2 := [.box (.agg [.slc 2 1 0 ((p1 ++ [((shr16 ((shr32 p0 16).toUInt16) 8).toUInt8), (((shr32 p0 16).toUInt16).toUInt8)]).length) none]), .dead, .row 1 (List.map eU8 (p1 ++ [((shr16 ((shr32 p0 16).toUInt16) 8).toUInt8), (((shr32 p0 16).toUInt16).toUInt8)])) true]) (os := [.box (.agg [.slc 2 1 0 ((p1 ++ [((shr16 ((shr32 p0 16).toUInt16) 8).toUInt8), (((shr32 p0 16).toUInt16).toUInt8)]).length) none]), .dead, .row 1 (List.map eU8 (p1 ++ [((shr16 ((shr32 p0 16).toUInt16) 8).toUInt8), (((shr32 p0 16).toUInt16).toUInt8)])) true]) (r := .tuple []) (σ' := [.box (.agg [.slc 2 1 0 ((p1 ++ [((shr16 ((shr32 p0 16).toUInt16) 8).toUInt8), (((shr32 p0 16).toUInt16).toUInt8)]).length) none]), .dead, .row 1 (List.map eU8 (p1 ++ [((shr16 ((shr32 p0 16).toUInt16) 8).toUInt8), (((shr32 p0 16).toUInt16).toUInt8)])) true]) (Wanted.free rfl) rfl rfl rfl rfl rfl cb71 rfl rfl (pack_Out_U16_ok ((shr32 p0 16).toUInt16) p1 _ hq3) rfl rfl (Nat.le_of_ble_eq_true rfl) rfl ?_
  refine SO.nil ?_
  change SC _ _ _ _ _
  refine SC.region ?_
  refine SO.op (Wanted.free rfl) rfl (A_move (v := .ref 0 0 0) rfl rfl) ?_
  refine SO.op (Wanted.free rfl) rfl (A_move (v := .d (eU32 p0)) rfl rfl) ?_
  refine SO.op (Wanted.free rfl) rfl (A_conv (v := .d (eU16 (p0.toUInt16))) rfl rfl (cv_u32_u16 un96 un107 p0)) ?_
  obtain ⟨_, hq4, h0⟩ := ob h0
  refine SO.call (ι := [0, 2]) (σc := [.box (.agg [.slc 1 1 0 ((p1 ++ [((shr16 ((shr32 p0 16).toUInt16) 8).toUInt8), (((shr32 p0 16).toUInt16).toUInt8)]).length) none]), .row 1 (List.map eU8 (p1 ++ [((shr16 ((shr32 p0 16).toUInt16) 8).toUInt8), (((shr32 p0 16).toUInt16).toUInt8)])) true]) (args' := [.ref 0 0 0, .d (eU16 (p0.toUInt16))]) (r' := .tuple []) (σ2 := [.box (.agg [.slc 2 1 0 (((p1 ++ [((shr16 ((shr32 p0 16).toUInt16) 8).toUInt8), (((shr32 p0 16).toUInt16).toUInt8)]) ++ [((shr16 (p0.toUInt16) 8).toUInt8), ((p0.toUInt16).toUInt8)]).length) none]), .dead, .row 1 (List.map eU8 ((p1 ++ [((shr16 ((shr32 p0 16).toUInt16) 8).toUInt8), (((shr32 p0 16).toUInt16).toUInt8)]) ++ [((shr16 (p0.toUInt16) 8).toUInt8), ((p0.toUInt16).toUInt8)])) true]) (os := [.box (.agg [.slc 3 1 0 (((p1 ++ [((shr16 ((shr32 p0 16).toUInt16) 8).toUInt8), (((shr32 p0 16).toUInt16).toUInt8)]) ++ [((shr16 (p0.toUInt16) 8).toUInt8), ((p0.toUInt16).toUInt8)]).length) none]), .dead, .row 1 (List.map eU8 ((p1 ++ [((shr16 ((shr32 p0 16).toUInt16) 8).toUInt8), (((shr32 p0 16).toUInt16).toUInt8)]) ++ [((shr16 (p0.toUInt16) 8).toUInt8), ((p0.toUInt16).toUInt8)])) true]) (r := .tuple []) (σ' := [.box (.agg [.slc 3 1 0 (((p1 ++ [((shr16 ((shr32 p0 16).toUInt16) 8).toUInt8), (((shr32 p0 16).toUInt16).toUInt8)]) ++ [((shr16 (p0.toUInt16) 8).toUInt8), ((p0.toUInt16).toUInt8)]).length) none]), .dead, .dead, .row 1 (List.map eU8 ((p1 ++ [((shr16 ((shr32 p0 16).toUInt16) 8).toUInt8), (((shr32 p0 16).toUInt16).toUInt8)]) ++ [((shr16 (p0.toUInt16) 8).toUInt8), ((p0.toUInt16).toUInt8)])) true]) (Wanted.free rfl) rfl rfl rfl rfl rfl cb71 rfl rfl (pack_Out_U16_ok (p0.toUInt16) (p1 ++ [((shr16 ((shr32 p0 16).toUInt16) 8).toUInt8), (((shr32 p0 16).toUInt16).toUInt8)]) _ hq4) rfl rfl (Nat.le_of_ble_eq_true rfl) rfl ?_
  refine SO.nil ?_
  have q := Option.some.inj h0; subst q
  exact finN (Wk.trans (Wk.env (e' := []) EW.nil) (Wk.canon (ι := [0, 1, 3]) (roots := [0, 1]) (os := [.box (.agg [.slc 2 1 0 (((p1 ++ [((shr16 ((shr32 p0 16).toUInt16) 8).toUInt8), (((shr32 p0 16).toUInt16).toUInt8)]) ++ [((shr16 (p0.toUInt16) 8).toUInt8), ((p0.toUInt16).toUInt8)]).length) none]), .dead, .row 1 (List.map eU8 ((p1 ++ [((shr16 ((shr32 p0 16).toUInt16) 8).toUInt8), (((shr32 p0 16).toUInt16).toUInt8)]) ++ [((shr16 (p0.toUInt16) 8).toUInt8), ((p0.toUInt16).toUInt8)])) true]) (e' := []) rfl rfl rfl)) lresN rfl

/-- (*granary/pack.Out).U64 -/
noncomputable def pack_Out_U64 (p0 : UInt64) (p1 : List UInt8) : Option Unit :=
  Option.bind (pack_Out_U32 ((shr64 p0 32).toUInt32) p1) fun _ =>
  Option.bind (pack_Out_U32 (p0.toUInt32) ((p1 ++ [((shr16 ((shr32 ((shr64 p0 32).toUInt32) 16).toUInt16) 8).toUInt8), (((shr32 ((shr64 p0 32).toUInt32) 16).toUInt16).toUInt8)]) ++ [((shr16 (((shr64 p0 32).toUInt32).toUInt16) 8).toUInt8), ((((shr64 p0 32).toUInt32).toUInt16).toUInt8)])) fun _ =>
  some ()
theorem pack_Out_U64_ok (p0 : UInt64) (p1 : List UInt8) (r : Unit) (h0 : pack_Out_U64 p0 p1 = some r) : CallAt Tryd.prog 40 [.ref 0 0 0, .d (eU64 p0)] [.box (.agg [.slc 1 1 0 p1.length none]), .row 1 (List.map eU8 p1) true] (.tuple []) [.box (.agg [.slc 2 1 0 (((((p1 ++ [((shr16 ((shr32 ((shr64 p0 32).toUInt32) 16).toUInt16) 8).toUInt8), (((shr32 ((shr64 p0 32).toUInt32) 16).toUInt16).toUInt8)]) ++ [((shr16 (((shr64 p0 32).toUInt32).toUInt16) 8).toUInt8), ((((shr64 p0 32).toUInt32).toUInt16).toUInt8)]) ++ [((shr16 ((shr32 (p0.toUInt32) 16).toUInt16) 8).toUInt8), (((shr32 (p0.toUInt32) 16).toUInt16).toUInt8)]) ++ [((shr16 ((p0.toUInt32).toUInt16) 8).toUInt8), (((p0.toUInt32).toUInt16).toUInt8)]).length) none]), .dead, .row 1 (List.map eU8 ((((p1 ++ [((shr16 ((shr32 ((shr64 p0 32).toUInt32) 16).toUInt16) 8).toUInt8), (((shr32 ((shr64 p0 32).toUInt32) 16).toUInt16).toUInt8)]) ++ [((shr16 (((shr64 p0 32).toUInt32).toUInt16) 8).toUInt8), ((((shr64 p0 32).toUInt32).toUInt16).toUInt8)]) ++ [((shr16 ((shr32 (p0.toUInt32) 16).toUInt16) 8).toUInt8), (((shr32 (p0.toUInt32) 16).toUInt16).toUInt8)]) ++ [((shr16 ((p0.toUInt32).toUInt16) 8).toUInt8), (((p0.toUInt32).toUInt16).toUInt8)])) true] := by
  unfold pack_Out_U64 at h0
  refine CallAt.of Tryd.func40 rfl ?_
  refine SC.post (Q' := fun e s => ∃ s1, Wk _ s s1 ∧ Fin _ _ _ _ e s1) ?_ (fun _ _ h => h)
  refine SC.wk (s1 := ⟨mk 13 [(0, .ref 0 0 0), (1, .d (eU64 p0))], [.box (.agg [.slc 1 1 0 p1.length none]), .row 1 (List.map eU8 p1) true]⟩) (Wk.begin (n := 13) (Nat.le_of_ble_eq_true rfl)) ?_
  refine SC.seq ?_
  refine SC.region ?_
  refine SO.op (Wanted.free rfl) rfl (A_move (v := .ref 0 0 0) rfl rfl) ?_
  refine SO.op (Wanted.free rfl) rfl (A_move (v := .d (eU64 p0)) rfl rfl) ?_
  refine SO.op (Wanted.free rfl) rfl (A_bin (v := .d (eU64 (shr64 p0 32))) rfl rfl rfl (fun X Y => b_u64_shr _ X Y p0 _ (by decide))) ?_
  refine SO.op (Wanted.free rfl) rfl (A_conv (v := .d (eU32 ((shr64 p0 32).toUInt32))) rfl rfl (cv_u64_u32 un33 un96 (shr64 p0 32))) ?_
  obtain ⟨_, hq3, h0⟩ := ob h0
  refine SO.call (ι := [0, 1]) (σc := [.box (.agg [.slc 1 1 0 p1.length none]), .row 1 (List.map eU8 p1) true]) (args' := [.ref 0 0 0, .d (eU32 ((shr64 p0 32).toUInt32))]) (r' := .tuple []) (σ2 := [.box (.agg [.slc 2 1 0 (((p1 ++ [((shr16 ((shr32 ((shr64 p0 32).toUInt32) 16).toUInt16) 8).toUInt8), (((shr32 ((shr64 p0 32).toUInt32) 16).toUInt16).toUInt8)]) ++ [((shr16 (((shr64 p0 32).toUInt32).toUInt16) 8).toUInt8), ((((shr64 p0 32).toUInt32).toUInt16).toUInt8)]).length) none]), .dead, .row 1 (List.map eU8 ((p1 ++ [((shr16 ((shr32 ((shr64 p0 32).toUInt32) 16).toUInt16) 8).toUInt8), (((shr32 ((shr64 p0 32).toUInt32) 16).toUInt16).toUInt8)]) ++ [((shr16 (((shr64 p0 32).toUInt32).toUInt16) 8).toUInt8), ((((shr64 p0 32).toUInt32).toUInt16).toUInt8)])) true]) (os := [.box (.agg [.slc 2 1 0 (((p1 ++ [((shr16 ((shr32 ((shr64 p0 32).toUInt32) 16).toUInt16) 8).toUInt8), (((shr32 ((shr64 p0 32).toUInt32) 16).toUInt16).toUInt8)]) ++ [((shr16 (((shr64 p0 32).toUInt32).toUInt16) 8).toUInt8), ((((shr64 p0 32).toUInt32).toUInt16).toUInt8)]).length) none]), .dead, .row 1 (List.map eU8 ((p1 ++ [((shr16 ((shr32 ((shr64 p0 32).toUInt32) 16).toUInt16) 8).toUInt8), (((shr32 ((shr64 p0 32).toUInt32) 16).toUInt16).toUInt8)]) ++ [((shr16 (((shr64 p0 32).toUInt32).toUInt16) 8).toUInt8), ((((shr64 p0 32).toUInt32).toUInt16).toUInt8)])) true]) (r := .tuple []) (σ' := [.box (.agg [.slc 2 1 0 (((p1 ++ [((shr16 ((shr32 ((shr64 p0 32).toUInt32) 16).toUInt16) 8).toUInt8), (((shr32 ((shr64 p0 32).toUInt32) 16).toUInt16).toUInt8)]) ++ [((shr16 (((shr64 p0 32).toUInt32).toUInt16) 8).toUInt8), ((((shr64 p0 32).toUInt32).toUInt16).toUInt8)]).length) none]), .dead, .row 1 (List.map eU8 ((p1 ++ [((shr16 ((shr32 ((shr64 p0 32).toUInt32) 16).toUInt16) 8).toUInt8), (((shr32 ((shr64 p0 32).toUInt32) 16).toUInt16).toUInt8)]) ++ [((shr16 (((shr64 p0 32).toUInt32).toUInt16) 8).toUInt8), ((((shr64 p0 32).toUInt32).toUInt16).toUInt8)])) true]) (Wanted.free rfl) rfl rfl rfl rfl rfl cb62 rfl rfl (pack_Out_U32_ok ((shr64 p0 32).toUInt32) p1 _ hq3) rfl rfl (Nat.le_of_ble_eq_true rfl) rfl ?_
  refine SO.nil ?_
  change SC _ _ _ _ _
  refine SC.region ?_
  refine SO.op (Wanted.free rfl) rfl (A_move (v := .ref 0 0 0) rfl rfl) ?_
  refine SO.op (Wanted.free rfl) rfl (A_move (v := .d (eU64 p0)) rfl rfl) ?_
  refine SO.op (Wanted.free rfl) rfl (A_conv (v := .d (eU32 (p0.toUInt32))) rfl rfl (cv_u64_u32 un33 un96 p0)) ?_
  obtain ⟨_, hq4, h0⟩ := ob h0
  refine SO.call (ι := [0, 2]) (σc := [.box (.agg [.slc 1 1 0 (((p1 ++ [((shr16 ((shr32 ((shr64 p0 32).toUInt32) 16).toUInt16) 8).toUInt8), (((shr32 ((shr64 p0 32).toUInt32) 16).toUInt16).toUInt8)]) ++ [((shr16 (((shr64 p0 32).toUInt32).toUInt16) 8).toUInt8), ((((shr64 p0 32).toUInt32).toUInt16).toUInt8)]).length) none]), .row 1 (List.map eU8 ((p1 ++ [((shr16 ((shr32 ((shr64 p0 32).toUInt32) 16).toUInt16) 8).toUInt8), (((shr32 ((shr64 p0 32).toUInt32) 16).toUInt16).toUInt8)]) ++ [((shr16 (((shr64 p0 32).toUInt32).toUInt16) 8).toUInt8), ((((shr64 p0 32).toUInt32).toUInt16).toUInt8)])) true]) (args' := [.ref 0 0 0, .d (eU32 (p0.toUInt32))]) (r' := .tuple []) (σ2 := [.box (.agg [.slc 2 1 0 (((((p1 ++ [((shr16 ((shr32 ((shr64 p0 32).toUInt32) 16).toUInt16) 8).toUInt8), (((shr32 ((shr64 p0 32).toUInt32) 16).toUInt16).toUInt8)]) ++ [((shr16 (((shr64 p0 32).toUInt32).toUInt16) 8).toUInt8), ((((shr64 p0 32).toUInt32).toUInt16).toUInt8)]) ++ [((shr16 ((shr32 (p0.toUInt32) 16).toUInt16) 8).toUInt8), (((shr32 (p0.toUInt32) 16).toUInt16).toUInt8)]) ++ [((shr16 ((p0.toUInt32).toUInt16) 8).toUInt8), (((p0.toUInt32).toUInt16).toUInt8)]).length) none]), .dead, .row 1 (List.map eU8 ((((p1 ++ [((shr16 ((shr32 ((shr64 p0 32).toUInt32) 16).toUInt16) 8).toUInt8), (((shr32 ((shr64 p0 32).toUInt32) 16).toUInt16).toUInt8)]) ++ [((shr16 (((shr64 p0 32).toUInt32).toUInt16) 8).toUInt8), ((((shr64 p0 32).toUInt32).toUInt16).toUInt8)]) ++ [((shr16 ((shr32 (p0.toUInt32) 16).toUInt16) 8).toUInt8), (((shr32 (p0.toUInt32) 16).toUInt16).toUInt8)]) ++ [((shr16 ((p0.toUInt32).toUInt16) 8).toUInt8), (((p0.toUInt32).toUInt16).toUInt8)])) true]) (os := [.box (.agg [.slc 3 1 0 (((((p1 ++ [((shr16 ((shr32 ((shr64 p0 32).toUInt32) 16).toUInt16) 8).toUInt8), (((shr32 ((shr64 p0 32).toUInt32) 16).toUInt16).toUInt8)]) ++ [((shr16 (((shr64 p0 32).toUInt32).toUInt16) 8).toUInt8), ((((shr64 p0 32).toUInt32).toUInt16).toUInt8)]) ++ [((shr16 ((shr32 (p0.toUInt32) 16).toUInt16) 8).toUInt8), (((shr32 (p0.toUInt32) 16).toUInt16).toUInt8)]) ++ [((shr16 ((p0.toUInt32).toUInt16) 8).toUInt8), (((p0.toUInt32).toUInt16).toUInt8)]).length) none]), .dead, .row 1 (List.map eU8 ((((p1 ++ [((shr16 ((shr32 ((shr64 p0 32).toUInt32) 16).toUInt16) 8).toUInt8), (((shr32 ((shr64 p0 32).toUInt32) 16).toUInt16).toUInt8)]) ++ [((shr16 (((shr64 p0 32).toUInt32).toUInt16) 8).toUInt8), ((((shr64 p0 32).toUInt32).toUInt16).toUInt8)]) ++ [((shr16 ((shr32 (p0.toUInt32) 16).toUInt16) 8).toUInt8), (((shr32 (p0.toUInt32) 16).toUInt16).toUInt8)]) ++ [((shr16 ((p0.toUInt32).toUInt16) 8).toUInt8), (((p0.toUInt32).toUInt16).toUInt8)])) true]) (r := .tuple []) (σ' := [.box (.agg [.slc 3 1 0 (((((p1 ++ [((shr16 ((shr32 ((shr64 p0 32).toUInt32) 16).toUInt16) 8).toUInt8), (((shr32 ((shr64 p0 32).toUInt32) 16).toUInt16).toUInt8)]) ++ [((shr16 (((shr64 p0 32).toUInt32).toUInt16) 8).toUInt8), ((((shr64 p0 32).toUInt32).toUInt16).toUInt8)]) ++ [((shr16 ((shr32 (p0.toUInt32) 16).toUInt16) 8).toUInt8), (((shr32 (p0.toUInt32) 16).toUInt16).toUInt8)]) ++ [((shr16 ((p0.toUInt32).toUInt16) 8).toUInt8), (((p0.toUInt32).toUInt16).toUInt8)]).length) none]), .dead, .dead, .row 1 (List.map eU8 ((((p1 ++ [((shr16 ((shr32 ((shr64 p0 32).toUInt32) 16).toUInt16) 8).toUInt8), (((shr32 ((shr64 p0 32).toUInt32) 16).toUInt16).toUInt8)]) ++ [((shr16 (((shr64 p0 32).toUInt32).toUInt16) 8).toUInt8), ((((shr64 p0 32).toUInt32).toUInt16).toUInt8)]) ++ [((shr16 ((shr32 (p0.toUInt32) 16).toUInt16) 8).toUInt8), (((shr32 (p0.toUInt32) 16).toUInt16).toUInt8)]) ++ [((shr16 ((p0.toUInt32).toUInt16) 8).toUInt8), (((p0.toUInt32).toUInt16).toUInt8)])) true]) (Wanted.free rfl) rfl rfl rfl rfl rfl cb62 rfl rfl (pack_Out_U32_ok (p0.toUInt32) ((p1 ++ [((shr16 ((shr32 ((shr64 p0 32).toUInt32) 16).toUInt16) 8).toUInt8), (((shr32 ((shr64 p0 32).toUInt32) 16).toUInt16).toUInt8)]) ++ [((shr16 (((shr64 p0 32).toUInt32).toUInt16) 8).toUInt8), ((((shr64 p0 32).toUInt32).toUInt16).toUInt8)]) _ hq4) rfl rfl (Nat.le_of_ble_eq_true rfl) rfl ?_
  refine SO.nil ?_
  have q := Option.some.inj h0; subst q
  exact finN (Wk.trans (Wk.env (e' := []) EW.nil) (Wk.canon (ι := [0, 1, 3]) (roots := [0, 1]) (os := [.box (.agg [.slc 2 1 0 (((((p1 ++ [((shr16 ((shr32 ((shr64 p0 32).toUInt32) 16).toUInt16) 8).toUInt8), (((shr32 ((shr64 p0 32).toUInt32) 16).toUInt16).toUInt8)]) ++ [((shr16 (((shr64 p0 32).toUInt32).toUInt16) 8).toUInt8), ((((shr64 p0 32).toUInt32).toUInt16).toUInt8)]) ++ [((shr16 ((shr32 (p0.toUInt32) 16).toUInt16) 8).toUInt8), (((shr32 (p0.toUInt32) 16).toUInt16).toUInt8)]) ++ [((shr16 ((p0.toUInt32).toUInt16) 8).toUInt8), (((p0.toUInt32).toUInt16).toUInt8)]).length) none]), .dead, .row 1 (List.map eU8 ((((p1 ++ [((shr16 ((shr32 ((shr64 p0 32).toUInt32) 16).toUInt16) 8).toUInt8), (((shr32 ((shr64 p0 32).toUInt32) 16).toUInt16).toUInt8)]) ++ [((shr16 (((shr64 p0 32).toUInt32).toUInt16) 8).toUInt8), ((((shr64 p0 32).toUInt32).toUInt16).toUInt8)]) ++ [((shr16 ((shr32 (p0.toUInt32) 16).toUInt16) 8).toUInt8), (((shr32 (p0.toUInt32) 16).toUInt16).toUInt8)]) ++ [((shr16 ((p0.toUInt32).toUInt16) 8).toUInt8), (((p0.toUInt32).toUInt16).toUInt8)])) true]) (e' := []) rfl rfl rfl)) lresN rfl

/-- (*granary/pack.Out).U8 -/
noncomputable def pack_Out_U8 (p0 : UInt8) (p1 : List UInt8) : Option Unit :=
  Option.bind (pack_Out_put_1 [p0] p1) fun _ =>
  some ()
theorem pack_Out_U8_ok (p0 : UInt8) (p1 : List UInt8) (r : Unit) (h0 : pack_Out_U8 p0 p1 = some r) : CallAt Tryd.prog 41 [.ref 0 0 0, .d (eU8 p0)] [.box (.agg [.slc 1 1 0 p1.length none]), .row 1 (List.map eU8 p1) true] (.tuple []) [.box (.agg [.slc 2 1 0 ((p1 ++ [p0]).length) none]), .dead, .row 1 (List.map eU8 (p1 ++ [p0])) true] := by
  unfold pack_Out_U8 at h0
  refine CallAt.of Tryd.func41 rfl ?_
  refine SC.post (Q' := fun e s => ∃ s1, Wk _ s s1 ∧ Fin _ _ _ _ e s1) ?_ (fun _ _ h => h)
  refine SC.wk (s1 := ⟨mk 8 [(0, .ref 0 0 0), (1, .d (eU8 p0))], [.box (.agg [.slc 1 1 0 p1.length none]), .row 1 (List.map eU8 p1) true]⟩) (Wk.begin (n := 8) (Nat.le_of_ble_eq_true rfl)) ?_
  refine SC.region ?_
  refine SO.op (Wanted.free rfl) rfl (A_move (v := .ref 0 0 0) rfl rfl) ?_
  refine SO.op (Wanted.free rfl) rfl (A_move (v := .d (eU8 p0)) rfl rfl) ?_
  refine SO.opW (v' := .slc 2 1 0 ([p0].length) none) (Wanted.free rfl) rfl (A_buildSlice (v := .slc 2 1 0 1 (some 1)) (σ' := [.box (.agg [.slc 1 1 0 p1.length none]), .row 1 (List.map eU8 p1) true, .row 1 (List.map eU8 [p0]) true]) rfl rfl (bsl un51 ei5 (by decide) rfl (by rfl) rfl rfl)) (AW.slcc rfl rfl) ?_
  obtain ⟨_, hq2, h0⟩ := ob h0
  refine SO.call (ι := [0, 2, 1]) (σc := [.box (.agg [.slc 2 1 0 p1.length none]), .row 1 (List.map eU8 [p0]) true, .row 1 (List.map eU8 p1) true]) (args' := [.ref 0 0 0, .slc 1 1 0 ([p0].length) none]) (r' := .tuple []) (σ2 := [.box (.agg [.slc 3 1 0 ((p1 ++ [p0]).length) none]), .row 1 (List.map eU8 [p0]) true, .dead, .row 1 (List.map eU8 (p1 ++ [p0])) true]) (os := [.box (.agg [.slc 3 1 0 ((p1 ++ [p0]).length) none]), .row 1 (List.map eU8 [p0]) true, .dead, .row 1 (List.map eU8 (p1 ++ [p0])) true]) (r := .tuple []) (σ' := [.box (.agg [.slc 3 1 0 ((p1 ++ [p0]).length) none]), .dead, .row 1 (List.map eU8 [p0]) true, .row 1 (List.map eU8 (p1 ++ [p0])) true]) (Wanted.free rfl) rfl rfl rfl rfl rfl cb61 rfl rfl (pack_Out_put_1_ok [p0] p1 _ hq2) rfl rfl (Nat.le_of_ble_eq_true rfl) rfl ?_
  refine SO.nil ?_
  have q := Option.some.inj h0; subst q
  exact finN (Wk.trans (Wk.env (e' := []) EW.nil) (Wk.canon (ι := [0, 1, 3]) (roots := [0, 1]) (os := [.box (.agg [.slc 2 1 0 ((p1 ++ [p0]).length) none]), .dead, .row 1 (List.map eU8 (p1 ++ [p0])) true]) (e' := []) rfl rfl rfl)) lresN rfl

/-- (*granary/pack.Out).Bytes -/
noncomputable def pack_Out_Bytes (p0 : List UInt8) : Option Unit :=
  bif decide (p0.length * 1 ≤ room) then
  some ()
  else none
theorem pack_Out_Bytes_ok (p0 : List UInt8) (r : Unit) (h0 : pack_Out_Bytes p0 = some r) : CallAt Tryd.prog 42 [.ref 0 0 0] [.box (.agg [.slc 1 1 0 p0.length none]), .row 1 (List.map eU8 p0) true] (.slc 2 1 0 p0.length none) [.box (.agg [.slc 1 1 0 p0.length none]), .row 1 (List.map eU8 p0) true, .row 1 (List.map eU8 p0) true] := by
  unfold pack_Out_Bytes at h0
  refine CallAt.of Tryd.func42 rfl ?_
  refine SC.post (Q' := fun e s => ∃ s1, Wk _ s s1 ∧ Fin _ _ _ _ e s1) ?_ (fun _ _ h => h)
  refine SC.wk (s1 := ⟨mk 10 [(0, .ref 0 0 0)], [.box (.agg [.slc 1 1 0 p0.length none]), .row 1 (List.map eU8 p0) true]⟩) (Wk.begin (n := 10) (Nat.le_of_ble_eq_true rfl)) ?_
  refine SC.seq ?_
  refine SC.region ?_
  refine SO.op (Wanted.free rfl) rfl (A_assign (v := .d .nils) rfl rfl) ?_
  refine SO.nil ?_
  change SC _ _ _ _ _
  refine SC.seq ?_
  refine SC.seq ?_
  refine SC.region ?_
  refine SO.op (Wanted.free rfl) rfl (A_move (v := .ref 0 0 0) rfl rfl) ?_
  refine SO.op (Wanted.free rfl) rfl (A_bin (v := .d (eB false)) rfl rfl rfl (fun _ _ => nil_eql un93)) ?_
  refine SO.nil ?_
  change SC _ _ _ _ _
  refine SC.condF rfl ?_
  refine SC.skip ?_
  change SC _ _ _ _ _
  refine SC.seq ?_
  refine SC.region ?_
  refine SO.op (Wanted.free rfl) rfl (A_move (v := .ref 0 0 0) rfl rfl) ?_
  refine SO.op (Wanted.free rfl) rfl (A_nilRef rfl rfl) ?_
  refine SO.op (Wanted.free rfl) rfl (A_fieldAddr rfl rfl (fa_ref fo64_0 ts51 rfl)) ?_
  refine SO.op (Wanted.free rfl) rfl (A_load (v := .slc 1 1 0 p0.length none) rfl rfl (ld_box ts51 ta51 rfl rfl)) ?_
  obtain ⟨hg2, h0⟩ := gd h0
  refine SO.op (Wanted.free rfl) rfl (A_append (v := .slc 2 1 0 p0.length none) (σ' := [.box (.agg [.slc 1 1 0 p0.length none]), .row 1 (List.map eU8 p0) true, .row 1 (List.map eU8 p0) true]) rfl rfl rfl rfl rfl bc51 (apNil (f := eU8) (ys := p0) un51 ei5 (el_full (xs := p0) rfl) hg2 rfl rfl)) ?_
  refine SO.op (Wanted.free rfl) rfl (A_assign (v := .slc 2 1 0 p0.length none) rfl rfl) ?_
  refine SO.nil ?_
  change SC _ _ _ _ _
  refine SC.ret ?_
  have q := Option.some.inj h0; subst q
  exact finR (Wk.env (e' := [(2, .slc 2 1 0 p0.length none)]) (EW.cons (AW.refl _) EW.nil)) (lresT rfl lresN) rfl

/-- granary/key.turned -/
noncomputable def key_turned (p0 : List UInt8) : Option ((List UInt8)) :=
  Option.bind (α := (List UInt8))
    (Option.bind (α := (List UInt8))
      (loop (Y := (List UInt8) × Int) (W := (List UInt8)) (fun (y57, y58) =>
        bif (decide (y58 < (p0.length : Int))) then
          Option.bind (getI y57 y58) fun v67 =>
          Option.bind (getI y57 y58) fun v68 =>
          some (Sum.inl ((List.set y57 y58.toNat (~~~ v67)), (w64 (y58 + (1 : Int)))))
        else
          some (Sum.inr y57)) (p0, (0 : Int)))
      (fun e => some e))
    fun y52 =>
  some y52
theorem key_turned_ok (p0 : List UInt8) (r : (List UInt8)) (h0 : key_turned p0 = some r) : CallAt Tryd.prog 33 [.slc 0 1 0 p0.length none] [.row 1 (List.map eU8 p0) true] (.slc 0 1 0 r.length none) [.row 1 (List.map eU8 r) true] := by
  unfold key_turned at h0
  refine CallAt.of Tryd.func33 rfl ?_
  refine SC.post (Q' := fun e s => ∃ s1, Wk _ s s1 ∧ Fin _ _ _ _ e s1) ?_ (fun _ _ h => h)
  refine SC.wk (s1 := ⟨mk 19 [(0, .slc 0 1 0 p0.length none)], [.row 1 (List.map eU8 p0) true]⟩) (Wk.begin (n := 19) (Nat.le_of_ble_eq_true rfl)) ?_
  refine SC.seq ?_
  refine SC.region ?_
  refine SO.op (Wanted.free rfl) rfl (A_assign (v := .d .nils) rfl rfl) ?_
  refine SO.nil ?_
  change SC _ _ _ _ _
  refine SC.seqP h0 (fun y => ⟨mk 19 [(0, .slc 0 1 0 y.length none)], [.row 1 (List.map eU8 y) true]⟩) ?_ ?_
  · intro u1_53 h1
    refine SC.seq ?_
    refine SC.region ?_
    refine SO.op (Wanted.free rfl) rfl (A_move (v := .slc 0 1 0 p0.length none) rfl rfl) ?_
    refine SO.op (Wanted.free rfl) rfl (A_len (v := .d (eI (p0.length : Int))) rfl rfl rfl rfl (len_slc un51)) ?_
    refine SO.op (Wanted.free rfl) rfl (A_move (v := .d (eI (0 : Int))) rfl rfl) ?_
    refine SO.nil ?_
    change SC _ _ _ _ _
    refine SC.blk ?_
    obtain ⟨u2_65, h2, h1⟩ := ob h1
    refine SC.loopB h2 (fun y => ⟨mk 19 [(0, .slc 0 1 0 y.1.length none), (5, .d (eI (p0.length : Int))), (6, .d (eI y.2))], [.row 1 (List.map eU8 y.1) true]⟩) (Wk.env (e' := [(0, .slc 0 1 0 p0.length none), (5, .d (eI (p0.length : Int))), (6, .d (eI (0 : Int)))]) (EW.cons (AW.refl _) (EW.cons (AW.refl _) (EW.cons (AW.refl _) EW.nil)))) ?_
    intro n69
    rintro ⟨y57, y58⟩ w2_64 h3 hv3
    change SC _ _ _ ⟨mk 19 [(0, .slc 0 1 0 y57.length none), (5, .d (eI (p0.length : Int))), (6, .d (eI y58))], [.row 1 (List.map eU8 y57) true]⟩ _
    refine SC.seq ?_
    refine SC.region ?_
    refine SO.op (Wanted.free rfl) rfl (A_bin (v := .d (eB (decide (y58 < (p0.length : Int))))) rfl rfl rfl (fun X Y => b_i64_lss _ X Y y58 (p0.length : Int))) ?_
    refine SO.nil ?_
    change SC _ _ _ _ _
    refine SC.seq ?_
    refine SC.condB (t := (decide (y58 < (p0.length : Int)))) rfl (fun hb66 => ?_) (fun hb66 => ?_)
    · replace h3 := ct hb66 h3
      refine SC.skip ?_
      change SC _ _ _ _ _
      refine SC.seq ?_
      refine SC.blk ?_
      refine SC.seq ?_
      refine SC.region ?_
      refine SO.op (Wanted.free rfl) rfl (A_move (v := .d (eI y58)) rfl rfl) ?_
      refine SO.op (Wanted.free rfl) rfl (A_assign (v := .d (eI y58)) rfl rfl) ?_
      refine SO.nil ?_
      change SC _ _ _ _ _
      refine SC.region ?_
      refine SO.op (Wanted.free rfl) rfl (A_move (v := .slc 0 1 0 y57.length none) rfl rfl) ?_
      refine SO.op (Wanted.free rfl) rfl (A_move (v := .d (eI y58)) rfl rfl) ?_
      refine SO.op (Wanted.free rfl) rfl (A_move (v := .slc 0 1 0 y57.length none) rfl rfl) ?_
      refine SO.op (Wanted.free rfl) rfl (A_move (v := .d (eI y58)) rfl rfl) ?_
      obtain ⟨v67, hv67, h3⟩ := ob h3
      refine SO.opW (v' := .ref 0 (y58.toNat) 0) (Wanted.free rfl) rfl (A_indexAddr (v := .ref 0 (0 + y58.toNat) 0) rfl rfl rfl (ia_slc un51 ts5 (getI_lt hv67))) (AW.refz (by simp)) ?_
      refine SO.op (Wanted.free rfl) rfl (A_load (v := .d (eU8 v67)) rfl rfl (ld_row ts5 ta5 rfl (map_get (getI_some hv67).2) rfl)) ?_
      refine SO.op (Wanted.free rfl) rfl (A_un (v := .d (eU8 (~~~ v67))) rfl rfl rfl (un_u8_xor v67)) ?_
      obtain ⟨v68, hv68, h3⟩ := ob h3
      refine SO.opW (v' := .ref 0 (y58.toNat) 0) (Wanted.free rfl) rfl (A_indexAddr (v := .ref 0 (0 + y58.toNat) 0) rfl rfl rfl (ia_slc un51 ts5 (getI_lt hv68))) (AW.refz (by simp)) ?_
      refine SO.op0 (Wanted.free rfl) rfl (A_store (σ' := [.row 1 (List.map eU8 (List.set y57 y58.toNat (~~~ v67))) true]) rfl rfl rfl (st_row1 (f := eU8) (v := (~~~ v67)) ts5 rfl rfl rfl rfl (getI_some hv68).2 rfl rfl)) ?_
      refine SO.nil ?_
      change SC _ _ _ _ _
      refine SC.region ?_
      refine SO.op (Wanted.free rfl) rfl (A_bin (v := .d (eI (w64 (y58 + (1 : Int))))) rfl rfl rfl (fun X Y => b_i64_add _ X Y y58 (1 : Int))) ?_
      refine SO.op (Wanted.free rfl) rfl (A_move (v := .d (eI (w64 (y58 + (1 : Int))))) rfl rfl) ?_
      refine SO.nil ?_
      have q := Option.some.inj h3; subst q
      exact lf (Wk.env (e' := [(0, .slc 0 1 0 ((List.set y57 y58.toNat (~~~ v67)).length) none), (5, .d (eI (p0.length : Int))), (6, .d (eI (w64 (y58 + (1 : Int)))))]) (EW.cons (AW.slc rfl (by simp)) (EW.cons (AW.refl _) (EW.cons (AW.refl _) EW.nil))))
    · replace h3 := cf hb66 h3
      refine SC.exit ?_
      have q := Option.some.inj h3; subst q
      have q : _ = _ := hv3; subst q
      have q := Option.some.inj h1; subst q
      exact (Wk.env (e' := [(0, .slc 0 1 0 y57.length none)]) (EW.cons (AW.refl _) EW.nil))
  · rintro y52 h0
    change SC _ _ _ ⟨mk 19 [(0, .slc 0 1 0 y52.length none)], [.row 1 (List.map eU8 y52) true]⟩ _
    refine SC.seq ?_
    refine SC.region ?_
    refine SO.op (Wanted.free rfl) rfl (A_move (v := .slc 0 1 0 y52.length none) rfl rfl) ?_
    refine SO.op (Wanted.free rfl) rfl (A_assign (v := .slc 0 1 0 y52.length none) rfl rfl) ?_
    refine SO.nil ?_
    change SC _ _ _ _ _
    refine SC.ret ?_
    have q := Option.some.inj h0; subst q
    exact finR (Wk.env (e' := [(2, .slc 0 1 0 y52.length none)]) (EW.cons (AW.refl _) EW.nil)) (lresT rfl lresN) rfl

/-- granary/key.one -/
noncomputable def key_one (p0 : ApiValue) (p1 : Bool) : Option ((List UInt8)) :=
  Option.bind (pack_Out_Flag (p0.Kind != (0 : Int))) fun r42 =>
  Option.bind (α := (List UInt8))
    (bif (p0.Kind == (1 : Int)) then
      Option.bind (pack_Out_U64 (p0.N ^^^ (9223372036854775808 : UInt64)) r42) fun _ =>
      some ((((r42 ++ [((shr16 ((shr32 ((shr64 (p0.N ^^^ (9223372036854775808 : UInt64)) 32).toUInt32) 16).toUInt16) 8).toUInt8), (((shr32 ((shr64 (p0.N ^^^ (9223372036854775808 : UInt64)) 32).toUInt32) 16).toUInt16).toUInt8)]) ++ [((shr16 (((shr64 (p0.N ^^^ (9223372036854775808 : UInt64)) 32).toUInt32).toUInt16) 8).toUInt8), ((((shr64 (p0.N ^^^ (9223372036854775808 : UInt64)) 32).toUInt32).toUInt16).toUInt8)]) ++ [((shr16 ((shr32 ((p0.N ^^^ (9223372036854775808 : UInt64)).toUInt32) 16).toUInt16) 8).toUInt8), (((shr32 ((p0.N ^^^ (9223372036854775808 : UInt64)).toUInt32) 16).toUInt16).toUInt8)]) ++ [((shr16 (((p0.N ^^^ (9223372036854775808 : UInt64)).toUInt32).toUInt16) 8).toUInt8), ((((p0.N ^^^ (9223372036854775808 : UInt64)).toUInt32).toUInt16).toUInt8)])
    else
      bif (p0.Kind == (2 : Int)) then
        Option.bind (pack_Out_U64 p0.N r42) fun _ =>
        some ((((r42 ++ [((shr16 ((shr32 ((shr64 p0.N 32).toUInt32) 16).toUInt16) 8).toUInt8), (((shr32 ((shr64 p0.N 32).toUInt32) 16).toUInt16).toUInt8)]) ++ [((shr16 (((shr64 p0.N 32).toUInt32).toUInt16) 8).toUInt8), ((((shr64 p0.N 32).toUInt32).toUInt16).toUInt8)]) ++ [((shr16 ((shr32 (p0.N.toUInt32) 16).toUInt16) 8).toUInt8), (((shr32 (p0.N.toUInt32) 16).toUInt16).toUInt8)]) ++ [((shr16 ((p0.N.toUInt32).toUInt16) 8).toUInt8), (((p0.N.toUInt32).toUInt16).toUInt8)])
      else
        bif (p0.Kind == (3 : Int)) then
          Option.bind (pack_Out_U8 (p0.N.toUInt8) r42) fun _ =>
          some (r42 ++ [(p0.N.toUInt8)])
        else
          some r42)
    fun y50 =>
  Option.bind (pack_Out_Bytes y50) fun _ =>
  Option.bind (α := (List UInt8))
    (Option.bind (α := Bool)
      (bif (p0.Kind == (4 : Int)) then
        some true
      else
        some (p0.Kind == (5 : Int)))
      fun y71 =>
    bif y71 then
      Option.bind (replF p0.S ([0] : List UInt8) ([0, 255] : List UInt8)) fun r75 =>
      bif decide ((y50.length + r75.length) * 1 ≤ room) then
      bif decide (((y50 ++ r75).length + [(0 : UInt8), (0 : UInt8)].length) * 1 ≤ room) then
      some ((y50 ++ r75) ++ [(0 : UInt8), (0 : UInt8)])
      else none
      else none
    else
      some y50)
    fun y68 =>
  bif p1 then
    Option.bind (key_turned y68) fun r80 =>
    some r80
  else
    some y68
theorem key_one_ok (p0 : ApiValue) (p1 : Bool) (r : (List UInt8)) (h0 : key_one p0 p1 = some r) : CallAt Tryd.prog 28 [.d (eApiValue p0), .d (eB p1)] [] (.d ((eL 1 eU8) r)) [] := by
  unfold key_one at h0
  refine CallAt.of Tryd.func28 rfl ?_
  refine SC.post (Q' := fun e s => ∃ s1, Wk _ s s1 ∧ Fin _ _ _ _ e s1) ?_ (fun _ _ h => h)
  refine SC.wk (s1 := ⟨mk 51 [(0, .d (eApiValue p0)), (1, .d (eB p1))], []⟩) (Wk.begin (n := 51) (Nat.le_of_ble_eq_true rfl)) ?_
  refine SC.seq ?_
  refine SC.region ?_
  refine SO.op (Wanted.free rfl) rfl (A_box (v := .d (eApiValue p0)) (σ' := [.box (.d (eApiValue p0))]) rfl rfl rfl rfl rfl) ?_
  refine SO.op (Wanted.free rfl) rfl (A_assign (v := .d .nils) rfl rfl) ?_
  refine SO.nil ?_
  change SC _ _ _ _ _
  refine SC.seq ?_
  refine SC.region ?_
  refine SO.op (Wanted.free rfl) rfl (A_alloc (σ' := [.box (.d (eApiValue p0)), .box (.d (.agg [.nils]))]) rfl zo64 rfl rfl) ?_
  refine SO.nil ?_
  change SC _ _ _ _ _
  refine SC.seq ?_
  refine SC.region ?_
  refine SO.op (Wanted.free rfl) rfl (A_fieldAddr rfl rfl (fa_ref fo35_0 ts3 rfl)) ?_
  refine SO.op (Wanted.free rfl) rfl (A_load (v := .d (eI p0.Kind)) rfl rfl (ld_box ts3 ta3 rfl rfl)) ?_
  refine SO.op (Wanted.free rfl) rfl (A_bin (v := .d (eB (p0.Kind != (0 : Int)))) rfl rfl rfl (fun X Y => b_i64_neq _ X Y p0.Kind (0 : Int))) ?_
  obtain ⟨r42, hq43, h0⟩ := ob h0
  refine SO.call (ι := [1]) (σc := [.box (.d (.agg [.nils]))]) (args' := [.ref 0 0 0, .d (eB (p0.Kind != (0 : Int)))]) (r' := .tuple []) (σ2 := [.box (.agg [.slc 1 1 0 r42.length none]), .row 1 (List.map eU8 r42) true]) (os := [.box (.agg [.slc 2 1 0 r42.length none]), .row 1 (List.map eU8 r42) true]) (r := .tuple []) (σ' := [.box (.d (eApiValue p0)), .box (.agg [.slc 2 1 0 r42.length none]), .row 1 (List.map eU8 r42) true]) (Wanted.free rfl) rfl rfl rfl rfl rfl cb39 rfl rfl (pack_Out_Flag_ok (p0.Kind != (0 : Int)) _ hq43) rfl rfl (Nat.le_of_ble_eq_true rfl) rfl ?_
  refine SO.nil ?_
  change SC _ _ _ _ _
  refine SC.seqP h0 (fun y => ⟨mk 51 [(1, .d (eB p1)), (2, .ref 0 0 0), (5, .ref 1 0 0)], [.box (.d (eApiValue p0)), .box (.agg [.slc 2 1 0 y.length none]), .row 1 (List.map eU8 y) true]⟩) ?_ ?_
  · intro u1_51 h1
    refine SC.seq ?_
    refine SC.region ?_
    refine SO.op (Wanted.free rfl) rfl (A_fieldAddr rfl rfl (fa_ref fo35_0 ts3 rfl)) ?_
    refine SO.op (Wanted.free rfl) rfl (A_load (v := .d (eI p0.Kind)) rfl rfl (ld_box ts3 ta3 rfl rfl)) ?_
    refine SO.nil ?_
    change SC _ _ _ _ _
    refine SC.blk ?_
    refine SC.seq ?_
    refine SC.region ?_
    refine SO.op (Wanted.free rfl) rfl (A_bin (v := .d (eB (p0.Kind == (1 : Int)))) rfl rfl rfl (fun X Y => b_i64_eql _ X Y p0.Kind (1 : Int))) ?_
    refine SO.op (Wanted.free rfl) rfl (A_assign (v := .d (eB (p0.Kind == (1 : Int)))) rfl rfl) ?_
    refine SO.nil ?_
    change SC _ _ _ _ _
    refine SC.condB (t := (p0.Kind == (1 : Int))) rfl (fun hb52 => ?_) (fun hb52 => ?_)
    · replace h1 := ct hb52 h1
      refine SC.region ?_
      refine SO.op (Wanted.free rfl) rfl (A_fieldAddr rfl rfl (fa_ref fo35_1 ts33 rfl)) ?_
      refine SO.op (Wanted.free rfl) rfl (A_load (v := .d (eU64 p0.N)) rfl rfl (ld_box ts33 ta33 rfl rfl)) ?_
      refine SO.op (Wanted.free rfl) rfl (A_bin (v := .d (eU64 (p0.N ^^^ (9223372036854775808 : UInt64)))) rfl rfl rfl (fun X Y => b_u64_xor _ X Y p0.N (9223372036854775808 : UInt64))) ?_
      obtain ⟨_, hq53, h1⟩ := ob h1
      refine SO.call (ι := [1, 2]) (σc := [.box (.agg [.slc 1 1 0 r42.length none]), .row 1 (List.map eU8 r42) true]) (args' := [.ref 0 0 0, .d (eU64 (p0.N ^^^ (9223372036854775808 : UInt64)))]) (r' := .tuple []) (σ2 := [.box (.agg [.slc 2 1 0 (((((r42 ++ [((shr16 ((shr32 ((shr64 (p0.N ^^^ (9223372036854775808 : UInt64)) 32).toUInt32) 16).toUInt16) 8).toUInt8), (((shr32 ((shr64 (p0.N ^^^ (9223372036854775808 : UInt64)) 32).toUInt32) 16).toUInt16).toUInt8)]) ++ [((shr16 (((shr64 (p0.N ^^^ (9223372036854775808 : UInt64)) 32).toUInt32).toUInt16) 8).toUInt8), ((((shr64 (p0.N ^^^ (9223372036854775808 : UInt64)) 32).toUInt32).toUInt16).toUInt8)]) ++ [((shr16 ((shr32 ((p0.N ^^^ (9223372036854775808 : UInt64)).toUInt32) 16).toUInt16) 8).toUInt8), (((shr32 ((p0.N ^^^ (9223372036854775808 : UInt64)).toUInt32) 16).toUInt16).toUInt8)]) ++ [((shr16 (((p0.N ^^^ (9223372036854775808 : UInt64)).toUInt32).toUInt16) 8).toUInt8), ((((p0.N ^^^ (9223372036854775808 : UInt64)).toUInt32).toUInt16).toUInt8)]).length) none]), .dead, .row 1 (List.map eU8 ((((r42 ++ [((shr16 ((shr32 ((shr64 (p0.N ^^^ (9223372036854775808 : UInt64)) 32).toUInt32) 16).toUInt16) 8).toUInt8), (((shr32 ((shr64 (p0.N ^^^ (9223372036854775808 : UInt64)) 32).toUInt32) 16).toUInt16).toUInt8)]) ++ [((shr16 (((shr64 (p0.N ^^^ (9223372036854775808 : UInt64)) 32).toUInt32).toUInt16) 8).toUInt8), ((((shr64 (p0.N ^^^ (9223372036854775808 : UInt64)) 32).toUInt32).toUInt16).toUInt8)]) ++ [((shr16 ((shr32 ((p0.N ^^^ (9223372036854775808 : UInt64)).toUInt32) 16).toUInt16) 8).toUInt8), (((shr32 ((p0.N ^^^ (9223372036854775808 : UInt64)).toUInt32) 16).toUInt16).toUInt8)]) ++ [((shr16 (((p0.N ^^^ (9223372036854775808 : UInt64)).toUInt32).toUInt16) 8).toUInt8), ((((p0.N ^^^ (9223372036854775808 : UInt64)).toUInt32).toUInt16).toUInt8)])) true]) (os := [.box (.agg [.slc 3 1 0 (((((r42 ++ [((shr16 ((shr32 ((shr64 (p0.N ^^^ (9223372036854775808 : UInt64)) 32).toUInt32) 16).toUInt16) 8).toUInt8), (((shr32 ((shr64 (p0.N ^^^ (9223372036854775808 : UInt64)) 32).toUInt32) 16).toUInt16).toUInt8)]) ++ [((shr16 (((shr64 (p0.N ^^^ (9223372036854775808 : UInt64)) 32).toUInt32).toUInt16) 8).toUInt8), ((((shr64 (p0.N ^^^ (9223372036854775808 : UInt64)) 32).toUInt32).toUInt16).toUInt8)]) ++ [((shr16 ((shr32 ((p0.N ^^^ (9223372036854775808 : UInt64)).toUInt32) 16).toUInt16) 8).toUInt8), (((shr32 ((p0.N ^^^ (9223372036854775808 : UInt64)).toUInt32) 16).toUInt16).toUInt8)]) ++ [((shr16 (((p0.N ^^^ (9223372036854775808 : UInt64)).toUInt32).toUInt16) 8).toUInt8), ((((p0.N ^^^ (9223372036854775808 : UInt64)).toUInt32).toUInt16).toUInt8)]).length) none]), .dead, .row 1 (List.map eU8 ((((r42 ++ [((shr16 ((shr32 ((shr64 (p0.N ^^^ (9223372036854775808 : UInt64)) 32).toUInt32) 16).toUInt16) 8).toUInt8), (((shr32 ((shr64 (p0.N ^^^ (9223372036854775808 : UInt64)) 32).toUInt32) 16).toUInt16).toUInt8)]) ++ [((shr16 (((shr64 (p0.N ^^^ (9223372036854775808 : UInt64)) 32).toUInt32).toUInt16) 8).toUInt8), ((((shr64 (p0.N ^^^ (9223372036854775808 : UInt64)) 32).toUInt32).toUInt16).toUInt8)]) ++ [((shr16 ((shr32 ((p0.N ^^^ (9223372036854775808 : UInt64)).toUInt32) 16).toUInt16) 8).toUInt8), (((shr32 ((p0.N ^^^ (9223372036854775808 : UInt64)).toUInt32) 16).toUInt16).toUInt8)]) ++ [((shr16 (((p0.N ^^^ (9223372036854775808 : UInt64)).toUInt32).toUInt16) 8).toUInt8), ((((p0.N ^^^ (9223372036854775808 : UInt64)).toUInt32).toUInt16).toUInt8)])) true]) (r := .tuple []) (σ' := [.box (.d (eApiValue p0)), .box (.agg [.slc 3 1 0 (((((r42 ++ [((shr16 ((shr32 ((shr64 (p0.N ^^^ (9223372036854775808 : UInt64)) 32).toUInt32) 16).toUInt16) 8).toUInt8), (((shr32 ((shr64 (p0.N ^^^ (9223372036854775808 : UInt64)) 32).toUInt32) 16).toUInt16).toUInt8)]) ++ [((shr16 (((shr64 (p0.N ^^^ (9223372036854775808 : UInt64)) 32).toUInt32).toUInt16) 8).toUInt8), ((((shr64 (p0.N ^^^ (9223372036854775808 : UInt64)) 32).toUInt32).toUInt16).toUInt8)]) ++ [((shr16 ((shr32 ((p0.N ^^^ (9223372036854775808 : UInt64)).toUInt32) 16).toUInt16) 8).toUInt8), (((shr32 ((p0.N ^^^ (9223372036854775808 : UInt64)).toUInt32) 16).toUInt16).toUInt8)]) ++ [((shr16 (((p0.N ^^^ (9223372036854775808 : UInt64)).toUInt32).toUInt16) 8).toUInt8), ((((p0.N ^^^ (9223372036854775808 : UInt64)).toUInt32).toUInt16).toUInt8)]).length) none]), .dead, .row 1 (List.map eU8 ((((r42 ++ [((shr16 ((shr32 ((shr64 (p0.N ^^^ (9223372036854775808 : UInt64)) 32).toUInt32) 16).toUInt16) 8).toUInt8), (((shr32 ((shr64 (p0.N ^^^ (9223372036854775808 : UInt64)) 32).toUInt32) 16).toUInt16).toUInt8)]) ++ [((shr16 (((shr64 (p0.N ^^^ (9223372036854775808 : UInt64)) 32).toUInt32).toUInt16) 8).toUInt8), ((((shr64 (p0.N ^^^ (9223372036854775808 : UInt64)) 32).toUInt32).toUInt16).toUInt8)]) ++ [((shr16 ((shr32 ((p0.N ^^^ (9223372036854775808 : UInt64)).toUInt32) 16).toUInt16) 8).toUInt8), (((shr32 ((p0.N ^^^ (9223372036854775808 : UInt64)).toUInt32) 16).toUInt16).toUInt8)]) ++ [((shr16 (((p0.N ^^^ (9223372036854775808 : UInt64)).toUInt32).toUInt16) 8).toUInt8), ((((p0.N ^^^ (9223372036854775808 : UInt64)).toUInt32).toUInt16).toUInt8)])) true]) (Wanted.free rfl) rfl rfl rfl rfl rfl cb40 rfl rfl (pack_Out_U64_ok (p0.N ^^^ (9223372036854775808 : UInt64)) r42 _ hq53) rfl rfl (Nat.le_of_ble_eq_true rfl) rfl ?_
      refine SO.nil ?_
      have q := Option.some.inj h1; subst q
      exact (Wk.trans (Wk.env (e' := [(1, .d (eB p1)), (2, .ref 0 0 0), (5, .ref 1 0 0)]) (EW.cons (AW.refl _) (EW.cons (AW.refl _) (EW.cons (AW.refl _) EW.nil)))) (Wk.canon (ι := [0, 1, 3]) (roots := [0, 1]) (os := [.box (.d (eApiValue p0)), .box (.agg [.slc 2 1 0 (((((r42 ++ [((shr16 ((shr32 ((shr64 (p0.N ^^^ (9223372036854775808 : UInt64)) 32).toUInt32) 16).toUInt16) 8).toUInt8), (((shr32 ((shr64 (p0.N ^^^ (9223372036854775808 : UInt64)) 32).toUInt32) 16).toUInt16).toUInt8)]) ++ [((shr16 (((shr64 (p0.N ^^^ (9223372036854775808 : UInt64)) 32).toUInt32).toUInt16) 8).toUInt8), ((((shr64 (p0.N ^^^ (9223372036854775808 : UInt64)) 32).toUInt32).toUInt16).toUInt8)]) ++ [((shr16 ((shr32 ((p0.N ^^^ (9223372036854775808 : UInt64)).toUInt32) 16).toUInt16) 8).toUInt8), (((shr32 ((p0.N ^^^ (9223372036854775808 : UInt64)).toUInt32) 16).toUInt16).toUInt8)]) ++ [((shr16 (((p0.N ^^^ (9223372036854775808 : UInt64)).toUInt32).toUInt16) 8).toUInt8), ((((p0.N ^^^ (9223372036854775808 : UInt64)).toUInt32).toUInt16).toUInt8)]).length) none]), .row 1 (List.map eU8 ((((r42 ++ [((shr16 ((shr32 ((shr64 (p0.N ^^^ (9223372036854775808 : UInt64)) 32).toUInt32) 16).toUInt16) 8).toUInt8), (((shr32 ((shr64 (p0.N ^^^ (9223372036854775808 : UInt64)) 32).toUInt32) 16).toUInt16).toUInt8)]) ++ [((shr16 (((shr64 (p0.N ^^^ (9223372036854775808 : UInt64)) 32).toUInt32).toUInt16) 8).toUInt8), ((((shr64 (p0.N ^^^ (9223372036854775808 : UInt64)) 32).toUInt32).toUInt16).toUInt8)]) ++ [((shr16 ((shr32 ((p0.N ^^^ (9223372036854775808 : UInt64)).toUInt32) 16).toUInt16) 8).toUInt8), (((shr32 ((p0.N ^^^ (9223372036854775808 : UInt64)).toUInt32) 16).toUInt16).toUInt8)]) ++ [((shr16 (((p0.N ^^^ (9223372036854775808 : UInt64)).toUInt32).toUInt16) 8).toUInt8), ((((p0.N ^^^ (9223372036854775808 : UInt64)).toUInt32).toUInt16).toUInt8)])) true]) (e' := [(1, .d (eB p1)), (2, .ref 0 0 0), (5, .ref 1 0 0)]) rfl rfl rfl))
    · replace h1 := cf hb52 h1
      refine SC.seq ?_
      refine SC.region ?_
      refine SO.op (Wanted.free rfl) rfl (A_bin (v := .d (eB (p0.Kind == (2 : Int)))) rfl rfl rfl (fun X Y => b_i64_eql _ X Y p0.Kind (2 : Int))) ?_
      refine SO.op (Wanted.free rfl) rfl (A_assign (v := .d (eB (p0.Kind == (2 : Int)))) rfl rfl) ?_
      refine SO.nil ?_
      change SC _ _ _ _ _
      refine SC.condB (t := (p0.Kind == (2 : Int))) rfl (fun hb54 => ?_) (fun hb54 => ?_)
      · replace h1 := ct hb54 h1
        refine SC.region ?_
        refine SO.op (Wanted.free rfl) rfl (A_fieldAddr rfl rfl (fa_ref fo35_1 ts33 rfl)) ?_
        refine SO.op (Wanted.free rfl) rfl (A_load (v := .d (eU64 p0.N)) rfl rfl (ld_box ts33 ta33 rfl rfl)) ?_
        obtain ⟨_, hq55, h1⟩ := ob h1
        refine SO.call (ι := [1, 2]) (σc := [.box (.agg [.slc 1 1 0 r42.length none]), .row 1 (List.map eU8 r42) true]) (args' := [.ref 0 0 0, .d (eU64 p0.N)]) (r' := .tuple []) (σ2 := [.box (.agg [.slc 2 1 0 (((((r42 ++ [((shr16 ((shr32 ((shr64 p0.N 32).toUInt32) 16).toUInt16) 8).toUInt8), (((shr32 ((shr64 p0.N 32).toUInt32) 16).toUInt16).toUInt8)]) ++ [((shr16 (((shr64 p0.N 32).toUInt32).toUInt16) 8).toUInt8), ((((shr64 p0.N 32).toUInt32).toUInt16).toUInt8)]) ++ [((shr16 ((shr32 (p0.N.toUInt32) 16).toUInt16) 8).toUInt8), (((shr32 (p0.N.toUInt32) 16).toUInt16).toUInt8)]) ++ [((shr16 ((p0.N.toUInt32).toUInt16) 8).toUInt8), (((p0.N.toUInt32).toUInt16).toUInt8)]).length) none]), .dead, .row 1 (List.map eU8 ((((r42 ++ [((shr16 ((shr32 ((shr64 p0.N 32).toUInt32) 16).toUInt16) 8).toUInt8), (((shr32 ((shr64 p0.N 32).toUInt32) 16).toUInt16).toUInt8)]) ++ [((shr16 (((shr64 p0.N 32).toUInt32).toUInt16) 8).toUInt8), ((((shr64 p0.N 32).toUInt32).toUInt16).toUInt8)]) ++ [((shr16 ((shr32 (p0.N.toUInt32) 16).toUInt16) 8).toUInt8), (((shr32 (p0.N.toUInt32) 16).toUInt16).toUInt8)]) ++ [((shr16 ((p0.N.toUInt32).toUInt16) 8).toUInt8), (((p0.N.toUInt32).toUInt16).toUInt8)])) true]) (os := [.box (.agg [.slc 3 1 0 (((((r42 ++ [((shr16 ((shr32 ((shr64 p0.N 32).toUInt32) 16).toUInt16) 8).toUInt8), (((shr32 ((shr64 p0.N 32).toUInt32) 16).toUInt16).toUInt8)]) ++ [((shr16 (((shr64 p0.N 32).toUInt32).toUInt16) 8).toUInt8), ((((shr64 p0.N 32).toUInt32).toUInt16).toUInt8)]) ++ [((shr16 ((shr32 (p0.N.toUInt32) 16).toUInt16) 8).toUInt8), (((shr32 (p0.N.toUInt32) 16).toUInt16).toUInt8)]) ++ [((shr16 ((p0.N.toUInt32).toUInt16) 8).toUInt8), (((p0.N.toUInt32).toUInt16).toUInt8)]).length) none]), .dead, .row 1 (List.map eU8 ((((r42 ++ [((shr16 ((shr32 ((shr64 p0.N 32).toUInt32) 16).toUInt16) 8).toUInt8), (((shr32 ((shr64 p0.N 32).toUInt32) 16).toUInt16).toUInt8)]) ++ [((shr16 (((shr64 p0.N 32).toUInt32).toUInt16) 8).toUInt8), ((((shr64 p0.N 32).toUInt32).toUInt16).toUInt8)]) ++ [((shr16 ((shr32 (p0.N.toUInt32) 16).toUInt16) 8).toUInt8), (((shr32 (p0.N.toUInt32) 16).toUInt16).toUInt8)]) ++ [((shr16 ((p0.N.toUInt32).toUInt16) 8).toUInt8), (((p0.N.toUInt32).toUInt16).toUInt8)])) true]) (r := .tuple []) (σ' := [.box (.d (eApiValue p0)), .box (.agg [.slc 3 1 0 (((((r42 ++ [((shr16 ((shr32 ((shr64 p0.N 32).toUInt32) 16).toUInt16) 8).toUInt8), (((shr32 ((shr64 p0.N 32).toUInt32) 16).toUInt16).toUInt8)]) ++ [((shr16 (((shr64 p0.N 32).toUInt32).toUInt16) 8).toUInt8), ((((shr64 p0.N 32).toUInt32).toUInt16).toUInt8)]) ++ [((shr16 ((shr32 (p0.N.toUInt32) 16).toUInt16) 8).toUInt8), (((shr32 (p0.N.toUInt32) 16).toUInt16).toUInt8)]) ++ [((shr16 ((p0.N.toUInt32).toUInt16) 8).toUInt8), (((p0.N.toUInt32).toUInt16).toUInt8)]).length) none]), .dead, .row 1 (List.map eU8 ((((r42 ++ [((shr16 ((shr32 ((shr64 p0.N 32).toUInt32) 16).toUInt16) 8).toUInt8), (((shr32 ((shr64 p0.N 32).toUInt32) 16).toUInt16).toUInt8)]) ++ [((shr16 (((shr64 p0.N 32).toUInt32).toUInt16) 8).toUInt8), ((((shr64 p0.N 32).toUInt32).toUInt16).toUInt8)]) ++ [((shr16 ((shr32 (p0.N.toUInt32) 16).toUInt16) 8).toUInt8), (((shr32 (p0.N.toUInt32) 16).toUInt16).toUInt8)]) ++ [((shr16 ((p0.N.toUInt32).toUInt16) 8).toUInt8), (((p0.N.toUInt32).toUInt16).toUInt8)])) true]) (Wanted.free rfl) rfl rfl rfl rfl rfl cb40 rfl rfl (pack_Out_U64_ok p0.N r42 _ hq55) rfl rfl (Nat.le_of_ble_eq_true rfl) rfl ?_
        refine SO.nil ?_
        have q := Option.some.inj h1; subst q
        exact (Wk.trans (Wk.env (e' := [(1, .d (eB p1)), (2, .ref 0 0 0), (5, .ref 1 0 0)]) (EW.cons (AW.refl _) (EW.cons (AW.refl _) (EW.cons (AW.refl _) EW.nil)))) (Wk.canon (ι := [0, 1, 3]) (roots := [0, 1]) (os := [.box (.d (eApiValue p0)), .box (.agg [.slc 2 1 0 (((((r42 ++ [((shr16 ((shr32 ((shr64 p0.N 32).toUInt32) 16).toUInt16) 8).toUInt8), (((shr32 ((shr64 p0.N 32).toUInt32) 16).toUInt16).toUInt8)]) ++ [((shr16 (((shr64 p0.N 32).toUInt32).toUInt16) 8).toUInt8), ((((shr64 p0.N 32).toUInt32).toUInt16).toUInt8)]) ++ [((shr16 ((shr32 (p0.N.toUInt32) 16).toUInt16) 8).toUInt8), (((shr32 (p0.N.toUInt32) 16).toUInt16).toUInt8)]) ++ [((shr16 ((p0.N.toUInt32).toUInt16) 8).toUInt8), (((p0.N.toUInt32).toUInt16).toUInt8)]).length) none]), .row 1 (List.map eU8 ((((r42 ++ [((shr16 ((shr32 ((shr64 p0.N 32).toUInt32) 16).toUInt16) 8).toUInt8), (((shr32 ((shr64 p0.N 32).toUInt32) 16).toUInt16).toUInt8)]) ++ [((shr16 (((shr64 p0.N 32).toUInt32).toUInt16) 8).toUInt8), ((((shr64 p0.N 32).toUInt32).toUInt16).toUInt8)]) ++ [((shr16 ((shr32 (p0.N.toUInt32) 16).toUInt16) 8).toUInt8), (((shr32 (p0.N.toUInt32) 16).toUInt16).toUInt8)]) ++ [((shr16 ((p0.N.toUInt32).toUInt16) 8).toUInt8), (((p0.N.toUInt32).toUInt16).toUInt8)])) true]) (e' := [(1, .d (eB p1)), (2, .ref 0 0 0), (5, .ref 1 0 0)]) rfl rfl rfl))
      · replace h1 := cf hb54 h1
        refine SC.seq ?_
        refine SC.region ?_
        refine SO.op (Wanted.free rfl) rfl (A_bin (v := .d (eB (p0.Kind == (3 : Int)))) rfl rfl rfl (fun X Y => b_i64_eql _ X Y p0.Kind (3 : Int))) ?_
        refine SO.op (Wanted.free rfl) rfl (A_assign (v := .d (eB (p0.Kind == (3 : Int)))) rfl rfl) ?_
        refine SO.nil ?_
        change SC _ _ _ _ _
        refine SC.condB (t := (p0.Kind == (3 : Int))) rfl (fun hb56 => ?_) (fun hb56 => ?_)
        · replace h1 := ct hb56 h1
          refine SC.region ?_
          refine SO.op (Wanted.free rfl) rfl (A_fieldAddr rfl rfl (fa_ref fo35_1 ts33 rfl)) ?_
          refine SO.op (Wanted.free rfl) rfl (A_load (v := .d (eU64 p0.N)) rfl rfl (ld_box ts33 ta33 rfl rfl)) ?_
          refine SO.op (Wanted.free rfl) rfl (A_conv (v := .d (eU8 (p0.N.toUInt8))) rfl rfl (cv_u64_u8 un33 un5 p0.N)) ?_
          obtain ⟨_, hq57, h1⟩ := ob h1
          refine SO.call (ι := [1, 2]) (σc := [.box (.agg [.slc 1 1 0 r42.length none]), .row 1 (List.map eU8 r42) true]) (args' := [.ref 0 0 0, .d (eU8 (p0.N.toUInt8))]) (r' := .tuple []) (σ2 := [.box (.agg [.slc 2 1 0 ((r42 ++ [(p0.N.toUInt8)]).length) none]), .dead, .row 1 (List.map eU8 (r42 ++ [(p0.N.toUInt8)])) true]) (os := [.box (.agg [.slc 3 1 0 ((r42 ++ [(p0.N.toUInt8)]).length) none]), .dead, .row 1 (List.map eU8 (r42 ++ [(p0.N.toUInt8)])) true]) (r := .tuple []) (σ' := [.box (.d (eApiValue p0)), .box (.agg [.slc 3 1 0 ((r42 ++ [(p0.N.toUInt8)]).length) none]), .dead, .row 1 (List.map eU8 (r42 ++ [(p0.N.toUInt8)])) true]) (Wanted.free rfl) rfl rfl rfl rfl rfl cb41 rfl rfl (pack_Out_U8_ok (p0.N.toUInt8) r42 _ hq57) rfl rfl (Nat.le_of_ble_eq_true rfl) rfl ?_
          refine SO.nil ?_
          have q := Option.some.inj h1; subst q
          exact (Wk.trans (Wk.env (e' := [(1, .d (eB p1)), (2, .ref 0 0 0), (5, .ref 1 0 0)]) (EW.cons (AW.refl _) (EW.cons (AW.refl _) (EW.cons (AW.refl _) EW.nil)))) (Wk.canon (ι := [0, 1, 3]) (roots := [0, 1]) (os := [.box (.d (eApiValue p0)), .box (.agg [.slc 2 1 0 ((r42 ++ [(p0.N.toUInt8)]).length) none]), .row 1 (List.map eU8 (r42 ++ [(p0.N.toUInt8)])) true]) (e' := [(1, .d (eB p1)), (2, .ref 0 0 0), (5, .ref 1 0 0)]) rfl rfl rfl))
        · replace h1 := cf hb56 h1
          refine SC.skip ?_
          have q := Option.some.inj h1; subst q
          exact (Wk.env (e' := [(1, .d (eB p1)), (2, .ref 0 0 0), (5, .ref 1 0 0)]) (EW.cons (AW.refl _) (EW.cons (AW.refl _) (EW.cons (AW.refl _) EW.nil))))
  · rintro y50 h0
    change SC _ _ _ ⟨mk 51 [(1, .d (eB p1)), (2, .ref 0 0 0), (5, .ref 1 0 0)], [.box (.d (eApiValue p0)), .box (.agg [.slc 2 1 0 y50.length none]), .row 1 (List.map eU8 y50) true]⟩ _
    refine SC.seq ?_
    refine SC.region ?_
    obtain ⟨_, hq58, h0⟩ := ob h0
    refine SO.call (ι := [1, 2]) (σc := [.box (.agg [.slc 1 1 0 y50.length none]), .row 1 (List.map eU8 y50) true]) (args' := [.ref 0 0 0]) (r' := .slc 2 1 0 y50.length none) (σ2 := [.box (.agg [.slc 1 1 0 y50.length none]), .row 1 (List.map eU8 y50) true, .row 1 (List.map eU8 y50) true]) (os := [.box (.agg [.slc 2 1 0 y50.length none]), .row 1 (List.map eU8 y50) true, .row 1 (List.map eU8 y50) true]) (r := .slc 3 1 0 y50.length none) (σ' := [.box (.d (eApiValue p0)), .box (.agg [.slc 2 1 0 y50.length none]), .row 1 (List.map eU8 y50) true, .row 1 (List.map eU8 y50) true]) (Wanted.free rfl) rfl rfl rfl rfl rfl cb42 rfl rfl (pack_Out_Bytes_ok y50 _ hq58) rfl rfl (Nat.le_of_ble_eq_true rfl) rfl ?_
    refine SO.op (Wanted.free rfl) rfl (A_assign (v := .slc 3 1 0 y50.length none) rfl rfl) ?_
    refine SO.nil ?_
    change SC _ _ _ _ _
    refine SC.seqP h0 (fun y => ⟨mk 51 [(1, .d (eB p1)), (6, .slc 0 1 0 y.length none)], [.row 1 (List.map eU8 y) true]⟩) ?_ ?_
    · intro u1_69 h1
      refine SC.seqP h1 (fun y => ⟨mk 51 [(1, .d (eB p1)), (2, .ref 0 0 0), (6, .slc 1 1 0 y50.length none), (38, .d (eB y))], [.box (.d (eApiValue p0)), .row 1 (List.map eU8 y50) true]⟩) ?_ ?_
      · intro u2_72 h2
        refine SC.region ?_
        refine SO.op (Wanted.free rfl) rfl (A_fieldAddr rfl rfl (fa_ref fo35_0 ts3 rfl)) ?_
        refine SO.op (Wanted.free rfl) rfl (A_load (v := .d (eI p0.Kind)) rfl rfl (ld_box ts3 ta3 rfl rfl)) ?_
        refine SO.op (Wanted.free rfl) rfl (A_bin (v := .d (eB (p0.Kind == (4 : Int)))) rfl rfl rfl (fun X Y => b_i64_eql _ X Y p0.Kind (4 : Int))) ?_
        refine SO.op (Wanted.free rfl) rfl (A_move (v := .d (eB (p0.Kind == (4 : Int)))) rfl rfl) ?_
        refine SO.split (fun hb73 => ?_) (fun hb73 => ?_)
        · replace h2 := ct hb73 h2
          refine SO.skip (Wanted.by rfl rfl rfl rfl) rfl ?_
          refine SO.skip (Wanted.by rfl rfl rfl rfl) rfl ?_
          refine SO.skip (Wanted.by rfl rfl rfl rfl) rfl ?_
          refine SO.op (Wanted.free rfl) rfl (A_pickT (v := .d (eB true)) rfl rfl rfl) ?_
          refine SO.nil ?_
          have q := Option.some.inj h2; subst q
          exact (Wk.trans (Wk.env (e' := [(1, .d (eB p1)), (2, .ref 0 0 0), (6, .slc 3 1 0 y50.length none), (38, .d (eB true))]) (EW.cons (AW.refl _) (EW.cons (AW.refl _) (EW.cons (AW.refl _) (EW.cons (AW.refl _) EW.nil))))) (Wk.canon (ι := [0, 3]) (roots := [0, 3]) (os := [.box (.d (eApiValue p0)), .row 1 (List.map eU8 y50) true]) (e' := [(1, .d (eB p1)), (2, .ref 0 0 0), (6, .slc 1 1 0 y50.length none), (38, .d (eB true))]) rfl rfl rfl))
        · replace h2 := cf hb73 h2
          refine SO.op (Wanted.by rfl rfl rfl rfl) rfl (A_fieldAddr rfl rfl (fa_ref fo35_0 ts3 rfl)) ?_
          refine SO.op (Wanted.by rfl rfl rfl rfl) rfl (A_load (v := .d (eI p0.Kind)) rfl rfl (ld_box ts3 ta3 rfl rfl)) ?_
          refine SO.op (Wanted.by rfl rfl rfl rfl) rfl (A_bin (v := .d (eB (p0.Kind == (5 : Int)))) rfl rfl rfl (fun X Y => b_i64_eql _ X Y p0.Kind (5 : Int))) ?_
          refine SO.op (Wanted.free rfl) rfl (A_pickF (v := .d (eB (p0.Kind == (5 : Int)))) rfl rfl rfl) ?_
          refine SO.nil ?_
          have q := Option.some.inj h2; subst q
          exact (Wk.trans (Wk.env (e' := [(1, .d (eB p1)), (2, .ref 0 0 0), (6, .slc 3 1 0 y50.length none), (38, .d (eB (p0.Kind == (5 : Int))))]) (EW.cons (AW.refl _) (EW.cons (AW.refl _) (EW.cons (AW.refl _) (EW.cons (AW.refl _) EW.nil))))) (Wk.canon (ι := [0, 3]) (roots := [0, 3]) (os := [.box (.d (eApiValue p0)), .row 1 (List.map eU8 y50) true]) (e' := [(1, .d (eB p1)), (2, .ref 0 0 0), (6, .slc 1 1 0 y50.length none), (38, .d (eB (p0.Kind == (5 : Int))))]) rfl rfl rfl))
      · rintro y71 h1
        change SC _ _ _ ⟨mk 51 [(1, .d (eB p1)), (2, .ref 0 0 0), (6, .slc 1 1 0 y50.length none), (38, .d (eB y71))], [.box (.d (eApiValue p0)), .row 1 (List.map eU8 y50) true]⟩ _
        refine SC.condB (t := y71) rfl (fun hb74 => ?_) (fun hb74 => ?_)
        · replace h1 := ct hb74 h1
          refine SC.seq ?_
          refine SC.region ?_
          refine SO.op (Wanted.free rfl) rfl (A_move (v := .slc 1 1 0 y50.length none) rfl rfl) ?_
          refine SO.op (Wanted.free rfl) rfl (A_fieldAddr rfl rfl (fa_ref fo35_2 ts9 rfl)) ?_
          refine SO.op (Wanted.free rfl) rfl (A_load (v := .d (eS p0.S)) rfl rfl (ld_box ts9 ta9 rfl rfl)) ?_
          obtain ⟨r75, hq76, h1⟩ := ob h1
          refine SO.call0 (r := .d (eS r75)) (Wanted.free rfl) rfl rfl rfl rfl rfl cb43 rfl (fun _ => rfl) (fun _ => rfl) (repl_ok p0.S ([0] : List UInt8) ([0, 255] : List UInt8) _ hq76) ?_
          obtain ⟨hg77, h1⟩ := gd h1
          refine SO.op (Wanted.free rfl) rfl (A_append (v := .slc 2 1 0 ((y50 ++ r75).length) none) (σ' := [.box (.d (eApiValue p0)), .dead, .row 1 (List.map eU8 (y50 ++ r75)) true]) rfl rfl rfl rfl rfl bc9 (ApFull (f := eU8) (xs := y50) (ys := r75) rfl un51 ei5 rfl el_str hg77 rfl rfl)) ?_
          refine SO.op (Wanted.free rfl) rfl (A_assign (v := .slc 2 1 0 ((y50 ++ r75).length) none) rfl rfl) ?_
          refine SO.nil ?_
          change SC _ _ _ _ _
          refine SC.region ?_
          refine SO.op (Wanted.free rfl) rfl (A_move (v := .slc 2 1 0 ((y50 ++ r75).length) none) rfl rfl) ?_
          refine SO.opW (v' := .slc 3 1 0 ([(0 : UInt8), (0 : UInt8)].length) none) (Wanted.free rfl) rfl (A_buildSlice (v := .slc 3 1 0 2 (some 2)) (σ' := [.box (.d (eApiValue p0)), .dead, .row 1 (List.map eU8 (y50 ++ r75)) true, .row 1 (List.map eU8 [(0 : UInt8), (0 : UInt8)]) true]) rfl rfl (bsl un51 ei5 (by decide) rfl (by rfl) rfl rfl)) (AW.slcc rfl rfl) ?_
          obtain ⟨hg78, h1⟩ := gd h1
          refine SO.op (Wanted.free rfl) rfl (A_append (v := .slc 4 1 0 (((y50 ++ r75) ++ [(0 : UInt8), (0 : UInt8)]).length) none) (σ' := [.box (.d (eApiValue p0)), .dead, .dead, .row 1 (List.map eU8 [(0 : UInt8), (0 : UInt8)]) true, .row 1 (List.map eU8 ((y50 ++ r75) ++ [(0 : UInt8), (0 : UInt8)])) true]) rfl rfl rfl rfl rfl bc51 (ApFull (f := eU8) (xs := (y50 ++ r75)) (ys := [(0 : UInt8), (0 : UInt8)]) rfl un51 ei5 rfl (el_full (xs := [(0 : UInt8), (0 : UInt8)]) rfl) hg78 rfl rfl)) ?_
          refine SO.op (Wanted.free rfl) rfl (A_assign (v := .slc 4 1 0 (((y50 ++ r75) ++ [(0 : UInt8), (0 : UInt8)]).length) none) rfl rfl) ?_
          refine SO.nil ?_
          have q := Option.some.inj h1; subst q
          exact (Wk.trans (Wk.env (e' := [(1, .d (eB p1)), (6, .slc 4 1 0 (((y50 ++ r75) ++ [(0 : UInt8), (0 : UInt8)]).length) none)]) (EW.cons (AW.refl _) (EW.cons (AW.refl _) EW.nil))) (Wk.canon (ι := [4]) (roots := [4]) (os := [.row 1 (List.map eU8 ((y50 ++ r75) ++ [(0 : UInt8), (0 : UInt8)])) true]) (e' := [(1, .d (eB p1)), (6, .slc 0 1 0 (((y50 ++ r75) ++ [(0 : UInt8), (0 : UInt8)]).length) none)]) rfl rfl rfl))
        · replace h1 := cf hb74 h1
          refine SC.skip ?_
          have q := Option.some.inj h1; subst q
          exact (Wk.trans (Wk.env (e' := [(1, .d (eB p1)), (6, .slc 1 1 0 y50.length none)]) (EW.cons (AW.refl _) (EW.cons (AW.refl _) EW.nil))) (Wk.canon (ι := [1]) (roots := [1]) (os := [.row 1 (List.map eU8 y50) true]) (e' := [(1, .d (eB p1)), (6, .slc 0 1 0 y50.length none)]) rfl rfl rfl))
    · rintro y68 h0
      change SC _ _ _ ⟨mk 51 [(1, .d (eB p1)), (6, .slc 0 1 0 y68.length none)], [.row 1 (List.map eU8 y68) true]⟩ _
      refine SC.seq ?_
      refine SC.seq ?_
      refine SC.region ?_
      refine SO.op (Wanted.free rfl) rfl (A_move (v := .d (eB p1)) rfl rfl) ?_
      refine SO.nil ?_
      change SC _ _ _ _ _
      refine SC.condB (t := p1) rfl (fun hb79 => ?_) (fun hb79 => ?_)
      · replace h0 := ct hb79 h0
        refine SC.seq ?_
        refine SC.region ?_
        refine SO.op (Wanted.free rfl) rfl (A_move (v := .slc 0 1 0 y68.length none) rfl rfl) ?_
        obtain ⟨r80, hq81, h0⟩ := ob h0
        refine SO.call (ι := [0]) (σc := [.row 1 (List.map eU8 y68) true]) (args' := [.slc 0 1 0 y68.length none]) (r' := .slc 0 1 0 r80.length none) (σ2 := [.row 1 (List.map eU8 r80) true]) (os := [.row 1 (List.map eU8 r80) true]) (r := .slc 0 1 0 r80.length none) (σ' := [.row 1 (List.map eU8 r80) true]) (Wanted.free rfl) rfl rfl rfl rfl rfl cb33 rfl rfl (key_turned_ok y68 _ hq81) rfl rfl (Nat.le_of_ble_eq_true rfl) rfl ?_
        refine SO.op (Wanted.free rfl) rfl (A_assign (v := .slc 0 1 0 r80.length none) rfl rfl) ?_
        refine SO.nil ?_
        change SC _ _ _ _ _
        refine SC.ret ?_
        have q := Option.some.inj h0; subst q
        exact finR (Wk.trans (Wk.frz (i := 4) (x := .slc 0 1 0 r80.length none) (y := ((eL 1 eU8) r80)) (σ1 := [.row 1 (List.map eU8 r80) false]) rfl rfl (frz_full rfl rfl)) (Wk.trans (Wk.env (e' := [(4, .d ((eL 1 eU8) r80))]) (EW.cons (AW.refl _) EW.nil)) (Wk.canon (ι := []) (roots := []) (os := []) (e' := [(4, .d ((eL 1 eU8) r80))]) rfl rfl rfl))) (lresT rfl lresN) rfl
      · replace h0 := cf hb79 h0
        refine SC.skip ?_
        change SC _ _ _ _ _
        refine SC.seq ?_
        refine SC.region ?_
        refine SO.op (Wanted.free rfl) rfl (A_move (v := .slc 0 1 0 y68.length none) rfl rfl) ?_
        refine SO.op (Wanted.free rfl) rfl (A_assign (v := .slc 0 1 0 y68.length none) rfl rfl) ?_
        refine SO.nil ?_
        change SC _ _ _ _ _
        refine SC.ret ?_
        have q := Option.some.inj h0; subst q
        exact finR (Wk.trans (Wk.frz (i := 4) (x := .slc 0 1 0 y68.length none) (y := ((eL 1 eU8) y68)) (σ1 := [.row 1 (List.map eU8 y68) false]) rfl rfl (frz_full rfl rfl)) (Wk.trans (Wk.env (e' := [(4, .d ((eL 1 eU8) y68))]) (EW.cons (AW.refl _) EW.nil)) (Wk.canon (ι := []) (roots := []) (os := []) (e' := [(4, .d ((eL 1 eU8) y68))]) rfl rfl rfl))) (lresT rfl lresN) rfl

/-- granary/key.Encode -/
noncomputable def key_Encode (p0 : List ApiValue) (p1 : List Bool) : Option ((List UInt8) × Int) :=
  bif ((p0.length : Int) != (p1.length : Int)) then
    some (([] : List UInt8), (1 : Int))
  else
    Option.bind (slices_ContainsFunc_api_Value_api_Value p0) fun r61 =>
    bif r61 then
      some (([] : List UInt8), (8 : Int))
    else
      Option.bind (α := (List UInt8))
        (Option.bind (α := (List UInt8))
          (loop (Y := (List UInt8) × Int) (W := (List UInt8)) (fun (y97, y98) =>
            bif (decide (y98 < (p0.length : Int))) then
              Option.bind (getI p0 y98) fun v110 =>
              Option.bind (getI p1 y98) fun v111 =>
              Option.bind (key_one v110 v111) fun r112 =>
              bif decide ((y97.length + r112.length) * 1 ≤ room) then
              some (Sum.inl ((y97 ++ r112), (w64 (y98 + (1 : Int)))))
              else none
            else
              some (Sum.inr y97)) (([] : List UInt8), (0 : Int)))
          (fun e => some e))
        fun y89 =>
      bif (decide ((y89.length : Int) > (256 : Int))) then
        some (([] : List UInt8), (7 : Int))
      else
        some (y89, (0 : Int))
theorem key_Encode_ok (p0 : List ApiValue) (p1 : List Bool) (r : (List UInt8) × Int) (h0 : key_Encode p0 p1 = some r) : CallAt Tryd.prog 10 [.d ((eL 3 eApiValue) p0), .d ((eL 1 eB) p1)] [] (.tuple [.d (eS r.1), .d (eI r.2)]) [] := by
  unfold key_Encode at h0
  refine CallAt.of Tryd.func10 rfl ?_
  refine SC.post (Q' := fun e s => ∃ s1, Wk _ s s1 ∧ Fin _ _ _ _ e s1) ?_ (fun _ _ h => h)
  refine SC.wk (s1 := ⟨mk 37 [(0, .d ((eL 3 eApiValue) p0)), (1, .d ((eL 1 eB) p1))], []⟩) (Wk.begin (n := 37) (Nat.le_of_ble_eq_true rfl)) ?_
  refine SC.seq ?_
  refine SC.region ?_
  refine SO.op (Wanted.free rfl) rfl (A_assign (v := .d (eS ([] : List UInt8))) rfl rfl) ?_
  refine SO.op (Wanted.free rfl) rfl (A_assign (v := .d (eI (0 : Int))) rfl rfl) ?_
  refine SO.nil ?_
  change SC _ _ _ _ _
  refine SC.seq ?_
  refine SC.seq ?_
  refine SC.region ?_
  refine SO.op (Wanted.free rfl) rfl (A_move (v := .d ((eL 3 eApiValue) p0)) rfl rfl) ?_
  refine SO.op (Wanted.free rfl) rfl (A_len (v := .d (eI (p0.length : Int))) rfl rfl rfl rfl (len_lst un22)) ?_
  refine SO.op (Wanted.free rfl) rfl (A_move (v := .d ((eL 1 eB) p1)) rfl rfl) ?_
  refine SO.op (Wanted.free rfl) rfl (A_len (v := .d (eI (p1.length : Int))) rfl rfl rfl rfl (len_lst un23)) ?_
  refine SO.op (Wanted.free rfl) rfl (A_bin (v := .d (eB ((p0.length : Int) != (p1.length : Int)))) rfl rfl rfl (fun X Y => b_i64_neq _ X Y (p0.length : Int) (p1.length : Int))) ?_
  refine SO.nil ?_
  change SC _ _ _ _ _
  refine SC.condB (t := ((p0.length : Int) != (p1.length : Int))) rfl (fun hb60 => ?_) (fun hb60 => ?_)
  · replace h0 := ct hb60 h0
    refine SC.seq ?_
    refine SC.region ?_
    refine SO.op (Wanted.free rfl) rfl (A_assign (v := .d (eS ([] : List UInt8))) rfl rfl) ?_
    refine SO.op (Wanted.free rfl) rfl (A_assign (v := .d (eI (1 : Int))) rfl rfl) ?_
    refine SO.nil ?_
    change SC _ _ _ _ _
    refine SC.ret ?_
    have q := Option.some.inj h0; subst q
    exact finR (Wk.env (e' := [(4, .d (eS ([] : List UInt8))), (5, .d (eI (1 : Int)))]) (EW.cons (AW.refl _) (EW.cons (AW.refl _) EW.nil))) (lresT rfl (lresT rfl lresN)) rfl
  · replace h0 := cf hb60 h0
    refine SC.skip ?_
    change SC _ _ _ _ _
    refine SC.seq ?_
    refine SC.seq ?_
    refine SC.region ?_
    refine SO.op (Wanted.free rfl) rfl (A_move (v := .d ((eL 3 eApiValue) p0)) rfl rfl) ?_
    obtain ⟨r61, hq62, h0⟩ := ob h0
    refine SO.call0 (r := .d (eB r61)) (Wanted.free rfl) rfl rfl rfl rfl rfl cb25 rfl (fun _ => rfl) (fun _ => rfl) (slices_ContainsFunc_api_Value_api_Value_ok p0 _ hq62) ?_
    refine SO.nil ?_
    change SC _ _ _ _ _
    refine SC.condB (t := r61) rfl (fun hb63 => ?_) (fun hb63 => ?_)
    · replace h0 := ct hb63 h0
      refine SC.seq ?_
      refine SC.region ?_
      refine SO.op (Wanted.free rfl) rfl (A_assign (v := .d (eS ([] : List UInt8))) rfl rfl) ?_
      refine SO.op (Wanted.free rfl) rfl (A_assign (v := .d (eI (8 : Int))) rfl rfl) ?_
      refine SO.nil ?_
      change SC _ _ _ _ _
      refine SC.ret ?_
      have q := Option.some.inj h0; subst q
      exact finR (Wk.env (e' := [(4, .d (eS ([] : List UInt8))), (5, .d (eI (8 : Int)))]) (EW.cons (AW.refl _) (EW.cons (AW.refl _) EW.nil))) (lresT rfl (lresT rfl lresN)) rfl
    · replace h0 := cf hb63 h0
      refine SC.skip ?_
      change SC _ _ _ _ _
      refine SC.seq ?_
      refine SC.region ?_
      refine SO.op (Wanted.free rfl) rfl (A_assign (v := .d .nils) rfl rfl) ?_
      refine SO.nil ?_
      change SC _ _ _ _ _
      refine SC.seqP h0 (fun y => ⟨mk 37 [(6, .slc 0 1 0 y.length none)], [.row 1 (List.map eU8 y) true]⟩) ?_ ?_
      · intro u1_90 h1
        refine SC.seq ?_
        refine SC.region ?_
        refine SO.op (Wanted.free rfl) rfl (A_move (v := .d ((eL 3 eApiValue) p0)) rfl rfl) ?_
        refine SO.op (Wanted.free rfl) rfl (A_len (v := .d (eI (p0.length : Int))) rfl rfl rfl rfl (len_lst un22)) ?_
        refine SO.op (Wanted.free rfl) rfl (A_move (v := .d (eI (0 : Int))) rfl rfl) ?_
        refine SO.nil ?_
        change SC _ _ _ _ _
        refine SC.blk ?_
        obtain ⟨u2_108, h2, h1⟩ := ob h1
        refine SC.loopB h2 (fun y => ⟨mk 37 [(1, .d ((eL 1 eB) p1)), (6, .slc 0 1 0 y.1.length none), (16, .d ((eL 3 eApiValue) p0)), (17, .d (eI (p0.length : Int))), (18, .d (eI y.2))], [.row 1 (List.map eU8 y.1) true]⟩) (Wk.trans (Wk.pushE (σ' := [.row 1 (List.map eU8 ([] : List UInt8)) true]) (.row 1 [] true) (fun _ hh => by cases hh) rfl) (Wk.trans (Wk.env (e' := [(1, .d ((eL 1 eB) p1)), (6, .slc 0 1 0 (([] : List UInt8).length) none), (16, .d ((eL 3 eApiValue) p0)), (17, .d (eI (p0.length : Int))), (18, .d (eI (0 : Int)))]) (EW.cons (AW.refl _) (EW.cons (AW.slcn _ _ _) (EW.cons (AW.refl _) (EW.cons (AW.refl _) (EW.cons (AW.refl _) EW.nil)))))) (Wk.env (e' := [(1, .d ((eL 1 eB) p1)), (6, .slc 0 1 0 (([] : List UInt8).length) none), (16, .d ((eL 3 eApiValue) p0)), (17, .d (eI (p0.length : Int))), (18, .d (eI (0 : Int)))]) (EW.cons (AW.refl _) (EW.cons (AW.refl _) (EW.cons (AW.refl _) (EW.cons (AW.refl _) (EW.cons (AW.refl _) EW.nil)))))))) ?_
        intro n115
        rintro ⟨y97, y98⟩ w2_107 h3 hv3
        change SC _ _ _ ⟨mk 37 [(1, .d ((eL 1 eB) p1)), (6, .slc 0 1 0 y97.length none), (16, .d ((eL 3 eApiValue) p0)), (17, .d (eI (p0.length : Int))), (18, .d (eI y98))], [.row 1 (List.map eU8 y97) true]⟩ _
        refine SC.seq ?_
        refine SC.region ?_
        refine SO.op (Wanted.free rfl) rfl (A_bin (v := .d (eB (decide (y98 < (p0.length : Int))))) rfl rfl rfl (fun X Y => b_i64_lss _ X Y y98 (p0.length : Int))) ?_
        refine SO.nil ?_
        change SC _ _ _ _ _
        refine SC.seq ?_
        refine SC.condB (t := (decide (y98 < (p0.length : Int)))) rfl (fun hb109 => ?_) (fun hb109 => ?_)
        · replace h3 := ct hb109 h3
          refine SC.skip ?_
          change SC _ _ _ _ _
          refine SC.seq ?_
          refine SC.blk ?_
          refine SC.seq ?_
          refine SC.region ?_
          refine SO.op (Wanted.free rfl) rfl (A_move (v := .d (eI y98)) rfl rfl) ?_
          obtain ⟨v110, hv110, h3⟩ := ob h3
          refine SO.op (Wanted.free rfl) rfl (A_indexAddr (v := .rop [(eI v110.Kind), (eU64 v110.N), (eS v110.S)]) rfl rfl rfl (ia_lst un22 ts35 (getI_some hv110).1 (map_get (getI_some hv110).2))) ?_
          refine SO.op (Wanted.free rfl) rfl (A_load (v := .d (eApiValue v110)) rfl rfl (ld_rop ts35 ta35 rfl)) ?_
          refine SO.op (Wanted.free rfl) rfl (A_alloc (σ' := [.row 1 (List.map eU8 y97) true, .box (.d (eApiValue (ApiValue.mk (0 : Int) (0 : UInt64) ([] : List UInt8))))]) rfl zo35 rfl rfl) ?_
          refine SO.op (Wanted.free rfl) rfl (A_assign (v := .d (eI y98)) rfl rfl) ?_
          refine SO.op0 (Wanted.free rfl) rfl (A_store (σ' := [.row 1 (List.map eU8 y97) true, .box (.d (eApiValue v110))]) rfl rfl rfl (st_box (zs := [.d (eI v110.Kind), .d (eU64 v110.N), .d (eS v110.S)]) ts35 rfl rfl rfl rfl rfl (Nat.le_of_ble_eq_true rfl) rfl)) ?_
          refine SO.nil ?_
          change SC _ _ _ _ _
          refine SC.draws (by kernel_rfl) ?_
          refine ST.op (mk' := ([], false)) (Wanted.free rfl) rfl (A_move (v := .slc 0 1 0 y97.length none) rfl rfl) rfl ?_
          refine ST.op (mk' := ([1], false)) (Wanted.free rfl) rfl (A_load (v := .d (eApiValue v110)) rfl rfl (ld_box ts35 ta35 rfl rfl)) rfl ?_
          refine ST.op (mk' := ([], false)) (Wanted.free rfl) rfl (A_move (v := .d ((eL 1 eB) p1)) rfl rfl) rfl ?_
          refine ST.op (mk' := ([], false)) (Wanted.free rfl) rfl (A_move (v := .d (eI y98)) rfl rfl) rfl ?_
          obtain ⟨v111, hv111, h3⟩ := ob h3
          refine ST.op (mk' := ([], false)) (Wanted.free rfl) rfl (A_indexAddr (v := .rop [(eB v111)]) rfl rfl rfl (ia_lst un23 ts4 (getI_some hv111).1 (map_get (getI_some hv111).2))) rfl ?_
          refine ST.op (mk' := ([], false)) (Wanted.free rfl) rfl (A_load (v := .d (eB v111)) rfl rfl (ld_rop ts4 ta4 rfl)) rfl ?_
          obtain ⟨r112, hq113, h3⟩ := ob h3
          refine ST.call0 (r := .d ((eL 1 eU8) r112)) (Wanted.free rfl) rfl rfl rfl rfl rfl cb28 rfl (fun _ => rfl) (fun _ => rfl) (key_one_ok v110 v111 _ hq113) ?_
          obtain ⟨hg114, h3⟩ := gd h3
          refine ST.op (mk' := ([0, 2], true)) (Wanted.free rfl) rfl (A_append (v := .slc 2 1 0 ((y97 ++ r112).length) none) (σ' := [.dead, .box (.d (eApiValue v110)), .row 1 (List.map eU8 (y97 ++ r112)) true]) rfl rfl rfl rfl rfl bc51 (ApFull (f := eU8) (xs := y97) (ys := r112) rfl un51 ei5 rfl el_lst hg114 rfl rfl)) rfl ?_
          refine ST.op (mk' := ([], false)) (Wanted.free rfl) rfl (A_assign (v := .slc 2 1 0 ((y97 ++ r112).length) none) rfl rfl) rfl ?_
          refine ST.nil (And.intro (by decide +kernel) ?_)
          change SC _ _ _ _ _
          refine SC.region ?_
          refine SO.op (Wanted.free rfl) rfl (A_bin (v := .d (eI (w64 (y98 + (1 : Int))))) rfl rfl rfl (fun X Y => b_i64_add _ X Y y98 (1 : Int))) ?_
          refine SO.op (Wanted.free rfl) rfl (A_move (v := .d (eI (w64 (y98 + (1 : Int))))) rfl rfl) ?_
          refine SO.nil ?_
          have q := Option.some.inj h3; subst q
          exact lf (Wk.trans (Wk.env (e' := [(1, .d ((eL 1 eB) p1)), (6, .slc 2 1 0 ((y97 ++ r112).length) none), (16, .d ((eL 3 eApiValue) p0)), (17, .d (eI (p0.length : Int))), (18, .d (eI (w64 (y98 + (1 : Int)))))]) (EW.cons (AW.refl _) (EW.cons (AW.refl _) (EW.cons (AW.refl _) (EW.cons (AW.refl _) (EW.cons (AW.refl _) EW.nil)))))) (Wk.canon (ι := [2]) (roots := [2]) (os := [.row 1 (List.map eU8 (y97 ++ r112)) true]) (e' := [(1, .d ((eL 1 eB) p1)), (6, .slc 0 1 0 ((y97 ++ r112).length) none), (16, .d ((eL 3 eApiValue) p0)), (17, .d (eI (p0.length : Int))), (18, .d (eI (w64 (y98 + (1 : Int)))))]) rfl rfl rfl))
        · replace h3 := cf hb109 h3
          refine SC.exit ?_
          have q := Option.some.inj h3; subst q
          have q : _ = _ := hv3; subst q
          have q := Option.some.inj h1; subst q
          exact (Wk.env (e' := [(6, .slc 0 1 0 y97.length none)]) (EW.cons (AW.refl _) EW.nil))
      · rintro y89 h0
        change SC _ _ _ ⟨mk 37 [(6, .slc 0 1 0 y89.length none)], [.row 1 (List.map eU8 y89) true]⟩ _
        refine SC.seq ?_
        refine SC.seq ?_
        refine SC.region ?_
        refine SO.op (Wanted.free rfl) rfl (A_move (v := .slc 0 1 0 y89.length none) rfl rfl) ?_
        refine SO.op (Wanted.free rfl) rfl (A_len (v := .d (eI (y89.length : Int))) rfl rfl rfl rfl (len_slc un51)) ?_
        refine SO.op (Wanted.free rfl) rfl (A_bin (v := .d (eB (decide ((y89.length : Int) > (256 : Int))))) rfl rfl rfl (fun X Y => b_i64_gtr _ X Y (y89.length : Int) (256 : Int))) ?_
        refine SO.nil ?_
        change SC _ _ _ _ _
        refine SC.condB (t := (decide ((y89.length : Int) > (256 : Int)))) rfl (fun hb116 => ?_) (fun hb116 => ?_)
        · replace h0 := ct hb116 h0
          refine SC.seq ?_
          refine SC.region ?_
          refine SO.op (Wanted.free rfl) rfl (A_assign (v := .d (eS ([] : List UInt8))) rfl rfl) ?_
          refine SO.op (Wanted.free rfl) rfl (A_assign (v := .d (eI (7 : Int))) rfl rfl) ?_
          refine SO.nil ?_
          change SC _ _ _ _ _
          refine SC.ret ?_
          have q := Option.some.inj h0; subst q
          exact finR (Wk.trans (Wk.env (e' := [(4, .d (eS ([] : List UInt8))), (5, .d (eI (7 : Int)))]) (EW.cons (AW.refl _) (EW.cons (AW.refl _) EW.nil))) (Wk.canon (ι := []) (roots := []) (os := []) (e' := [(4, .d (eS ([] : List UInt8))), (5, .d (eI (7 : Int)))]) rfl rfl rfl)) (lresT rfl (lresT rfl lresN)) rfl
        · replace h0 := cf hb116 h0
          refine SC.skip ?_
          change SC _ _ _ _ _
          refine SC.seq ?_
          refine SC.region ?_
          refine SO.op (Wanted.free rfl) rfl (A_move (v := .slc 0 1 0 y89.length none) rfl rfl) ?_
          refine SO.op (Wanted.free rfl) rfl (A_conv (v := .d (eS y89)) rfl rfl (cv_bytes_str un51 un9 un5 (el_full (xs := y89) rfl) (fun _ hh => by cases hh))) ?_
          refine SO.op (Wanted.free rfl) rfl (A_assign (v := .d (eS y89)) rfl rfl) ?_
          refine SO.op (Wanted.free rfl) rfl (A_assign (v := .d (eI (0 : Int))) rfl rfl) ?_
          refine SO.nil ?_
          change SC _ _ _ _ _
          refine SC.ret ?_
          have q := Option.some.inj h0; subst q
          exact finR (Wk.trans (Wk.env (e' := [(4, .d (eS y89)), (5, .d (eI (0 : Int)))]) (EW.cons (AW.refl _) (EW.cons (AW.refl _) EW.nil))) (Wk.canon (ι := []) (roots := []) (os := []) (e' := [(4, .d (eS y89)), (5, .d (eI (0 : Int)))]) rfl rfl rfl)) (lresT rfl (lresT rfl lresN)) rfl

/-- cmp.isNaN[int] -/
noncomputable def cmp_isNaN_int (p0 : Int) : Option Unit :=
  some ()
theorem cmp_isNaN_int_ok (p0 : Int) (r : Unit) (h0 : cmp_isNaN_int p0 = some r) : CallAt Tryd.prog 67 [.d (eI p0)] [] (.d (eB (p0 != p0))) [] := by
  unfold cmp_isNaN_int at h0
  refine CallAt.of Tryd.func67 rfl ?_
  refine SC.post (Q' := fun e s => ∃ s1, Wk _ s s1 ∧ Fin _ _ _ _ e s1) ?_ (fun _ _ h => h)
  refine SC.wk (s1 := ⟨mk 6 [(0, .d (eI p0))], []⟩) (Wk.begin (n := 6) (Nat.le_of_ble_eq_true rfl)) ?_
  refine SC.seq ?_
  refine SC.region ?_
  refine SO.op (Wanted.free rfl) rfl (A_assign (v := .d (eB false)) rfl rfl) ?_
  refine SO.nil ?_
  change SC _ _ _ _ _
  refine SC.seq ?_
  refine SC.region ?_
  refine SO.op (Wanted.free rfl) rfl (A_move (v := .d (eI p0)) rfl rfl) ?_
  refine SO.op (Wanted.free rfl) rfl (A_move (v := .d (eI p0)) rfl rfl) ?_
  refine SO.op (Wanted.free rfl) rfl (A_bin (v := .d (eB (p0 != p0))) rfl rfl rfl (fun X Y => b_i64_neq _ X Y p0 p0)) ?_
  refine SO.op (Wanted.free rfl) rfl (A_assign (v := .d (eB (p0 != p0))) rfl rfl) ?_
  refine SO.nil ?_
  change SC _ _ _ _ _
  refine SC.ret ?_
  have q := Option.some.inj h0; subst q
  exact finR (Wk.env (e' := [(2, .d (eB (p0 != p0)))]) (EW.cons (AW.refl _) EW.nil)) (lresT rfl lresN) rfl

/-- cmp.Compare[int] -/
noncomputable def cmp_Compare_int (p0 : Int) (p1 : Int) : Option Int :=
  Option.bind (cmp_isNaN_int p0) fun _ =>
  Option.bind (cmp_isNaN_int p1) fun _ =>
  bif (p0 != p0) then
    bif (p1 != p1) then
      some (0 : Int)
    else
      some (-1 : Int)
  else
    bif (p1 != p1) then
      some (1 : Int)
    else
      bif (decide (p0 < p1)) then
        some (-1 : Int)
      else
        bif (decide (p0 > p1)) then
          some (1 : Int)
        else
          some (0 : Int)
theorem cmp_Compare_int_ok (p0 : Int) (p1 : Int) (r : Int) (h0 : cmp_Compare_int p0 p1 = some r) : CallAt Tryd.prog 55 [.d (eI p0), .d (eI p1)] [] (.d (eI r)) [] := by
  unfold cmp_Compare_int at h0
  refine CallAt.of Tryd.func55 rfl ?_
  refine SC.post (Q' := fun e s => ∃ s1, Wk _ s s1 ∧ Fin _ _ _ _ e s1) ?_ (fun _ _ h => h)
  refine SC.wk (s1 := ⟨mk 20 [(0, .d (eI p0)), (1, .d (eI p1))], []⟩) (Wk.begin (n := 20) (Nat.le_of_ble_eq_true rfl)) ?_
  refine SC.seq ?_
  refine SC.region ?_
  refine SO.op (Wanted.free rfl) rfl (A_assign (v := .d (eI (0 : Int))) rfl rfl) ?_
  refine SO.nil ?_
  change SC _ _ _ _ _
  refine SC.seq ?_
  refine SC.region ?_
  refine SO.op (Wanted.free rfl) rfl (A_move (v := .d (eI p0)) rfl rfl) ?_
  obtain ⟨_, hq9, h0⟩ := ob h0
  refine SO.call0 (r := .d (eB (p0 != p0))) (Wanted.free rfl) rfl rfl rfl rfl rfl cb67 rfl (fun _ => rfl) (fun _ => rfl) (cmp_isNaN_int_ok p0 _ hq9) ?_
  refine SO.op (Wanted.free rfl) rfl (A_assign (v := .d (eB (p0 != p0))) rfl rfl) ?_
  refine SO.nil ?_
  change SC _ _ _ _ _
  refine SC.seq ?_
  refine SC.region ?_
  refine SO.op (Wanted.free rfl) rfl (A_move (v := .d (eI p1)) rfl rfl) ?_
  obtain ⟨_, hq10, h0⟩ := ob h0
  refine SO.call0 (r := .d (eB (p1 != p1))) (Wanted.free rfl) rfl rfl rfl rfl rfl cb67 rfl (fun _ => rfl) (fun _ => rfl) (cmp_isNaN_int_ok p1 _ hq10) ?_
  refine SO.op (Wanted.free rfl) rfl (A_assign (v := .d (eB (p1 != p1))) rfl rfl) ?_
  refine SO.nil ?_
  change SC _ _ _ _ _
  refine SC.seq ?_
  refine SC.seq ?_
  refine SC.region ?_
  refine SO.op (Wanted.free rfl) rfl (A_move (v := .d (eB (p0 != p0))) rfl rfl) ?_
  refine SO.nil ?_
  change SC _ _ _ _ _
  refine SC.condB (t := (p0 != p0)) rfl (fun hb11 => ?_) (fun hb11 => ?_)
  · replace h0 := ct hb11 h0
    refine SC.seq ?_
    refine SC.seq ?_
    refine SC.region ?_
    refine SO.op (Wanted.free rfl) rfl (A_move (v := .d (eB (p1 != p1))) rfl rfl) ?_
    refine SO.nil ?_
    change SC _ _ _ _ _
    refine SC.condB (t := (p1 != p1)) rfl (fun hb12 => ?_) (fun hb12 => ?_)
    · replace h0 := ct hb12 h0
      refine SC.seq ?_
      refine SC.region ?_
      refine SO.op (Wanted.free rfl) rfl (A_assign (v := .d (eI (0 : Int))) rfl rfl) ?_
      refine SO.nil ?_
      change SC _ _ _ _ _
      refine SC.ret ?_
      have q := Option.some.inj h0; subst q
      exact finR (Wk.env (e' := [(4, .d (eI (0 : Int)))]) (EW.cons (AW.refl _) EW.nil)) (lresT rfl lresN) rfl
    · replace h0 := cf hb12 h0
      refine SC.skip ?_
      change SC _ _ _ _ _
      refine SC.seq ?_
      refine SC.region ?_
      refine SO.op (Wanted.free rfl) rfl (A_assign (v := .d (eI (-1 : Int))) rfl rfl) ?_
      refine SO.nil ?_
      change SC _ _ _ _ _
      refine SC.ret ?_
      have q := Option.some.inj h0; subst q
      exact finR (Wk.env (e' := [(4, .d (eI (-1 : Int)))]) (EW.cons (AW.refl _) EW.nil)) (lresT rfl lresN) rfl
  · replace h0 := cf hb11 h0
    refine SC.skip ?_
    change SC _ _ _ _ _
    refine SC.seq ?_
    refine SC.seq ?_
    refine SC.region ?_
    refine SO.op (Wanted.free rfl) rfl (A_move (v := .d (eB (p1 != p1))) rfl rfl) ?_
    refine SO.nil ?_
    change SC _ _ _ _ _
    refine SC.condB (t := (p1 != p1)) rfl (fun hb13 => ?_) (fun hb13 => ?_)
    · replace h0 := ct hb13 h0
      refine SC.seq ?_
      refine SC.region ?_
      refine SO.op (Wanted.free rfl) rfl (A_assign (v := .d (eI (1 : Int))) rfl rfl) ?_
      refine SO.nil ?_
      change SC _ _ _ _ _
      refine SC.ret ?_
      have q := Option.some.inj h0; subst q
      exact finR (Wk.env (e' := [(4, .d (eI (1 : Int)))]) (EW.cons (AW.refl _) EW.nil)) (lresT rfl lresN) rfl
    · replace h0 := cf hb13 h0
      refine SC.skip ?_
      change SC _ _ _ _ _
      refine SC.seq ?_
      refine SC.seq ?_
      refine SC.region ?_
      refine SO.op (Wanted.free rfl) rfl (A_move (v := .d (eI p0)) rfl rfl) ?_
      refine SO.op (Wanted.free rfl) rfl (A_move (v := .d (eI p1)) rfl rfl) ?_
      refine SO.op (Wanted.free rfl) rfl (A_bin (v := .d (eB (decide (p0 < p1)))) rfl rfl rfl (fun X Y => b_i64_lss _ X Y p0 p1)) ?_
      refine SO.nil ?_
      change SC _ _ _ _ _
      refine SC.condB (t := (decide (p0 < p1))) rfl (fun hb14 => ?_) (fun hb14 => ?_)
      · replace h0 := ct hb14 h0
        refine SC.seq ?_
        refine SC.region ?_
        refine SO.op (Wanted.free rfl) rfl (A_assign (v := .d (eI (-1 : Int))) rfl rfl) ?_
        refine SO.nil ?_
        change SC _ _ _ _ _
        refine SC.ret ?_
        have q := Option.some.inj h0; subst q
        exact finR (Wk.env (e' := [(4, .d (eI (-1 : Int)))]) (EW.cons (AW.refl _) EW.nil)) (lresT rfl lresN) rfl
      · replace h0 := cf hb14 h0
        refine SC.skip ?_
        change SC _ _ _ _ _
        refine SC.seq ?_
        refine SC.seq ?_
        refine SC.region ?_
        refine SO.op (Wanted.free rfl) rfl (A_move (v := .d (eI p0)) rfl rfl) ?_
        refine SO.op (Wanted.free rfl) rfl (A_move (v := .d (eI p1)) rfl rfl) ?_
        refine SO.op (Wanted.free rfl) rfl (A_bin (v := .d (eB (decide (p0 > p1)))) rfl rfl rfl (fun X Y => b_i64_gtr _ X Y p0 p1)) ?_
        refine SO.nil ?_
        change SC _ _ _ _ _
        refine SC.condB (t := (decide (p0 > p1))) rfl (fun hb15 => ?_) (fun hb15 => ?_)
        · replace h0 := ct hb15 h0
          refine SC.seq ?_
          refine SC.region ?_
          refine SO.op (Wanted.free rfl) rfl (A_assign (v := .d (eI (1 : Int))) rfl rfl) ?_
          refine SO.nil ?_
          change SC _ _ _ _ _
          refine SC.ret ?_
          have q := Option.some.inj h0; subst q
          exact finR (Wk.env (e' := [(4, .d (eI (1 : Int)))]) (EW.cons (AW.refl _) EW.nil)) (lresT rfl lresN) rfl
        · replace h0 := cf hb15 h0
          refine SC.skip ?_
          change SC _ _ _ _ _
          refine SC.seq ?_
          refine SC.region ?_
          refine SO.op (Wanted.free rfl) rfl (A_assign (v := .d (eI (0 : Int))) rfl rfl) ?_
          refine SO.nil ?_
          change SC _ _ _ _ _
          refine SC.ret ?_
          have q := Option.some.inj h0; subst q
          exact finR (Wk.env (e' := [(4, .d (eI (0 : Int)))]) (EW.cons (AW.refl _) EW.nil)) (lresT rfl lresN) rfl

/-- cmp.isNaN[int64] -/
noncomputable def cmp_isNaN_int64 (p0 : Int) : Option Unit :=
  some ()
theorem cmp_isNaN_int64_ok (p0 : Int) (r : Unit) (h0 : cmp_isNaN_int64 p0 = some r) : CallAt Tryd.prog 68 [.d (eI p0)] [] (.d (eB (p0 != p0))) [] := by
  unfold cmp_isNaN_int64 at h0
  refine CallAt.of Tryd.func68 rfl ?_
  refine SC.post (Q' := fun e s => ∃ s1, Wk _ s s1 ∧ Fin _ _ _ _ e s1) ?_ (fun _ _ h => h)
  refine SC.wk (s1 := ⟨mk 6 [(0, .d (eI p0))], []⟩) (Wk.begin (n := 6) (Nat.le_of_ble_eq_true rfl)) ?_
  refine SC.seq ?_
  refine SC.region ?_
  refine SO.op (Wanted.free rfl) rfl (A_assign (v := .d (eB false)) rfl rfl) ?_
  refine SO.nil ?_
  change SC _ _ _ _ _
  refine SC.seq ?_
  refine SC.region ?_
  refine SO.op (Wanted.free rfl) rfl (A_move (v := .d (eI p0)) rfl rfl) ?_
  refine SO.op (Wanted.free rfl) rfl (A_move (v := .d (eI p0)) rfl rfl) ?_
  refine SO.op (Wanted.free rfl) rfl (A_bin (v := .d (eB (p0 != p0))) rfl rfl rfl (fun X Y => b_i64_neq _ X Y p0 p0)) ?_
  refine SO.op (Wanted.free rfl) rfl (A_assign (v := .d (eB (p0 != p0))) rfl rfl) ?_
  refine SO.nil ?_
  change SC _ _ _ _ _
  refine SC.ret ?_
  have q := Option.some.inj h0; subst q
  exact finR (Wk.env (e' := [(2, .d (eB (p0 != p0)))]) (EW.cons (AW.refl _) EW.nil)) (lresT rfl lresN) rfl

/-- cmp.Compare[int64] -/
noncomputable def cmp_Compare_int64 (p0 : Int) (p1 : Int) : Option Int :=
  Option.bind (cmp_isNaN_int64 p0) fun _ =>
  Option.bind (cmp_isNaN_int64 p1) fun _ =>
  bif (p0 != p0) then
    bif (p1 != p1) then
      some (0 : Int)
    else
      some (-1 : Int)
  else
    bif (p1 != p1) then
      some (1 : Int)
    else
      bif (decide (p0 < p1)) then
        some (-1 : Int)
      else
        bif (decide (p0 > p1)) then
          some (1 : Int)
        else
          some (0 : Int)
theorem cmp_Compare_int64_ok (p0 : Int) (p1 : Int) (r : Int) (h0 : cmp_Compare_int64 p0 p1 = some r) : CallAt Tryd.prog 56 [.d (eI p0), .d (eI p1)] [] (.d (eI r)) [] := by
  unfold cmp_Compare_int64 at h0
  refine CallAt.of Tryd.func56 rfl ?_
  refine SC.post (Q' := fun e s => ∃ s1, Wk _ s s1 ∧ Fin _ _ _ _ e s1) ?_ (fun _ _ h => h)
  refine SC.wk (s1 := ⟨mk 20 [(0, .d (eI p0)), (1, .d (eI p1))], []⟩) (Wk.begin (n := 20) (Nat.le_of_ble_eq_true rfl)) ?_
  refine SC.seq ?_
  refine SC.region ?_
  refine SO.op (Wanted.free rfl) rfl (A_assign (v := .d (eI (0 : Int))) rfl rfl) ?_
  refine SO.nil ?_
  change SC _ _ _ _ _
  refine SC.seq ?_
  refine SC.region ?_
  refine SO.op (Wanted.free rfl) rfl (A_move (v := .d (eI p0)) rfl rfl) ?_
  obtain ⟨_, hq9, h0⟩ := ob h0
  refine SO.call0 (r := .d (eB (p0 != p0))) (Wanted.free rfl) rfl rfl rfl rfl rfl cb68 rfl (fun _ => rfl) (fun _ => rfl) (cmp_isNaN_int64_ok p0 _ hq9) ?_
  refine SO.op (Wanted.free rfl) rfl (A_assign (v := .d (eB (p0 != p0))) rfl rfl) ?_
  refine SO.nil ?_
  change SC _ _ _ _ _
  refine SC.seq ?_
  refine SC.region ?_
  refine SO.op (Wanted.free rfl) rfl (A_move (v := .d (eI p1)) rfl rfl) ?_
  obtain ⟨_, hq10, h0⟩ := ob h0
  refine SO.call0 (r := .d (eB (p1 != p1))) (Wanted.free rfl) rfl rfl rfl rfl rfl cb68 rfl (fun _ => rfl) (fun _ => rfl) (cmp_isNaN_int64_ok p1 _ hq10) ?_
  refine SO.op (Wanted.free rfl) rfl (A_assign (v := .d (eB (p1 != p1))) rfl rfl) ?_
  refine SO.nil ?_
  change SC _ _ _ _ _
  refine SC.seq ?_
  refine SC.seq ?_
  refine SC.region ?_
  refine SO.op (Wanted.free rfl) rfl (A_move (v := .d (eB (p0 != p0))) rfl rfl) ?_
  refine SO.nil ?_
  change SC _ _ _ _ _
  refine SC.condB (t := (p0 != p0)) rfl (fun hb11 => ?_) (fun hb11 => ?_)
  · replace h0 := ct hb11 h0
    refine SC.seq ?_
    refine SC.seq ?_
    refine SC.region ?_
    refine SO.op (Wanted.free rfl) rfl (A_move (v := .d (eB (p1 != p1))) rfl rfl) ?_
    refine SO.nil ?_
    change SC _ _ _ _ _
    refine SC.condB (t := (p1 != p1)) rfl (fun hb12 => ?_) (fun hb12 => ?_)
    · replace h0 := ct hb12 h0
      refine SC.seq ?_
      refine SC.region ?_
      refine SO.op (Wanted.free rfl) rfl (A_assign (v := .d (eI (0 : Int))) rfl rfl) ?_
      refine SO.nil ?_
      change SC _ _ _ _ _
      refine SC.ret ?_
      have q := Option.some.inj h0; subst q
      exact finR (Wk.env (e' := [(4, .d (eI (0 : Int)))]) (EW.cons (AW.refl _) EW.nil)) (lresT rfl lresN) rfl
    · replace h0 := cf hb12 h0
      refine SC.skip ?_
      change SC _ _ _ _ _
      refine SC.seq ?_
      refine SC.region ?_
      refine SO.op (Wanted.free rfl) rfl (A_assign (v := .d (eI (-1 : Int))) rfl rfl) ?_
      refine SO.nil ?_
      change SC _ _ _ _ _
      refine SC.ret ?_
      have q := Option.some.inj h0; subst q
      exact finR (Wk.env (e' := [(4, .d (eI (-1 : Int)))]) (EW.cons (AW.refl _) EW.nil)) (lresT rfl lresN) rfl
  · replace h0 := cf hb11 h0
    refine SC.skip ?_
    change SC _ _ _ _ _
    refine SC.seq ?_
    refine SC.seq ?_
    refine SC.region ?_
    refine SO.op (Wanted.free rfl) rfl (A_move (v := .d (eB (p1 != p1))) rfl rfl) ?_
    refine SO.nil ?_
    change SC _ _ _ _ _
    refine SC.condB (t := (p1 != p1)) rfl (fun hb13 => ?_) (fun hb13 => ?_)
    · replace h0 := ct hb13 h0
      refine SC.seq ?_
      refine SC.region ?_
      refine SO.op (Wanted.free rfl) rfl (A_assign (v := .d (eI (1 : Int))) rfl rfl) ?_
      refine SO.nil ?_
      change SC _ _ _ _ _
      refine SC.ret ?_
      have q := Option.some.inj h0; subst q
      exact finR (Wk.env (e' := [(4, .d (eI (1 : Int)))]) (EW.cons (AW.refl _) EW.nil)) (lresT rfl lresN) rfl
    · replace h0 := cf hb13 h0
      refine SC.skip ?_
      change SC _ _ _ _ _
      refine SC.seq ?_
      refine SC.seq ?_
      refine SC.region ?_
      refine SO.op (Wanted.free rfl) rfl (A_move (v := .d (eI p0)) rfl rfl) ?_
      refine SO.op (Wanted.free rfl) rfl (A_move (v := .d (eI p1)) rfl rfl) ?_
      refine SO.op (Wanted.free rfl) rfl (A_bin (v := .d (eB (decide (p0 < p1)))) rfl rfl rfl (fun X Y => b_i64_lss _ X Y p0 p1)) ?_
      refine SO.nil ?_
      change SC _ _ _ _ _
      refine SC.condB (t := (decide (p0 < p1))) rfl (fun hb14 => ?_) (fun hb14 => ?_)
      · replace h0 := ct hb14 h0
        refine SC.seq ?_
        refine SC.region ?_
        refine SO.op (Wanted.free rfl) rfl (A_assign (v := .d (eI (-1 : Int))) rfl rfl) ?_
        refine SO.nil ?_
        change SC _ _ _ _ _
        refine SC.ret ?_
        have q := Option.some.inj h0; subst q
        exact finR (Wk.env (e' := [(4, .d (eI (-1 : Int)))]) (EW.cons (AW.refl _) EW.nil)) (lresT rfl lresN) rfl
      · replace h0 := cf hb14 h0
        refine SC.skip ?_
        change SC _ _ _ _ _
        refine SC.seq ?_
        refine SC.seq ?_
        refine SC.region ?_
        refine SO.op (Wanted.free rfl) rfl (A_move (v := .d (eI p0)) rfl rfl) ?_
        refine SO.op (Wanted.free rfl) rfl (A_move (v := .d (eI p1)) rfl rfl) ?_
        refine SO.op (Wanted.free rfl) rfl (A_bin (v := .d (eB (decide (p0 > p1)))) rfl rfl rfl (fun X Y => b_i64_gtr _ X Y p0 p1)) ?_
        refine SO.nil ?_
        change SC _ _ _ _ _
        refine SC.condB (t := (decide (p0 > p1))) rfl (fun hb15 => ?_) (fun hb15 => ?_)
        · replace h0 := ct hb15 h0
          refine SC.seq ?_
          refine SC.region ?_
          refine SO.op (Wanted.free rfl) rfl (A_assign (v := .d (eI (1 : Int))) rfl rfl) ?_
          refine SO.nil ?_
          change SC _ _ _ _ _
          refine SC.ret ?_
          have q := Option.some.inj h0; subst q
          exact finR (Wk.env (e' := [(4, .d (eI (1 : Int)))]) (EW.cons (AW.refl _) EW.nil)) (lresT rfl lresN) rfl
        · replace h0 := cf hb15 h0
          refine SC.skip ?_
          change SC _ _ _ _ _
          refine SC.seq ?_
          refine SC.region ?_
          refine SO.op (Wanted.free rfl) rfl (A_assign (v := .d (eI (0 : Int))) rfl rfl) ?_
          refine SO.nil ?_
          change SC _ _ _ _ _
          refine SC.ret ?_
          have q := Option.some.inj h0; subst q
          exact finR (Wk.env (e' := [(4, .d (eI (0 : Int)))]) (EW.cons (AW.refl _) EW.nil)) (lresT rfl lresN) rfl

/-- cmp.isNaN[uint64] -/
noncomputable def cmp_isNaN_uint64 (p0 : UInt64) : Option Unit :=
  some ()
theorem cmp_isNaN_uint64_ok (p0 : UInt64) (r : Unit) (h0 : cmp_isNaN_uint64 p0 = some r) : CallAt Tryd.prog 69 [.d (eU64 p0)] [] (.d (eB (p0 != p0))) [] := by
  unfold cmp_isNaN_uint64 at h0
  refine CallAt.of Tryd.func69 rfl ?_
  refine SC.post (Q' := fun e s => ∃ s1, Wk _ s s1 ∧ Fin _ _ _ _ e s1) ?_ (fun _ _ h => h)
  refine SC.wk (s1 := ⟨mk 6 [(0, .d (eU64 p0))], []⟩) (Wk.begin (n := 6) (Nat.le_of_ble_eq_true rfl)) ?_
  refine SC.seq ?_
  refine SC.region ?_
  refine SO.op (Wanted.free rfl) rfl (A_assign (v := .d (eB false)) rfl rfl) ?_
  refine SO.nil ?_
  change SC _ _ _ _ _
  refine SC.seq ?_
  refine SC.region ?_
  refine SO.op (Wanted.free rfl) rfl (A_move (v := .d (eU64 p0)) rfl rfl) ?_
  refine SO.op (Wanted.free rfl) rfl (A_move (v := .d (eU64 p0)) rfl rfl) ?_
  refine SO.op (Wanted.free rfl) rfl (A_bin (v := .d (eB (p0 != p0))) rfl rfl rfl (fun X Y => b_u64_neq _ X Y p0 p0)) ?_
  refine SO.op (Wanted.free rfl) rfl (A_assign (v := .d (eB (p0 != p0))) rfl rfl) ?_
  refine SO.nil ?_
  change SC _ _ _ _ _
  refine SC.ret ?_
  have q := Option.some.inj h0; subst q
  exact finR (Wk.env (e' := [(2, .d (eB (p0 != p0)))]) (EW.cons (AW.refl _) EW.nil)) (lresT rfl lresN) rfl

/-- cmp.Compare[uint64] -/
noncomputable def cmp_Compare_uint64 (p0 : UInt64) (p1 : UInt64) : Option Int :=
  Option.bind (cmp_isNaN_uint64 p0) fun _ =>
  Option.bind (cmp_isNaN_uint64 p1) fun _ =>
  bif (p0 != p0) then
    bif (p1 != p1) then
      some (0 : Int)
    else
      some (-1 : Int)
  else
    bif (p1 != p1) then
      some (1 : Int)
    else
      bif (decide (p0 < p1)) then
        some (-1 : Int)
      else
        bif (decide (p1 < p0)) then
          some (1 : Int)
        else
          some (0 : Int)
theorem cmp_Compare_uint64_ok (p0 : UInt64) (p1 : UInt64) (r : Int) (h0 : cmp_Compare_uint64 p0 p1 = some r) : CallAt Tryd.prog 58 [.d (eU64 p0), .d (eU64 p1)] [] (.d (eI r)) [] := by
  unfold cmp_Compare_uint64 at h0
  refine CallAt.of Tryd.func58 rfl ?_
  refine SC.post (Q' := fun e s => ∃ s1, Wk _ s s1 ∧ Fin _ _ _ _ e s1) ?_ (fun _ _ h => h)
  refine SC.wk (s1 := ⟨mk 20 [(0, .d (eU64 p0)), (1, .d (eU64 p1))], []⟩) (Wk.begin (n := 20) (Nat.le_of_ble_eq_true rfl)) ?_
  refine SC.seq ?_
  refine SC.region ?_
  refine SO.op (Wanted.free rfl) rfl (A_assign (v := .d (eI (0 : Int))) rfl rfl) ?_
  refine SO.nil ?_
  change SC _ _ _ _ _
  refine SC.seq ?_
  refine SC.region ?_
  refine SO.op (Wanted.free rfl) rfl (A_move (v := .d (eU64 p0)) rfl rfl) ?_
  obtain ⟨_, hq9, h0⟩ := ob h0
  refine SO.call0 (r := .d (eB (p0 != p0))) (Wanted.free rfl) rfl rfl rfl rfl rfl cb69 rfl (fun _ => rfl) (fun _ => rfl) (cmp_isNaN_uint64_ok p0 _ hq9) ?_
  refine SO.op (Wanted.free rfl) rfl (A_assign (v := .d (eB (p0 != p0))) rfl rfl) ?_
  refine SO.nil ?_
  change SC _ _ _ _ _
  refine SC.seq ?_
  refine SC.region ?_
  refine SO.op (Wanted.free rfl) rfl (A_move (v := .d (eU64 p1)) rfl rfl) ?_
  obtain ⟨_, hq10, h0⟩ := ob h0
  refine SO.call0 (r := .d (eB (p1 != p1))) (Wanted.free rfl) rfl rfl rfl rfl rfl cb69 rfl (fun _ => rfl) (fun _ => rfl) (cmp_isNaN_uint64_ok p1 _ hq10) ?_
  refine SO.op (Wanted.free rfl) rfl (A_assign (v := .d (eB (p1 != p1))) rfl rfl) ?_
  refine SO.nil ?_
  change SC _ _ _ _ _
  refine SC.seq ?_
  refine SC.seq ?_
  refine SC.region ?_
  refine SO.op (Wanted.free rfl) rfl (A_move (v := .d (eB (p0 != p0))) rfl rfl) ?_
  refine SO.nil ?_
  change SC _ _ _ _ _
  refine SC.condB (t := (p0 != p0)) rfl (fun hb11 => ?_) (fun hb11 => ?_)
  · replace h0 := ct hb11 h0
    refine SC.seq ?_
    refine SC.seq ?_
    refine SC.region ?_
    refine SO.op (Wanted.free rfl) rfl (A_move (v := .d (eB (p1 != p1))) rfl rfl) ?_
    refine SO.nil ?_
    change SC _ _ _ _ _
    refine SC.condB (t := (p1 != p1)) rfl (fun hb12 => ?_) (fun hb12 => ?_)
    · replace h0 := ct hb12 h0
      refine SC.seq ?_
      refine SC.region ?_
      refine SO.op (Wanted.free rfl) rfl (A_assign (v := .d (eI (0 : Int))) rfl rfl) ?_
      refine SO.nil ?_
      change SC _ _ _ _ _
      refine SC.ret ?_
      have q := Option.some.inj h0; subst q
      exact finR (Wk.env (e' := [(4, .d (eI (0 : Int)))]) (EW.cons (AW.refl _) EW.nil)) (lresT rfl lresN) rfl
    · replace h0 := cf hb12 h0
      refine SC.skip ?_
      change SC _ _ _ _ _
      refine SC.seq ?_
      refine SC.region ?_
      refine SO.op (Wanted.free rfl) rfl (A_assign (v := .d (eI (-1 : Int))) rfl rfl) ?_
      refine SO.nil ?_
      change SC _ _ _ _ _
      refine SC.ret ?_
      have q := Option.some.inj h0; subst q
      exact finR (Wk.env (e' := [(4, .d (eI (-1 : Int)))]) (EW.cons (AW.refl _) EW.nil)) (lresT rfl lresN) rfl
  · replace h0 := cf hb11 h0
    refine SC.skip ?_
    change SC _ _ _ _ _
    refine SC.seq ?_
    refine SC.seq ?_
    refine SC.region ?_
    refine SO.op (Wanted.free rfl) rfl (A_move (v := .d (eB (p1 != p1))) rfl rfl) ?_
    refine SO.nil ?_
    change SC _ _ _ _ _
    refine SC.condB (t := (p1 != p1)) rfl (fun hb13 => ?_) (fun hb13 => ?_)
    · replace h0 := ct hb13 h0
      refine SC.seq ?_
      refine SC.region ?_
      refine SO.op (Wanted.free rfl) rfl (A_assign (v := .d (eI (1 : Int))) rfl rfl) ?_
      refine SO.nil ?_
      change SC _ _ _ _ _
      refine SC.ret ?_
      have q := Option.some.inj h0; subst q
      exact finR (Wk.env (e' := [(4, .d (eI (1 : Int)))]) (EW.cons (AW.refl _) EW.nil)) (lresT rfl lresN) rfl
    · replace h0 := cf hb13 h0
      refine SC.skip ?_
      change SC _ _ _ _ _
      refine SC.seq ?_
      refine SC.seq ?_
      refine SC.region ?_
      refine SO.op (Wanted.free rfl) rfl (A_move (v := .d (eU64 p0)) rfl rfl) ?_
      refine SO.op (Wanted.free rfl) rfl (A_move (v := .d (eU64 p1)) rfl rfl) ?_
      refine SO.op (Wanted.free rfl) rfl (A_bin (v := .d (eB (decide (p0 < p1)))) rfl rfl rfl (fun X Y => b_u64_lss _ X Y p0 p1)) ?_
      refine SO.nil ?_
      change SC _ _ _ _ _
      refine SC.condB (t := (decide (p0 < p1))) rfl (fun hb14 => ?_) (fun hb14 => ?_)
      · replace h0 := ct hb14 h0
        refine SC.seq ?_
        refine SC.region ?_
        refine SO.op (Wanted.free rfl) rfl (A_assign (v := .d (eI (-1 : Int))) rfl rfl) ?_
        refine SO.nil ?_
        change SC _ _ _ _ _
        refine SC.ret ?_
        have q := Option.some.inj h0; subst q
        exact finR (Wk.env (e' := [(4, .d (eI (-1 : Int)))]) (EW.cons (AW.refl _) EW.nil)) (lresT rfl lresN) rfl
      · replace h0 := cf hb14 h0
        refine SC.skip ?_
        change SC _ _ _ _ _
        refine SC.seq ?_
        refine SC.seq ?_
        refine SC.region ?_
        refine SO.op (Wanted.free rfl) rfl (A_move (v := .d (eU64 p0)) rfl rfl) ?_
        refine SO.op (Wanted.free rfl) rfl (A_move (v := .d (eU64 p1)) rfl rfl) ?_
        refine SO.op (Wanted.free rfl) rfl (A_bin (v := .d (eB (decide (p1 < p0)))) rfl rfl rfl (fun X Y => b_u64_gtr _ X Y p0 p1)) ?_
        refine SO.nil ?_
        change SC _ _ _ _ _
        refine SC.condB (t := (decide (p1 < p0))) rfl (fun hb15 => ?_) (fun hb15 => ?_)
        · replace h0 := ct hb15 h0
          refine SC.seq ?_
          refine SC.region ?_
          refine SO.op (Wanted.free rfl) rfl (A_assign (v := .d (eI (1 : Int))) rfl rfl) ?_
          refine SO.nil ?_
          change SC _ _ _ _ _
          refine SC.ret ?_
          have q := Option.some.inj h0; subst q
          exact finR (Wk.env (e' := [(4, .d (eI (1 : Int)))]) (EW.cons (AW.refl _) EW.nil)) (lresT rfl lresN) rfl
        · replace h0 := cf hb15 h0
          refine SC.skip ?_
          change SC _ _ _ _ _
          refine SC.seq ?_
          refine SC.region ?_
          refine SO.op (Wanted.free rfl) rfl (A_assign (v := .d (eI (0 : Int))) rfl rfl) ?_
          refine SO.nil ?_
          change SC _ _ _ _ _
          refine SC.ret ?_
          have q := Option.some.inj h0; subst q
          exact finR (Wk.env (e' := [(4, .d (eI (0 : Int)))]) (EW.cons (AW.refl _) EW.nil)) (lresT rfl lresN) rfl
end Lv
