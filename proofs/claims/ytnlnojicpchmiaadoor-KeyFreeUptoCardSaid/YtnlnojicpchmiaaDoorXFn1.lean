/- Part of the proof of a law: functions and their walks. -/
import Derived.Test.YtnlnojicpchmiaaDoorXFn0
namespace Lv
open Go Go.Proofs
set_option linter.unusedVariables false
set_option linter.unusedSimpArgs false
set_option linter.unusedSectionVars false
set_option maxRecDepth 100000
variable [BaseTab] [TabOk]
/-- granary/granaryref06.utf8 -/
noncomputable def ref06_utf8 (p0 : List UInt8) : Option Bool :=
  bindE (Y := Unit) (E := Bool)
    (Option.bind (α := Unit ⊕ Bool)
      (loop (Y := Int) (W := Unit ⊕ Bool) (fun y1079 =>
        bif (decide (y1079 < (p0.length : Int))) then
          Option.bind (getI p0 y1079) fun v1190 =>
          bindE (Y := Int × Int × Int) (E := Bool)
            (bif (decide ((v1190.toNat : Int) < (128 : Int))) then
              some (Sum.inl ((1 : Int), (0 : Int), (v1190.toNat : Int)))
            else
              Option.bind (α := Bool)
                (bif (decide ((v1190.toNat : Int) ≥ (194 : Int))) then
                  some (decide ((v1190.toNat : Int) < (224 : Int)))
                else
                  some false)
                fun y1213 =>
              bif y1213 then
                some (Sum.inl ((2 : Int), (128 : Int), (w64 ((v1190.toNat : Int) - (192 : Int)))))
              else
                Option.bind (α := Bool)
                  (bif (decide ((v1190.toNat : Int) ≥ (224 : Int))) then
                    some (decide ((v1190.toNat : Int) < (240 : Int)))
                  else
                    some false)
                  fun y1218 =>
                bif y1218 then
                  some (Sum.inl ((3 : Int), (2048 : Int), (w64 ((v1190.toNat : Int) - (224 : Int)))))
                else
                  Option.bind (α := Bool)
                    (bif (decide ((v1190.toNat : Int) ≥ (240 : Int))) then
                      some (decide ((v1190.toNat : Int) < (245 : Int)))
                    else
                      some false)
                    fun y1223 =>
                  bif y1223 then
                    some (Sum.inl ((4 : Int), (65536 : Int), (w64 ((v1190.toNat : Int) - (240 : Int)))))
                  else
                    some (Sum.inr false))
            (fun (y1207, y1208, y1209) =>
              bif (decide ((w64 (y1079 + y1207)) > (p0.length : Int))) then
                some (Sum.inr (Sum.inr false))
              else
                bindE (Y := Int) (E := Bool)
                  (Option.bind (α := Int ⊕ Bool)
                    (loop (Y := Int × Int) (W := Int ⊕ Bool) (fun (y1265, y1266) =>
                      bif (decide (y1266 < y1207)) then
                        Option.bind (getI p0 (w64 (y1079 + y1266))) fun v1279 =>
                        Option.bind (α := Bool)
                          (bif (decide ((v1279.toNat : Int) < (128 : Int))) then
                            some true
                          else
                            some (decide ((v1279.toNat : Int) ≥ (192 : Int))))
                          fun y1281 =>
                        bif y1281 then
                          some (Sum.inr (Sum.inr false))
                        else
                          some (Sum.inl ((w64 ((w64 ((w64 (y1265 * (64 : Int))) + (v1279.toNat : Int))) - (128 : Int))), (w64 (y1266 + (1 : Int)))))
                      else
                        some (Sum.inr (Sum.inl y1265))) (y1209, (1 : Int)))
                    (Sum.elim (fun e => some (Sum.inl e)) (fun e => some (Sum.inr e))))
                  (fun y1256 =>
                    Option.bind (α := Bool)
                      (bif (decide (y1256 < y1208)) then
                        some true
                      else
                        bif (decide (y1256 > (1114111 : Int))) then
                          some true
                        else
                          bif (decide (y1256 ≥ (55296 : Int))) then
                            some (decide (y1256 < (57344 : Int)))
                          else
                            some false)
                      fun y1289 =>
                    bif y1289 then
                      some (Sum.inr (Sum.inr false))
                    else
                      some (Sum.inl (w64 (y1079 + y1207))))
                  (fun e => some (Sum.inr (Sum.inr e))))
            (fun e => some (Sum.inr (Sum.inr e)))
        else
          some (Sum.inr (Sum.inl ()))) (0 : Int))
      (Sum.elim (fun e => some (Sum.inl e)) (fun e => some (Sum.inr e))))
    (fun _ =>
      some true)
    (fun e => some e)
theorem ref06_utf8_ok (p0 : List UInt8) (r : Bool) (h0 : ref06_utf8 p0 = some r) : CallAt Tryd.prog 44 [.d (eS p0)] [] (.d (eB r)) [] := by
  unfold ref06_utf8 at h0
  refine CallAt.of Tryd.func44 rfl ?_
  refine SC.post (Q' := fun e s => ∃ s1, Wk _ s s1 ∧ Fin _ _ _ _ e s1) ?_ (fun _ _ h => h)
  refine SC.wk (s1 := ⟨mk 95 [(0, .d (eS p0))], []⟩) (Wk.begin (n := 95) (Nat.le_of_ble_eq_true rfl)) ?_
  refine SC.seq ?_
  refine SC.region ?_
  refine SO.op (Wanted.free rfl) rfl (A_assign (v := .d (eB false)) rfl rfl) ?_
  refine SO.nil ?_
  change SC _ _ _ _ _
  refine SC.seqB h0 (fun y => ⟨mk 95 [], []⟩) ?_ ?_
  · intro u1_972 h1 h0
    refine SC.seq ?_
    refine SC.region ?_
    refine SO.op (Wanted.free rfl) rfl (A_assign (v := .d (eI (0 : Int))) rfl rfl) ?_
    refine SO.nil ?_
    change SC _ _ _ _ _
    refine SC.blk ?_
    obtain ⟨u2_1188, h2, h1⟩ := ob h1
    refine SC.loopB h2 (fun y => ⟨mk 95 [(0, .d (eS p0)), (3, .d (eI y))], []⟩) (Wk.env (e' := [(0, .d (eS p0)), (3, .d (eI (0 : Int)))]) (EW.cons (AW.refl _) (EW.cons (AW.refl _) EW.nil))) ?_
    intro n1295
    rintro y1079 w2_1187 h3 hv3
    change SC _ _ _ ⟨mk 95 [(0, .d (eS p0)), (3, .d (eI y1079))], []⟩ _
    refine SC.seq ?_
    refine SC.seq ?_
    refine SC.region ?_
    refine SO.op (Wanted.free rfl) rfl (A_move (v := .d (eI y1079)) rfl rfl) ?_
    refine SO.op (Wanted.free rfl) rfl (A_move (v := .d (eS p0)) rfl rfl) ?_
    refine SO.op (Wanted.free rfl) rfl (A_len (v := .d (eI (p0.length : Int))) rfl rfl rfl rfl (len_str un9)) ?_
    refine SO.op (Wanted.free rfl) rfl (A_bin (v := .d (eB (decide (y1079 < (p0.length : Int))))) rfl rfl rfl (fun X Y => b_i64_lss _ X Y y1079 (p0.length : Int))) ?_
    refine SO.nil ?_
    change SC _ _ _ _ _
    refine SC.condB (t := (decide (y1079 < (p0.length : Int)))) rfl (fun hb1189 => ?_) (fun hb1189 => ?_)
    · replace h3 := ct hb1189 h3
      refine SC.skip ?_
      change SC _ _ _ _ _
      refine SC.blk ?_
      refine SC.seq ?_
      refine SC.region ?_
      refine SO.op (Wanted.free rfl) rfl (A_move (v := .d (eS p0)) rfl rfl) ?_
      refine SO.op (Wanted.free rfl) rfl (A_move (v := .d (eI y1079)) rfl rfl) ?_
      obtain ⟨v1190, hv1190, h3⟩ := ob h3
      refine SO.op (Wanted.free rfl) rfl (A_index rfl rfl rfl rfl rfl (ix_str un9 (getI_some hv1190).1 (getI_some hv1190).2)) ?_
      refine SO.op (Wanted.free rfl) rfl (A_conv (v := .d (eI (v1190.toNat : Int))) rfl rfl (cv_u8_i64 un5 un3 v1190)) ?_
      refine SO.op (Wanted.free rfl) rfl (A_assign (v := .d (eI (v1190.toNat : Int))) rfl rfl) ?_
      refine SO.nil ?_
      change SC _ _ _ _ _
      refine SC.seq ?_
      refine SC.region ?_
      refine SO.op (Wanted.free rfl) rfl (A_assign (v := .d (eI (1 : Int))) rfl rfl) ?_
      refine SO.nil ?_
      change SC _ _ _ _ _
      refine SC.seq ?_
      refine SC.region ?_
      refine SO.op (Wanted.free rfl) rfl (A_assign (v := .d (eI (0 : Int))) rfl rfl) ?_
      refine SO.nil ?_
      change SC _ _ _ _ _
      refine SC.seq ?_
      refine SC.region ?_
      refine SO.op (Wanted.free rfl) rfl (A_move (v := .d (eI (v1190.toNat : Int))) rfl rfl) ?_
      refine SO.op (Wanted.free rfl) rfl (A_assign (v := .d (eI (v1190.toNat : Int))) rfl rfl) ?_
      refine SO.nil ?_
      change SC _ _ _ _ _
      refine SC.seqB h3 (fun y => ⟨mk 95 [(0, .d (eS p0)), (3, .d (eI y1079)), (5, .d (eI y.1)), (6, .d (eI y.2.1)), (7, .d (eI y.2.2))], []⟩) ?_ ?_
      · intro u4_1210 h4 h3
        refine SC.blk ?_
        refine SC.seq ?_
        refine SC.region ?_
        refine SO.op (Wanted.free rfl) rfl (A_move (v := .d (eI (v1190.toNat : Int))) rfl rfl) ?_
        refine SO.op (Wanted.free rfl) rfl (A_bin (v := .d (eB (decide ((v1190.toNat : Int) < (128 : Int))))) rfl rfl rfl (fun X Y => b_i64_lss _ X Y (v1190.toNat : Int) (128 : Int))) ?_
        refine SO.op (Wanted.free rfl) rfl (A_assign (v := .d (eB (decide ((v1190.toNat : Int) < (128 : Int))))) rfl rfl) ?_
        refine SO.nil ?_
        change SC _ _ _ _ _
        refine SC.condB (t := (decide ((v1190.toNat : Int) < (128 : Int)))) rfl (fun hb1211 => ?_) (fun hb1211 => ?_)
        · replace h4 := ct hb1211 h4
          refine SC.skip ?_
          have q := Option.some.inj h4; subst q
          exact lf (Wk.env (e' := [(0, .d (eS p0)), (3, .d (eI y1079)), (5, .d (eI (1 : Int))), (6, .d (eI (0 : Int))), (7, .d (eI (v1190.toNat : Int)))]) (EW.cons (AW.refl _) (EW.cons (AW.refl _) (EW.cons (AW.refl _) (EW.cons (AW.refl _) (EW.cons (AW.refl _) EW.nil))))))
        · replace h4 := cf hb1211 h4
          refine SC.seqP h4 (fun y => ⟨mk 95 [(0, .d (eS p0)), (3, .d (eI y1079)), (4, .d (eI (v1190.toNat : Int))), (22, .d (eB y))], []⟩) ?_ ?_
          · intro u5_1214 h5
            refine SC.region ?_
            refine SO.op (Wanted.free rfl) rfl (A_move (v := .d (eI (v1190.toNat : Int))) rfl rfl) ?_
            refine SO.op (Wanted.free rfl) rfl (A_bin (v := .d (eB (decide ((v1190.toNat : Int) ≥ (194 : Int))))) rfl rfl rfl (fun X Y => b_i64_geq _ X Y (v1190.toNat : Int) (194 : Int))) ?_
            refine SO.op (Wanted.free rfl) rfl (A_move (v := .d (eB (decide ((v1190.toNat : Int) ≥ (194 : Int))))) rfl rfl) ?_
            refine SO.split (fun hb1215 => ?_) (fun hb1215 => ?_)
            · replace h5 := ct hb1215 h5
              refine SO.op (Wanted.by rfl rfl rfl rfl) rfl (A_move (v := .d (eI (v1190.toNat : Int))) rfl rfl) ?_
              refine SO.op (Wanted.by rfl rfl rfl rfl) rfl (A_bin (v := .d (eB (decide ((v1190.toNat : Int) < (224 : Int))))) rfl rfl rfl (fun X Y => b_i64_lss _ X Y (v1190.toNat : Int) (224 : Int))) ?_
              refine SO.op (Wanted.free rfl) rfl (A_pickT (v := .d (eB (decide ((v1190.toNat : Int) < (224 : Int))))) rfl rfl rfl) ?_
              refine SO.op (Wanted.free rfl) rfl (A_assign (v := .d (eB (decide ((v1190.toNat : Int) < (224 : Int))))) rfl rfl) ?_
              refine SO.nil ?_
              have q := Option.some.inj h5; subst q
              exact (Wk.env (e' := [(0, .d (eS p0)), (3, .d (eI y1079)), (4, .d (eI (v1190.toNat : Int))), (22, .d (eB (decide ((v1190.toNat : Int) < (224 : Int)))))]) (EW.cons (AW.refl _) (EW.cons (AW.refl _) (EW.cons (AW.refl _) (EW.cons (AW.refl _) EW.nil)))))
            · replace h5 := cf hb1215 h5
              refine SO.skip (Wanted.by rfl rfl rfl rfl) rfl ?_
              refine SO.skip (Wanted.by rfl rfl rfl rfl) rfl ?_
              refine SO.op (Wanted.free rfl) rfl (A_pickF (v := .d (eB false)) rfl rfl rfl) ?_
              refine SO.op (Wanted.free rfl) rfl (A_assign (v := .d (eB false)) rfl rfl) ?_
              refine SO.nil ?_
              have q := Option.some.inj h5; subst q
              exact (Wk.env (e' := [(0, .d (eS p0)), (3, .d (eI y1079)), (4, .d (eI (v1190.toNat : Int))), (22, .d (eB false))]) (EW.cons (AW.refl _) (EW.cons (AW.refl _) (EW.cons (AW.refl _) (EW.cons (AW.refl _) EW.nil)))))
          · rintro y1213 h4
            change SC _ _ _ ⟨mk 95 [(0, .d (eS p0)), (3, .d (eI y1079)), (4, .d (eI (v1190.toNat : Int))), (22, .d (eB y1213))], []⟩ _
            refine SC.condB (t := y1213) rfl (fun hb1216 => ?_) (fun hb1216 => ?_)
            · replace h4 := ct hb1216 h4
              refine SC.region ?_
              refine SO.op (Wanted.free rfl) rfl (A_move (v := .d (eI (v1190.toNat : Int))) rfl rfl) ?_
              refine SO.op (Wanted.free rfl) rfl (A_bin (v := .d (eI (w64 ((v1190.toNat : Int) - (192 : Int))))) rfl rfl rfl (fun X Y => b_i64_sub _ X Y (v1190.toNat : Int) (192 : Int))) ?_
              refine SO.op (Wanted.free rfl) rfl (A_assign (v := .d (eI (2 : Int))) rfl rfl) ?_
              refine SO.op (Wanted.free rfl) rfl (A_assign (v := .d (eI (128 : Int))) rfl rfl) ?_
              refine SO.op (Wanted.free rfl) rfl (A_assign (v := .d (eI (w64 ((v1190.toNat : Int) - (192 : Int))))) rfl rfl) ?_
              refine SO.nil ?_
              have q := Option.some.inj h4; subst q
              exact lf (Wk.env (e' := [(0, .d (eS p0)), (3, .d (eI y1079)), (5, .d (eI (2 : Int))), (6, .d (eI (128 : Int))), (7, .d (eI (w64 ((v1190.toNat : Int) - (192 : Int)))))]) (EW.cons (AW.refl _) (EW.cons (AW.refl _) (EW.cons (AW.refl _) (EW.cons (AW.refl _) (EW.cons (AW.refl _) EW.nil))))))
            · replace h4 := cf hb1216 h4
              refine SC.seqP h4 (fun y => ⟨mk 95 [(0, .d (eS p0)), (3, .d (eI y1079)), (4, .d (eI (v1190.toNat : Int))), (31, .d (eB y))], []⟩) ?_ ?_
              · intro u5_1219 h5
                refine SC.region ?_
                refine SO.op (Wanted.free rfl) rfl (A_move (v := .d (eI (v1190.toNat : Int))) rfl rfl) ?_
                refine SO.op (Wanted.free rfl) rfl (A_bin (v := .d (eB (decide ((v1190.toNat : Int) ≥ (224 : Int))))) rfl rfl rfl (fun X Y => b_i64_geq _ X Y (v1190.toNat : Int) (224 : Int))) ?_
                refine SO.op (Wanted.free rfl) rfl (A_move (v := .d (eB (decide ((v1190.toNat : Int) ≥ (224 : Int))))) rfl rfl) ?_
                refine SO.split (fun hb1220 => ?_) (fun hb1220 => ?_)
                · replace h5 := ct hb1220 h5
                  refine SO.op (Wanted.by rfl rfl rfl rfl) rfl (A_move (v := .d (eI (v1190.toNat : Int))) rfl rfl) ?_
                  refine SO.op (Wanted.by rfl rfl rfl rfl) rfl (A_bin (v := .d (eB (decide ((v1190.toNat : Int) < (240 : Int))))) rfl rfl rfl (fun X Y => b_i64_lss _ X Y (v1190.toNat : Int) (240 : Int))) ?_
                  refine SO.op (Wanted.free rfl) rfl (A_pickT (v := .d (eB (decide ((v1190.toNat : Int) < (240 : Int))))) rfl rfl rfl) ?_
                  refine SO.op (Wanted.free rfl) rfl (A_assign (v := .d (eB (decide ((v1190.toNat : Int) < (240 : Int))))) rfl rfl) ?_
                  refine SO.nil ?_
                  have q := Option.some.inj h5; subst q
                  exact (Wk.env (e' := [(0, .d (eS p0)), (3, .d (eI y1079)), (4, .d (eI (v1190.toNat : Int))), (31, .d (eB (decide ((v1190.toNat : Int) < (240 : Int)))))]) (EW.cons (AW.refl _) (EW.cons (AW.refl _) (EW.cons (AW.refl _) (EW.cons (AW.refl _) EW.nil)))))
                · replace h5 := cf hb1220 h5
                  refine SO.skip (Wanted.by rfl rfl rfl rfl) rfl ?_
                  refine SO.skip (Wanted.by rfl rfl rfl rfl) rfl ?_
                  refine SO.op (Wanted.free rfl) rfl (A_pickF (v := .d (eB false)) rfl rfl rfl) ?_
                  refine SO.op (Wanted.free rfl) rfl (A_assign (v := .d (eB false)) rfl rfl) ?_
                  refine SO.nil ?_
                  have q := Option.some.inj h5; subst q
                  exact (Wk.env (e' := [(0, .d (eS p0)), (3, .d (eI y1079)), (4, .d (eI (v1190.toNat : Int))), (31, .d (eB false))]) (EW.cons (AW.refl _) (EW.cons (AW.refl _) (EW.cons (AW.refl _) (EW.cons (AW.refl _) EW.nil)))))
              · rintro y1218 h4
                change SC _ _ _ ⟨mk 95 [(0, .d (eS p0)), (3, .d (eI y1079)), (4, .d (eI (v1190.toNat : Int))), (31, .d (eB y1218))], []⟩ _
                refine SC.condB (t := y1218) rfl (fun hb1221 => ?_) (fun hb1221 => ?_)
                · replace h4 := ct hb1221 h4
                  refine SC.region ?_
                  refine SO.op (Wanted.free rfl) rfl (A_move (v := .d (eI (v1190.toNat : Int))) rfl rfl) ?_
                  refine SO.op (Wanted.free rfl) rfl (A_bin (v := .d (eI (w64 ((v1190.toNat : Int) - (224 : Int))))) rfl rfl rfl (fun X Y => b_i64_sub _ X Y (v1190.toNat : Int) (224 : Int))) ?_
                  refine SO.op (Wanted.free rfl) rfl (A_assign (v := .d (eI (3 : Int))) rfl rfl) ?_
                  refine SO.op (Wanted.free rfl) rfl (A_assign (v := .d (eI (2048 : Int))) rfl rfl) ?_
                  refine SO.op (Wanted.free rfl) rfl (A_assign (v := .d (eI (w64 ((v1190.toNat : Int) - (224 : Int))))) rfl rfl) ?_
                  refine SO.nil ?_
                  have q := Option.some.inj h4; subst q
                  exact lf (Wk.env (e' := [(0, .d (eS p0)), (3, .d (eI y1079)), (5, .d (eI (3 : Int))), (6, .d (eI (2048 : Int))), (7, .d (eI (w64 ((v1190.toNat : Int) - (224 : Int)))))]) (EW.cons (AW.refl _) (EW.cons (AW.refl _) (EW.cons (AW.refl _) (EW.cons (AW.refl _) (EW.cons (AW.refl _) EW.nil))))))
                · replace h4 := cf hb1221 h4
                  refine SC.seqP h4 (fun y => ⟨mk 95 [(0, .d (eS p0)), (3, .d (eI y1079)), (4, .d (eI (v1190.toNat : Int))), (40, .d (eB y))], []⟩) ?_ ?_
                  · intro u5_1224 h5
                    refine SC.region ?_
                    refine SO.op (Wanted.free rfl) rfl (A_move (v := .d (eI (v1190.toNat : Int))) rfl rfl) ?_
                    refine SO.op (Wanted.free rfl) rfl (A_bin (v := .d (eB (decide ((v1190.toNat : Int) ≥ (240 : Int))))) rfl rfl rfl (fun X Y => b_i64_geq _ X Y (v1190.toNat : Int) (240 : Int))) ?_
                    refine SO.op (Wanted.free rfl) rfl (A_move (v := .d (eB (decide ((v1190.toNat : Int) ≥ (240 : Int))))) rfl rfl) ?_
                    refine SO.split (fun hb1225 => ?_) (fun hb1225 => ?_)
                    · replace h5 := ct hb1225 h5
                      refine SO.op (Wanted.by rfl rfl rfl rfl) rfl (A_move (v := .d (eI (v1190.toNat : Int))) rfl rfl) ?_
                      refine SO.op (Wanted.by rfl rfl rfl rfl) rfl (A_bin (v := .d (eB (decide ((v1190.toNat : Int) < (245 : Int))))) rfl rfl rfl (fun X Y => b_i64_lss _ X Y (v1190.toNat : Int) (245 : Int))) ?_
                      refine SO.op (Wanted.free rfl) rfl (A_pickT (v := .d (eB (decide ((v1190.toNat : Int) < (245 : Int))))) rfl rfl rfl) ?_
                      refine SO.op (Wanted.free rfl) rfl (A_assign (v := .d (eB (decide ((v1190.toNat : Int) < (245 : Int))))) rfl rfl) ?_
                      refine SO.nil ?_
                      have q := Option.some.inj h5; subst q
                      exact (Wk.env (e' := [(0, .d (eS p0)), (3, .d (eI y1079)), (4, .d (eI (v1190.toNat : Int))), (40, .d (eB (decide ((v1190.toNat : Int) < (245 : Int)))))]) (EW.cons (AW.refl _) (EW.cons (AW.refl _) (EW.cons (AW.refl _) (EW.cons (AW.refl _) EW.nil)))))
                    · replace h5 := cf hb1225 h5
                      refine SO.skip (Wanted.by rfl rfl rfl rfl) rfl ?_
                      refine SO.skip (Wanted.by rfl rfl rfl rfl) rfl ?_
                      refine SO.op (Wanted.free rfl) rfl (A_pickF (v := .d (eB false)) rfl rfl rfl) ?_
                      refine SO.op (Wanted.free rfl) rfl (A_assign (v := .d (eB false)) rfl rfl) ?_
                      refine SO.nil ?_
                      have q := Option.some.inj h5; subst q
                      exact (Wk.env (e' := [(0, .d (eS p0)), (3, .d (eI y1079)), (4, .d (eI (v1190.toNat : Int))), (40, .d (eB false))]) (EW.cons (AW.refl _) (EW.cons (AW.refl _) (EW.cons (AW.refl _) (EW.cons (AW.refl _) EW.nil)))))
                  · rintro y1223 h4
                    change SC _ _ _ ⟨mk 95 [(0, .d (eS p0)), (3, .d (eI y1079)), (4, .d (eI (v1190.toNat : Int))), (40, .d (eB y1223))], []⟩ _
                    refine SC.condB (t := y1223) rfl (fun hb1226 => ?_) (fun hb1226 => ?_)
                    · replace h4 := ct hb1226 h4
                      refine SC.region ?_
                      refine SO.op (Wanted.free rfl) rfl (A_move (v := .d (eI (v1190.toNat : Int))) rfl rfl) ?_
                      refine SO.op (Wanted.free rfl) rfl (A_bin (v := .d (eI (w64 ((v1190.toNat : Int) - (240 : Int))))) rfl rfl rfl (fun X Y => b_i64_sub _ X Y (v1190.toNat : Int) (240 : Int))) ?_
                      refine SO.op (Wanted.free rfl) rfl (A_assign (v := .d (eI (4 : Int))) rfl rfl) ?_
                      refine SO.op (Wanted.free rfl) rfl (A_assign (v := .d (eI (65536 : Int))) rfl rfl) ?_
                      refine SO.op (Wanted.free rfl) rfl (A_assign (v := .d (eI (w64 ((v1190.toNat : Int) - (240 : Int))))) rfl rfl) ?_
                      refine SO.nil ?_
                      have q := Option.some.inj h4; subst q
                      exact lf (Wk.env (e' := [(0, .d (eS p0)), (3, .d (eI y1079)), (5, .d (eI (4 : Int))), (6, .d (eI (65536 : Int))), (7, .d (eI (w64 ((v1190.toNat : Int) - (240 : Int)))))]) (EW.cons (AW.refl _) (EW.cons (AW.refl _) (EW.cons (AW.refl _) (EW.cons (AW.refl _) (EW.cons (AW.refl _) EW.nil))))))
                    · replace h4 := cf hb1226 h4
                      refine SC.seq ?_
                      refine SC.region ?_
                      refine SO.op (Wanted.free rfl) rfl (A_assign (v := .d (eB false)) rfl rfl) ?_
                      refine SO.nil ?_
                      change SC _ _ _ _ _
                      refine SC.ret ?_
                      have q := Option.some.inj h4; subst q
                      have q := Option.some.inj h3; subst q
                      have q : _ = _ := hv3; subst q
                      have q := Option.some.inj h1; subst q
                      have q := Option.some.inj h0; subst q
                      exact finR (Wk.env (e' := [(2, .d (eB false))]) (EW.cons (AW.refl _) EW.nil)) (lresT rfl lresN) rfl
      · rintro ⟨y1207, y1208, y1209⟩ h3
        change SC _ _ _ ⟨mk 95 [(0, .d (eS p0)), (3, .d (eI y1079)), (5, .d (eI y1207)), (6, .d (eI y1208)), (7, .d (eI y1209))], []⟩ _
        refine SC.seq ?_
        refine SC.seq ?_
        refine SC.region ?_
        refine SO.op (Wanted.free rfl) rfl (A_move (v := .d (eI y1079)) rfl rfl) ?_
        refine SO.op (Wanted.free rfl) rfl (A_move (v := .d (eI y1207)) rfl rfl) ?_
        refine SO.op (Wanted.free rfl) rfl (A_bin (v := .d (eI (w64 (y1079 + y1207)))) rfl rfl rfl (fun X Y => b_i64_add _ X Y y1079 y1207)) ?_
        refine SO.op (Wanted.free rfl) rfl (A_move (v := .d (eS p0)) rfl rfl) ?_
        refine SO.op (Wanted.free rfl) rfl (A_len (v := .d (eI (p0.length : Int))) rfl rfl rfl rfl (len_str un9)) ?_
        refine SO.op (Wanted.free rfl) rfl (A_bin (v := .d (eB (decide ((w64 (y1079 + y1207)) > (p0.length : Int))))) rfl rfl rfl (fun X Y => b_i64_gtr _ X Y (w64 (y1079 + y1207)) (p0.length : Int))) ?_
        refine SO.nil ?_
        change SC _ _ _ _ _
        refine SC.condB (t := (decide ((w64 (y1079 + y1207)) > (p0.length : Int)))) rfl (fun hb1227 => ?_) (fun hb1227 => ?_)
        · replace h3 := ct hb1227 h3
          refine SC.seq ?_
          refine SC.region ?_
          refine SO.op (Wanted.free rfl) rfl (A_assign (v := .d (eB false)) rfl rfl) ?_
          refine SO.nil ?_
          change SC _ _ _ _ _
          refine SC.ret ?_
          have q := Option.some.inj h3; subst q
          have q : _ = _ := hv3; subst q
          have q := Option.some.inj h1; subst q
          have q := Option.some.inj h0; subst q
          exact finR (Wk.env (e' := [(2, .d (eB false))]) (EW.cons (AW.refl _) EW.nil)) (lresT rfl lresN) rfl
        · replace h3 := cf hb1227 h3
          refine SC.skip ?_
          change SC _ _ _ _ _
          refine SC.seqB h3 (fun y => ⟨mk 95 [(0, .d (eS p0)), (3, .d (eI y1079)), (5, .d (eI y1207)), (6, .d (eI y1208)), (7, .d (eI y))], []⟩) ?_ ?_
          · intro u4_1257 h4 h3
            refine SC.seq ?_
            refine SC.region ?_
            refine SO.op (Wanted.free rfl) rfl (A_assign (v := .d (eI (1 : Int))) rfl rfl) ?_
            refine SO.nil ?_
            change SC _ _ _ _ _
            refine SC.blk ?_
            obtain ⟨u5_1277, h5, h4⟩ := ob h4
            refine SC.loopB h5 (fun y => ⟨mk 95 [(0, .d (eS p0)), (3, .d (eI y1079)), (5, .d (eI y1207)), (6, .d (eI y1208)), (7, .d (eI y.1)), (8, .d (eI y.2))], []⟩) (Wk.env (e' := [(0, .d (eS p0)), (3, .d (eI y1079)), (5, .d (eI y1207)), (6, .d (eI y1208)), (7, .d (eI y1209)), (8, .d (eI (1 : Int)))]) (EW.cons (AW.refl _) (EW.cons (AW.refl _) (EW.cons (AW.refl _) (EW.cons (AW.refl _) (EW.cons (AW.refl _) (EW.cons (AW.refl _) EW.nil))))))) ?_
            intro n1285
            rintro ⟨y1265, y1266⟩ w5_1276 h6 hv6
            change SC _ _ _ ⟨mk 95 [(0, .d (eS p0)), (3, .d (eI y1079)), (5, .d (eI y1207)), (6, .d (eI y1208)), (7, .d (eI y1265)), (8, .d (eI y1266))], []⟩ _
            refine SC.seq ?_
            refine SC.seq ?_
            refine SC.region ?_
            refine SO.op (Wanted.free rfl) rfl (A_move (v := .d (eI y1266)) rfl rfl) ?_
            refine SO.op (Wanted.free rfl) rfl (A_move (v := .d (eI y1207)) rfl rfl) ?_
            refine SO.op (Wanted.free rfl) rfl (A_bin (v := .d (eB (decide (y1266 < y1207)))) rfl rfl rfl (fun X Y => b_i64_lss _ X Y y1266 y1207)) ?_
            refine SO.nil ?_
            change SC _ _ _ _ _
            refine SC.condB (t := (decide (y1266 < y1207))) rfl (fun hb1278 => ?_) (fun hb1278 => ?_)
            · replace h6 := ct hb1278 h6
              refine SC.skip ?_
              change SC _ _ _ _ _
              refine SC.seq ?_
              refine SC.blk ?_
              refine SC.seq ?_
              refine SC.region ?_
              refine SO.op (Wanted.free rfl) rfl (A_move (v := .d (eS p0)) rfl rfl) ?_
              refine SO.op (Wanted.free rfl) rfl (A_move (v := .d (eI y1079)) rfl rfl) ?_
              refine SO.op (Wanted.free rfl) rfl (A_move (v := .d (eI y1266)) rfl rfl) ?_
              refine SO.op (Wanted.free rfl) rfl (A_bin (v := .d (eI (w64 (y1079 + y1266)))) rfl rfl rfl (fun X Y => b_i64_add _ X Y y1079 y1266)) ?_
              obtain ⟨v1279, hv1279, h6⟩ := ob h6
              refine SO.op (Wanted.free rfl) rfl (A_index rfl rfl rfl rfl rfl (ix_str un9 (getI_some hv1279).1 (getI_some hv1279).2)) ?_
              refine SO.op (Wanted.free rfl) rfl (A_conv (v := .d (eI (v1279.toNat : Int))) rfl rfl (cv_u8_i64 un5 un3 v1279)) ?_
              refine SO.op (Wanted.free rfl) rfl (A_assign (v := .d (eI (v1279.toNat : Int))) rfl rfl) ?_
              refine SO.nil ?_
              change SC _ _ _ _ _
              refine SC.seq ?_
              refine SC.seqP h6 (fun y => ⟨mk 95 [(0, .d (eS p0)), (3, .d (eI y1079)), (5, .d (eI y1207)), (6, .d (eI y1208)), (7, .d (eI y1265)), (8, .d (eI y1266)), (9, .d (eI (v1279.toNat : Int))), (71, .d (eB y))], []⟩) ?_ ?_
              · intro u7_1282 h7
                refine SC.region ?_
                refine SO.op (Wanted.free rfl) rfl (A_move (v := .d (eI (v1279.toNat : Int))) rfl rfl) ?_
                refine SO.op (Wanted.free rfl) rfl (A_bin (v := .d (eB (decide ((v1279.toNat : Int) < (128 : Int))))) rfl rfl rfl (fun X Y => b_i64_lss _ X Y (v1279.toNat : Int) (128 : Int))) ?_
                refine SO.op (Wanted.free rfl) rfl (A_move (v := .d (eB (decide ((v1279.toNat : Int) < (128 : Int))))) rfl rfl) ?_
                refine SO.split (fun hb1283 => ?_) (fun hb1283 => ?_)
                · replace h7 := ct hb1283 h7
                  refine SO.skip (Wanted.by rfl rfl rfl rfl) rfl ?_
                  refine SO.skip (Wanted.by rfl rfl rfl rfl) rfl ?_
                  refine SO.op (Wanted.free rfl) rfl (A_pickT (v := .d (eB true)) rfl rfl rfl) ?_
                  refine SO.nil ?_
                  have q := Option.some.inj h7; subst q
                  exact (Wk.env (e' := [(0, .d (eS p0)), (3, .d (eI y1079)), (5, .d (eI y1207)), (6, .d (eI y1208)), (7, .d (eI y1265)), (8, .d (eI y1266)), (9, .d (eI (v1279.toNat : Int))), (71, .d (eB true))]) (EW.cons (AW.refl _) (EW.cons (AW.refl _) (EW.cons (AW.refl _) (EW.cons (AW.refl _) (EW.cons (AW.refl _) (EW.cons (AW.refl _) (EW.cons (AW.refl _) (EW.cons (AW.refl _) EW.nil)))))))))
                · replace h7 := cf hb1283 h7
                  refine SO.op (Wanted.by rfl rfl rfl rfl) rfl (A_move (v := .d (eI (v1279.toNat : Int))) rfl rfl) ?_
                  refine SO.op (Wanted.by rfl rfl rfl rfl) rfl (A_bin (v := .d (eB (decide ((v1279.toNat : Int) ≥ (192 : Int))))) rfl rfl rfl (fun X Y => b_i64_geq _ X Y (v1279.toNat : Int) (192 : Int))) ?_
                  refine SO.op (Wanted.free rfl) rfl (A_pickF (v := .d (eB (decide ((v1279.toNat : Int) ≥ (192 : Int))))) rfl rfl rfl) ?_
                  refine SO.nil ?_
                  have q := Option.some.inj h7; subst q
                  exact (Wk.env (e' := [(0, .d (eS p0)), (3, .d (eI y1079)), (5, .d (eI y1207)), (6, .d (eI y1208)), (7, .d (eI y1265)), (8, .d (eI y1266)), (9, .d (eI (v1279.toNat : Int))), (71, .d (eB (decide ((v1279.toNat : Int) ≥ (192 : Int)))))]) (EW.cons (AW.refl _) (EW.cons (AW.refl _) (EW.cons (AW.refl _) (EW.cons (AW.refl _) (EW.cons (AW.refl _) (EW.cons (AW.refl _) (EW.cons (AW.refl _) (EW.cons (AW.refl _) EW.nil)))))))))
              · rintro y1281 h6
                change SC _ _ _ ⟨mk 95 [(0, .d (eS p0)), (3, .d (eI y1079)), (5, .d (eI y1207)), (6, .d (eI y1208)), (7, .d (eI y1265)), (8, .d (eI y1266)), (9, .d (eI (v1279.toNat : Int))), (71, .d (eB y1281))], []⟩ _
                refine SC.condB (t := y1281) rfl (fun hb1284 => ?_) (fun hb1284 => ?_)
                · replace h6 := ct hb1284 h6
                  refine SC.seq ?_
                  refine SC.region ?_
                  refine SO.op (Wanted.free rfl) rfl (A_assign (v := .d (eB false)) rfl rfl) ?_
                  refine SO.nil ?_
                  change SC _ _ _ _ _
                  refine SC.ret ?_
                  have q := Option.some.inj h6; subst q
                  have q : _ = _ := hv6; subst q
                  have q := Option.some.inj h4; subst q
                  have q := Option.some.inj h3; subst q
                  have q : _ = _ := hv3; subst q
                  have q := Option.some.inj h1; subst q
                  have q := Option.some.inj h0; subst q
                  exact finR (Wk.env (e' := [(2, .d (eB false))]) (EW.cons (AW.refl _) EW.nil)) (lresT rfl lresN) rfl
                · replace h6 := cf hb1284 h6
                  refine SC.skip ?_
                  change SC _ _ _ _ _
                  refine SC.region ?_
                  refine SO.op (Wanted.free rfl) rfl (A_move (v := .d (eI y1265)) rfl rfl) ?_
                  refine SO.op (Wanted.free rfl) rfl (A_bin (v := .d (eI (w64 (y1265 * (64 : Int))))) rfl rfl rfl (fun X Y => b_i64_mul _ X Y y1265 (64 : Int))) ?_
                  refine SO.op (Wanted.free rfl) rfl (A_move (v := .d (eI (v1279.toNat : Int))) rfl rfl) ?_
                  refine SO.op (Wanted.free rfl) rfl (A_bin (v := .d (eI (w64 ((w64 (y1265 * (64 : Int))) + (v1279.toNat : Int))))) rfl rfl rfl (fun X Y => b_i64_add _ X Y (w64 (y1265 * (64 : Int))) (v1279.toNat : Int))) ?_
                  refine SO.op (Wanted.free rfl) rfl (A_bin (v := .d (eI (w64 ((w64 ((w64 (y1265 * (64 : Int))) + (v1279.toNat : Int))) - (128 : Int))))) rfl rfl rfl (fun X Y => b_i64_sub _ X Y (w64 ((w64 (y1265 * (64 : Int))) + (v1279.toNat : Int))) (128 : Int))) ?_
                  refine SO.op (Wanted.free rfl) rfl (A_assign (v := .d (eI (w64 ((w64 ((w64 (y1265 * (64 : Int))) + (v1279.toNat : Int))) - (128 : Int))))) rfl rfl) ?_
                  refine SO.nil ?_
                  change SC _ _ _ _ _
                  refine SC.region ?_
                  refine SO.op (Wanted.free rfl) rfl (A_move (v := .d (eI y1266)) rfl rfl) ?_
                  refine SO.op (Wanted.free rfl) rfl (A_bin (v := .d (eI (w64 (y1266 + (1 : Int))))) rfl rfl rfl (fun X Y => b_i64_add _ X Y y1266 (1 : Int))) ?_
                  refine SO.op (Wanted.free rfl) rfl (A_assign (v := .d (eI (w64 (y1266 + (1 : Int))))) rfl rfl) ?_
                  refine SO.nil ?_
                  have q := Option.some.inj h6; subst q
                  exact lf (Wk.env (e' := [(0, .d (eS p0)), (3, .d (eI y1079)), (5, .d (eI y1207)), (6, .d (eI y1208)), (7, .d (eI (w64 ((w64 ((w64 (y1265 * (64 : Int))) + (v1279.toNat : Int))) - (128 : Int))))), (8, .d (eI (w64 (y1266 + (1 : Int)))))]) (EW.cons (AW.refl _) (EW.cons (AW.refl _) (EW.cons (AW.refl _) (EW.cons (AW.refl _) (EW.cons (AW.refl _) (EW.cons (AW.refl _) EW.nil)))))))
            · replace h6 := cf hb1278 h6
              refine SC.exit ?_
              have q := Option.some.inj h6; subst q
              have q : _ = _ := hv6; subst q
              have q := Option.some.inj h4; subst q
              exact lf (Wk.env (e' := [(0, .d (eS p0)), (3, .d (eI y1079)), (5, .d (eI y1207)), (6, .d (eI y1208)), (7, .d (eI y1265))]) (EW.cons (AW.refl _) (EW.cons (AW.refl _) (EW.cons (AW.refl _) (EW.cons (AW.refl _) (EW.cons (AW.refl _) EW.nil))))))
          · rintro y1256 h3
            change SC _ _ _ ⟨mk 95 [(0, .d (eS p0)), (3, .d (eI y1079)), (5, .d (eI y1207)), (6, .d (eI y1208)), (7, .d (eI y1256))], []⟩ _
            refine SC.seq ?_
            refine SC.seqP h3 (fun y => ⟨mk 95 [(0, .d (eS p0)), (3, .d (eI y1079)), (5, .d (eI y1207)), (91, .d (eB y))], []⟩) ?_ ?_
            · intro u4_1290 h4
              refine SC.region ?_
              refine SO.op (Wanted.free rfl) rfl (A_move (v := .d (eI y1256)) rfl rfl) ?_
              refine SO.op (Wanted.free rfl) rfl (A_move (v := .d (eI y1208)) rfl rfl) ?_
              refine SO.op (Wanted.free rfl) rfl (A_bin (v := .d (eB (decide (y1256 < y1208)))) rfl rfl rfl (fun X Y => b_i64_lss _ X Y y1256 y1208)) ?_
              refine SO.op (Wanted.free rfl) rfl (A_move (v := .d (eB (decide (y1256 < y1208)))) rfl rfl) ?_
              refine SO.split (fun hb1291 => ?_) (fun hb1291 => ?_)
              · replace h4 := ct hb1291 h4
                refine SO.skip (Wanted.by rfl rfl rfl rfl) rfl ?_
                refine SO.skip (Wanted.by rfl rfl rfl rfl) rfl ?_
                refine SO.op (Wanted.free rfl) rfl (A_pickT (v := .d (eB true)) rfl rfl rfl) ?_
                refine SO.op (Wanted.free rfl) rfl (A_move (v := .d (eB true)) rfl rfl) ?_
                refine SO.skip (Wanted.by rfl rfl rfl rfl) rfl ?_
                refine SO.skip (Wanted.by rfl rfl rfl rfl) rfl ?_
                refine SO.skip (Wanted.by rfl rfl rfl rfl) rfl ?_
                refine SO.skip (Wanted.out rfl rfl rfl) rfl ?_
                refine SO.skip (Wanted.out rfl rfl rfl) rfl ?_
                refine SO.skip (Wanted.by rfl rfl rfl rfl) rfl ?_
                refine SO.op (Wanted.free rfl) rfl (A_pickT (v := .d (eB true)) rfl rfl rfl) ?_
                refine SO.nil ?_
                have q := Option.some.inj h4; subst q
                exact (Wk.env (e' := [(0, .d (eS p0)), (3, .d (eI y1079)), (5, .d (eI y1207)), (91, .d (eB true))]) (EW.cons (AW.refl _) (EW.cons (AW.refl _) (EW.cons (AW.refl _) (EW.cons (AW.refl _) EW.nil)))))
              · replace h4 := cf hb1291 h4
                refine SO.op (Wanted.by rfl rfl rfl rfl) rfl (A_move (v := .d (eI y1256)) rfl rfl) ?_
                refine SO.op (Wanted.by rfl rfl rfl rfl) rfl (A_bin (v := .d (eB (decide (y1256 > (1114111 : Int))))) rfl rfl rfl (fun X Y => b_i64_gtr _ X Y y1256 (1114111 : Int))) ?_
                refine SO.op (Wanted.free rfl) rfl (A_pickF (v := .d (eB (decide (y1256 > (1114111 : Int))))) rfl rfl rfl) ?_
                refine SO.op (Wanted.free rfl) rfl (A_move (v := .d (eB (decide (y1256 > (1114111 : Int))))) rfl rfl) ?_
                refine SO.split (fun hb1292 => ?_) (fun hb1292 => ?_)
                · replace h4 := ct hb1292 h4
                  refine SO.skip (Wanted.by rfl rfl rfl rfl) rfl ?_
                  refine SO.skip (Wanted.by rfl rfl rfl rfl) rfl ?_
                  refine SO.skip (Wanted.by rfl rfl rfl rfl) rfl ?_
                  refine SO.skip (Wanted.out rfl rfl rfl) rfl ?_
                  refine SO.skip (Wanted.out rfl rfl rfl) rfl ?_
                  refine SO.skip (Wanted.by rfl rfl rfl rfl) rfl ?_
                  refine SO.op (Wanted.free rfl) rfl (A_pickT (v := .d (eB true)) rfl rfl rfl) ?_
                  refine SO.nil ?_
                  have q := Option.some.inj h4; subst q
                  exact (Wk.env (e' := [(0, .d (eS p0)), (3, .d (eI y1079)), (5, .d (eI y1207)), (91, .d (eB true))]) (EW.cons (AW.refl _) (EW.cons (AW.refl _) (EW.cons (AW.refl _) (EW.cons (AW.refl _) EW.nil)))))
                · replace h4 := cf hb1292 h4
                  refine SO.op (Wanted.by rfl rfl rfl rfl) rfl (A_move (v := .d (eI y1256)) rfl rfl) ?_
                  refine SO.op (Wanted.by rfl rfl rfl rfl) rfl (A_bin (v := .d (eB (decide (y1256 ≥ (55296 : Int))))) rfl rfl rfl (fun X Y => b_i64_geq _ X Y y1256 (55296 : Int))) ?_
                  refine SO.op (Wanted.by rfl rfl rfl rfl) rfl (A_move (v := .d (eB (decide (y1256 ≥ (55296 : Int))))) rfl rfl) ?_
                  refine SO.split (fun hb1293 => ?_) (fun hb1293 => ?_)
                  · replace h4 := ct hb1293 h4
                    refine SO.op (Wanted.by rfl rfl rfl rfl) rfl (A_move (v := .d (eI y1256)) rfl rfl) ?_
                    refine SO.op (Wanted.by rfl rfl rfl rfl) rfl (A_bin (v := .d (eB (decide (y1256 < (57344 : Int))))) rfl rfl rfl (fun X Y => b_i64_lss _ X Y y1256 (57344 : Int))) ?_
                    refine SO.op (Wanted.by rfl rfl rfl rfl) rfl (A_pickT (v := .d (eB (decide (y1256 < (57344 : Int))))) rfl rfl rfl) ?_
                    refine SO.op (Wanted.free rfl) rfl (A_pickF (v := .d (eB (decide (y1256 < (57344 : Int))))) rfl rfl rfl) ?_
                    refine SO.nil ?_
                    have q := Option.some.inj h4; subst q
                    exact (Wk.env (e' := [(0, .d (eS p0)), (3, .d (eI y1079)), (5, .d (eI y1207)), (91, .d (eB (decide (y1256 < (57344 : Int)))))]) (EW.cons (AW.refl _) (EW.cons (AW.refl _) (EW.cons (AW.refl _) (EW.cons (AW.refl _) EW.nil)))))
                  · replace h4 := cf hb1293 h4
                    refine SO.skip (Wanted.by rfl rfl rfl rfl) rfl ?_
                    refine SO.skip (Wanted.by rfl rfl rfl rfl) rfl ?_
                    refine SO.op (Wanted.by rfl rfl rfl rfl) rfl (A_pickF (v := .d (eB false)) rfl rfl rfl) ?_
                    refine SO.op (Wanted.free rfl) rfl (A_pickF (v := .d (eB false)) rfl rfl rfl) ?_
                    refine SO.nil ?_
                    have q := Option.some.inj h4; subst q
                    exact (Wk.env (e' := [(0, .d (eS p0)), (3, .d (eI y1079)), (5, .d (eI y1207)), (91, .d (eB false))]) (EW.cons (AW.refl _) (EW.cons (AW.refl _) (EW.cons (AW.refl _) (EW.cons (AW.refl _) EW.nil)))))
            · rintro y1289 h3
              change SC _ _ _ ⟨mk 95 [(0, .d (eS p0)), (3, .d (eI y1079)), (5, .d (eI y1207)), (91, .d (eB y1289))], []⟩ _
              refine SC.condB (t := y1289) rfl (fun hb1294 => ?_) (fun hb1294 => ?_)
              · replace h3 := ct hb1294 h3
                refine SC.seq ?_
                refine SC.region ?_
                refine SO.op (Wanted.free rfl) rfl (A_assign (v := .d (eB false)) rfl rfl) ?_
                refine SO.nil ?_
                change SC _ _ _ _ _
                refine SC.ret ?_
                have q := Option.some.inj h3; subst q
                have q : _ = _ := hv3; subst q
                have q := Option.some.inj h1; subst q
                have q := Option.some.inj h0; subst q
                exact finR (Wk.env (e' := [(2, .d (eB false))]) (EW.cons (AW.refl _) EW.nil)) (lresT rfl lresN) rfl
              · replace h3 := cf hb1294 h3
                refine SC.skip ?_
                change SC _ _ _ _ _
                refine SC.region ?_
                refine SO.op (Wanted.free rfl) rfl (A_move (v := .d (eI y1079)) rfl rfl) ?_
                refine SO.op (Wanted.free rfl) rfl (A_move (v := .d (eI y1207)) rfl rfl) ?_
                refine SO.op (Wanted.free rfl) rfl (A_bin (v := .d (eI (w64 (y1079 + y1207)))) rfl rfl rfl (fun X Y => b_i64_add _ X Y y1079 y1207)) ?_
                refine SO.op (Wanted.free rfl) rfl (A_assign (v := .d (eI (w64 (y1079 + y1207)))) rfl rfl) ?_
                refine SO.nil ?_
                have q := Option.some.inj h3; subst q
                exact lf (Wk.env (e' := [(0, .d (eS p0)), (3, .d (eI (w64 (y1079 + y1207))))]) (EW.cons (AW.refl _) (EW.cons (AW.refl _) EW.nil)))
    · replace h3 := cf hb1189 h3
      refine SC.exit ?_
      have q := Option.some.inj h3; subst q
      have q : _ = _ := hv3; subst q
      have q := Option.some.inj h1; subst q
      exact lf (Wk.env (e' := []) EW.nil)
  · intro _ h0
    change SC _ _ _ ⟨mk 95 [], []⟩ _
    refine SC.seq ?_
    refine SC.region ?_
    refine SO.op (Wanted.free rfl) rfl (A_assign (v := .d (eB true)) rfl rfl) ?_
    refine SO.nil ?_
    change SC _ _ _ _ _
    refine SC.ret ?_
    have q := Option.some.inj h0; subst q
    exact finR (Wk.env (e' := [(2, .d (eB true))]) (EW.cons (AW.refl _) EW.nil)) (lresT rfl lresN) rfl

/-- granary/granaryref06.Valid -/
noncomputable def ref06_Valid (p0 : ApiValue) : Option Bool :=
  bif (p0.Kind == (0 : Int)) then
    Option.bind (α := Bool)
      (bif (p0.N == (0 : UInt64)) then
        some (p0.S == ([] : List UInt8))
      else
        some false)
      fun y35 =>
    some y35
  else
    Option.bind (α := Bool)
      (bif (p0.Kind == (1 : Int)) then
        some (p0.Kind == (1 : Int))
      else
        some (p0.Kind == (2 : Int)))
      fun y39 =>
    bif y39 then
      some (p0.S == ([] : List UInt8))
    else
      bif (p0.Kind == (3 : Int)) then
        Option.bind (α := Bool)
          (bif (decide (p0.N < (2 : UInt64))) then
            some (p0.S == ([] : List UInt8))
          else
            some false)
          fun y45 =>
        some y45
      else
        bif (p0.Kind == (4 : Int)) then
          Option.bind (α := Bool)
            (bif (p0.N == (0 : UInt64)) then
              some (decide ((p0.S.length : Int) ≤ (64 : Int)))
            else
              some false)
            fun y50 =>
          some y50
        else
          bif (p0.Kind == (5 : Int)) then
            Option.bind (α := Bool)
              (bif (p0.N == (0 : UInt64)) then
                bif (decide ((p0.S.length : Int) ≤ (64 : Int))) then
                  Option.bind (ref06_utf8 p0.S) fun r62 =>
                  some r62
                else
                  some false
              else
                some false)
              fun y58 =>
            some y58
          else
            some false
theorem ref06_Valid_ok (p0 : ApiValue) (r : Bool) (h0 : ref06_Valid p0 = some r) : CallAt Tryd.prog 29 [.d (eApiValue p0)] [] (.d (eB r)) [] := by
  unfold ref06_Valid at h0
  refine CallAt.of Tryd.func29 rfl ?_
  refine SC.post (Q' := fun e s => ∃ s1, Wk _ s s1 ∧ Fin _ _ _ _ e s1) ?_ (fun _ _ h => h)
  refine SC.wk (s1 := ⟨mk 58 [(0, .d (eApiValue p0))], []⟩) (Wk.begin (n := 58) (Nat.le_of_ble_eq_true rfl)) ?_
  refine SC.seq ?_
  refine SC.region ?_
  refine SO.op (Wanted.free rfl) rfl (A_box (v := .d (eApiValue p0)) (σ' := [.box (.d (eApiValue p0))]) rfl rfl rfl rfl rfl) ?_
  refine SO.op (Wanted.free rfl) rfl (A_assign (v := .d (eB false)) rfl rfl) ?_
  refine SO.nil ?_
  change SC _ _ _ _ _
  refine SC.seq ?_
  refine SC.seq ?_
  refine SC.region ?_
  refine SO.op (Wanted.free rfl) rfl (A_fieldAddr rfl rfl (fa_ref fo35_0 ts3 rfl)) ?_
  refine SO.op (Wanted.free rfl) rfl (A_load (v := .d (eI p0.Kind)) rfl rfl (ld_box ts3 ta3 rfl rfl)) ?_
  refine SO.nil ?_
  change SC _ _ _ _ _
  refine SC.blk ?_
  refine SC.seq ?_
  refine SC.region ?_
  refine SO.op (Wanted.free rfl) rfl (A_bin (v := .d (eB (p0.Kind == (0 : Int)))) rfl rfl rfl (fun X Y => b_i64_eql _ X Y p0.Kind (0 : Int))) ?_
  refine SO.op (Wanted.free rfl) rfl (A_assign (v := .d (eB (p0.Kind == (0 : Int)))) rfl rfl) ?_
  refine SO.nil ?_
  change SC _ _ _ _ _
  refine SC.condB (t := (p0.Kind == (0 : Int))) rfl (fun hb33 => ?_) (fun hb33 => ?_)
  · replace h0 := ct hb33 h0
    refine SC.seqP h0 (fun y => ⟨mk 58 [(2, .d (eB y))], []⟩) ?_ ?_
    · intro u1_36 h1
      refine SC.region ?_
      refine SO.op (Wanted.free rfl) rfl (A_fieldAddr rfl rfl (fa_ref fo35_1 ts33 rfl)) ?_
      refine SO.op (Wanted.free rfl) rfl (A_load (v := .d (eU64 p0.N)) rfl rfl (ld_box ts33 ta33 rfl rfl)) ?_
      refine SO.op (Wanted.free rfl) rfl (A_bin (v := .d (eB (p0.N == (0 : UInt64)))) rfl rfl rfl (fun X Y => b_u64_eql _ X Y p0.N (0 : UInt64))) ?_
      refine SO.op (Wanted.free rfl) rfl (A_move (v := .d (eB (p0.N == (0 : UInt64)))) rfl rfl) ?_
      refine SO.split (fun hb37 => ?_) (fun hb37 => ?_)
      · replace h1 := ct hb37 h1
        refine SO.op (Wanted.by rfl rfl rfl rfl) rfl (A_fieldAddr rfl rfl (fa_ref fo35_2 ts9 rfl)) ?_
        refine SO.op (Wanted.by rfl rfl rfl rfl) rfl (A_load (v := .d (eS p0.S)) rfl rfl (ld_box ts9 ta9 rfl rfl)) ?_
        refine SO.op (Wanted.by rfl rfl rfl rfl) rfl (A_bin (v := .d (eB (p0.S == ([] : List UInt8)))) rfl rfl rfl (fun X Y => b_str_eql _ X Y p0.S ([] : List UInt8))) ?_
        refine SO.op (Wanted.free rfl) rfl (A_pickT (v := .d (eB (p0.S == ([] : List UInt8)))) rfl rfl rfl) ?_
        refine SO.op (Wanted.free rfl) rfl (A_assign (v := .d (eB (p0.S == ([] : List UInt8)))) rfl rfl) ?_
        refine SO.nil ?_
        have q := Option.some.inj h1; subst q
        exact (Wk.trans (Wk.env (e' := [(2, .d (eB (p0.S == ([] : List UInt8))))]) (EW.cons (AW.refl _) EW.nil)) (Wk.canon (ι := []) (roots := []) (os := []) (e' := [(2, .d (eB (p0.S == ([] : List UInt8))))]) rfl rfl rfl))
      · replace h1 := cf hb37 h1
        refine SO.skip (Wanted.by rfl rfl rfl rfl) rfl ?_
        refine SO.skip (Wanted.by rfl rfl rfl rfl) rfl ?_
        refine SO.skip (Wanted.by rfl rfl rfl rfl) rfl ?_
        refine SO.op (Wanted.free rfl) rfl (A_pickF (v := .d (eB false)) rfl rfl rfl) ?_
        refine SO.op (Wanted.free rfl) rfl (A_assign (v := .d (eB false)) rfl rfl) ?_
        refine SO.nil ?_
        have q := Option.some.inj h1; subst q
        exact (Wk.trans (Wk.env (e' := [(2, .d (eB false))]) (EW.cons (AW.refl _) EW.nil)) (Wk.canon (ι := []) (roots := []) (os := []) (e' := [(2, .d (eB false))]) rfl rfl rfl))
    · rintro y35 h0
      change SC _ _ _ ⟨mk 58 [(2, .d (eB y35))], []⟩ _
      refine SC.ret ?_
      have q := Option.some.inj h0; subst q
      exact finR (Wk.env (e' := [(2, .d (eB y35))]) (EW.cons (AW.refl _) EW.nil)) (lresT rfl lresN) rfl
  · replace h0 := cf hb33 h0
    refine SC.seqP h0 (fun y => ⟨mk 58 [(1, .ref 0 0 0), (4, .d (eI p0.Kind)), (15, .d (eB y))], [.box (.d (eApiValue p0))]⟩) ?_ ?_
    · intro u1_40 h1
      refine SC.seq ?_
      refine SC.region ?_
      refine SO.op (Wanted.free rfl) rfl (A_bin (v := .d (eB (p0.Kind == (1 : Int)))) rfl rfl rfl (fun X Y => b_i64_eql _ X Y p0.Kind (1 : Int))) ?_
      refine SO.op (Wanted.free rfl) rfl (A_assign (v := .d (eB (p0.Kind == (1 : Int)))) rfl rfl) ?_
      refine SO.nil ?_
      change SC _ _ _ _ _
      refine SC.condB (t := (p0.Kind == (1 : Int))) rfl (fun hb41 => ?_) (fun hb41 => ?_)
      · replace h1 := ct hb41 h1
        refine SC.skip ?_
        have q := Option.some.inj h1; subst q
        exact (Wk.env (e' := [(1, .ref 0 0 0), (4, .d (eI p0.Kind)), (15, .d (eB (p0.Kind == (1 : Int))))]) (EW.cons (AW.refl _) (EW.cons (AW.refl _) (EW.cons (AW.refl _) EW.nil))))
      · replace h1 := cf hb41 h1
        refine SC.region ?_
        refine SO.op (Wanted.free rfl) rfl (A_bin (v := .d (eB (p0.Kind == (2 : Int)))) rfl rfl rfl (fun X Y => b_i64_eql _ X Y p0.Kind (2 : Int))) ?_
        refine SO.op (Wanted.free rfl) rfl (A_assign (v := .d (eB (p0.Kind == (2 : Int)))) rfl rfl) ?_
        refine SO.nil ?_
        have q := Option.some.inj h1; subst q
        exact (Wk.env (e' := [(1, .ref 0 0 0), (4, .d (eI p0.Kind)), (15, .d (eB (p0.Kind == (2 : Int))))]) (EW.cons (AW.refl _) (EW.cons (AW.refl _) (EW.cons (AW.refl _) EW.nil))))
    · rintro y39 h0
      change SC _ _ _ ⟨mk 58 [(1, .ref 0 0 0), (4, .d (eI p0.Kind)), (15, .d (eB y39))], [.box (.d (eApiValue p0))]⟩ _
      refine SC.condB (t := y39) rfl (fun hb42 => ?_) (fun hb42 => ?_)
      · replace h0 := ct hb42 h0
        refine SC.seq ?_
        refine SC.region ?_
        refine SO.op (Wanted.free rfl) rfl (A_fieldAddr rfl rfl (fa_ref fo35_2 ts9 rfl)) ?_
        refine SO.op (Wanted.free rfl) rfl (A_load (v := .d (eS p0.S)) rfl rfl (ld_box ts9 ta9 rfl rfl)) ?_
        refine SO.op (Wanted.free rfl) rfl (A_bin (v := .d (eB (p0.S == ([] : List UInt8)))) rfl rfl rfl (fun X Y => b_str_eql _ X Y p0.S ([] : List UInt8))) ?_
        refine SO.op (Wanted.free rfl) rfl (A_assign (v := .d (eB (p0.S == ([] : List UInt8)))) rfl rfl) ?_
        refine SO.nil ?_
        change SC _ _ _ _ _
        refine SC.ret ?_
        have q := Option.some.inj h0; subst q
        exact finR (Wk.trans (Wk.env (e' := [(2, .d (eB (p0.S == ([] : List UInt8))))]) (EW.cons (AW.refl _) EW.nil)) (Wk.canon (ι := []) (roots := []) (os := []) (e' := [(2, .d (eB (p0.S == ([] : List UInt8))))]) rfl rfl rfl)) (lresT rfl lresN) rfl
      · replace h0 := cf hb42 h0
        refine SC.seq ?_
        refine SC.region ?_
        refine SO.op (Wanted.free rfl) rfl (A_bin (v := .d (eB (p0.Kind == (3 : Int)))) rfl rfl rfl (fun X Y => b_i64_eql _ X Y p0.Kind (3 : Int))) ?_
        refine SO.op (Wanted.free rfl) rfl (A_assign (v := .d (eB (p0.Kind == (3 : Int)))) rfl rfl) ?_
        refine SO.nil ?_
        change SC _ _ _ _ _
        refine SC.condB (t := (p0.Kind == (3 : Int))) rfl (fun hb43 => ?_) (fun hb43 => ?_)
        · replace h0 := ct hb43 h0
          refine SC.seqP h0 (fun y => ⟨mk 58 [(2, .d (eB y))], []⟩) ?_ ?_
          · intro u1_46 h1
            refine SC.region ?_
            refine SO.op (Wanted.free rfl) rfl (A_fieldAddr rfl rfl (fa_ref fo35_1 ts33 rfl)) ?_
            refine SO.op (Wanted.free rfl) rfl (A_load (v := .d (eU64 p0.N)) rfl rfl (ld_box ts33 ta33 rfl rfl)) ?_
            refine SO.op (Wanted.free rfl) rfl (A_bin (v := .d (eB (decide (p0.N < (2 : UInt64))))) rfl rfl rfl (fun X Y => b_u64_lss _ X Y p0.N (2 : UInt64))) ?_
            refine SO.op (Wanted.free rfl) rfl (A_move (v := .d (eB (decide (p0.N < (2 : UInt64))))) rfl rfl) ?_
            refine SO.split (fun hb47 => ?_) (fun hb47 => ?_)
            · replace h1 := ct hb47 h1
              refine SO.op (Wanted.by rfl rfl rfl rfl) rfl (A_fieldAddr rfl rfl (fa_ref fo35_2 ts9 rfl)) ?_
              refine SO.op (Wanted.by rfl rfl rfl rfl) rfl (A_load (v := .d (eS p0.S)) rfl rfl (ld_box ts9 ta9 rfl rfl)) ?_
              refine SO.op (Wanted.by rfl rfl rfl rfl) rfl (A_bin (v := .d (eB (p0.S == ([] : List UInt8)))) rfl rfl rfl (fun X Y => b_str_eql _ X Y p0.S ([] : List UInt8))) ?_
              refine SO.op (Wanted.free rfl) rfl (A_pickT (v := .d (eB (p0.S == ([] : List UInt8)))) rfl rfl rfl) ?_
              refine SO.op (Wanted.free rfl) rfl (A_assign (v := .d (eB (p0.S == ([] : List UInt8)))) rfl rfl) ?_
              refine SO.nil ?_
              have q := Option.some.inj h1; subst q
              exact (Wk.trans (Wk.env (e' := [(2, .d (eB (p0.S == ([] : List UInt8))))]) (EW.cons (AW.refl _) EW.nil)) (Wk.canon (ι := []) (roots := []) (os := []) (e' := [(2, .d (eB (p0.S == ([] : List UInt8))))]) rfl rfl rfl))
            · replace h1 := cf hb47 h1
              refine SO.skip (Wanted.by rfl rfl rfl rfl) rfl ?_
              refine SO.skip (Wanted.by rfl rfl rfl rfl) rfl ?_
              refine SO.skip (Wanted.by rfl rfl rfl rfl) rfl ?_
              refine SO.op (Wanted.free rfl) rfl (A_pickF (v := .d (eB false)) rfl rfl rfl) ?_
              refine SO.op (Wanted.free rfl) rfl (A_assign (v := .d (eB false)) rfl rfl) ?_
              refine SO.nil ?_
              have q := Option.some.inj h1; subst q
              exact (Wk.trans (Wk.env (e' := [(2, .d (eB false))]) (EW.cons (AW.refl _) EW.nil)) (Wk.canon (ι := []) (roots := []) (os := []) (e' := [(2, .d (eB false))]) rfl rfl rfl))
          · rintro y45 h0
            change SC _ _ _ ⟨mk 58 [(2, .d (eB y45))], []⟩ _
            refine SC.ret ?_
            have q := Option.some.inj h0; subst q
            exact finR (Wk.env (e' := [(2, .d (eB y45))]) (EW.cons (AW.refl _) EW.nil)) (lresT rfl lresN) rfl
        · replace h0 := cf hb43 h0
          refine SC.seq ?_
          refine SC.region ?_
          refine SO.op (Wanted.free rfl) rfl (A_bin (v := .d (eB (p0.Kind == (4 : Int)))) rfl rfl rfl (fun X Y => b_i64_eql _ X Y p0.Kind (4 : Int))) ?_
          refine SO.op (Wanted.free rfl) rfl (A_assign (v := .d (eB (p0.Kind == (4 : Int)))) rfl rfl) ?_
          refine SO.nil ?_
          change SC _ _ _ _ _
          refine SC.condB (t := (p0.Kind == (4 : Int))) rfl (fun hb48 => ?_) (fun hb48 => ?_)
          · replace h0 := ct hb48 h0
            refine SC.seqP h0 (fun y => ⟨mk 58 [(2, .d (eB y))], []⟩) ?_ ?_
            · intro u1_51 h1
              refine SC.region ?_
              refine SO.op (Wanted.free rfl) rfl (A_fieldAddr rfl rfl (fa_ref fo35_1 ts33 rfl)) ?_
              refine SO.op (Wanted.free rfl) rfl (A_load (v := .d (eU64 p0.N)) rfl rfl (ld_box ts33 ta33 rfl rfl)) ?_
              refine SO.op (Wanted.free rfl) rfl (A_bin (v := .d (eB (p0.N == (0 : UInt64)))) rfl rfl rfl (fun X Y => b_u64_eql _ X Y p0.N (0 : UInt64))) ?_
              refine SO.op (Wanted.free rfl) rfl (A_move (v := .d (eB (p0.N == (0 : UInt64)))) rfl rfl) ?_
              refine SO.split (fun hb52 => ?_) (fun hb52 => ?_)
              · replace h1 := ct hb52 h1
                refine SO.op (Wanted.by rfl rfl rfl rfl) rfl (A_fieldAddr rfl rfl (fa_ref fo35_2 ts9 rfl)) ?_
                refine SO.op (Wanted.by rfl rfl rfl rfl) rfl (A_load (v := .d (eS p0.S)) rfl rfl (ld_box ts9 ta9 rfl rfl)) ?_
                refine SO.op (Wanted.by rfl rfl rfl rfl) rfl (A_len (v := .d (eI (p0.S.length : Int))) rfl rfl rfl rfl (len_str un9)) ?_
                refine SO.op (Wanted.by rfl rfl rfl rfl) rfl (A_bin (v := .d (eB (decide ((p0.S.length : Int) ≤ (64 : Int))))) rfl rfl rfl (fun X Y => b_i64_leq _ X Y (p0.S.length : Int) (64 : Int))) ?_
                refine SO.op (Wanted.free rfl) rfl (A_pickT (v := .d (eB (decide ((p0.S.length : Int) ≤ (64 : Int))))) rfl rfl rfl) ?_
                refine SO.op (Wanted.free rfl) rfl (A_assign (v := .d (eB (decide ((p0.S.length : Int) ≤ (64 : Int))))) rfl rfl) ?_
                refine SO.nil ?_
                have q := Option.some.inj h1; subst q
                exact (Wk.trans (Wk.env (e' := [(2, .d (eB (decide ((p0.S.length : Int) ≤ (64 : Int)))))]) (EW.cons (AW.refl _) EW.nil)) (Wk.canon (ι := []) (roots := []) (os := []) (e' := [(2, .d (eB (decide ((p0.S.length : Int) ≤ (64 : Int)))))]) rfl rfl rfl))
              · replace h1 := cf hb52 h1
                refine SO.skip (Wanted.by rfl rfl rfl rfl) rfl ?_
                refine SO.skip (Wanted.by rfl rfl rfl rfl) rfl ?_
                refine SO.skip (Wanted.by rfl rfl rfl rfl) rfl ?_
                refine SO.skip (Wanted.by rfl rfl rfl rfl) rfl ?_
                refine SO.op (Wanted.free rfl) rfl (A_pickF (v := .d (eB false)) rfl rfl rfl) ?_
                refine SO.op (Wanted.free rfl) rfl (A_assign (v := .d (eB false)) rfl rfl) ?_
                refine SO.nil ?_
                have q := Option.some.inj h1; subst q
                exact (Wk.trans (Wk.env (e' := [(2, .d (eB false))]) (EW.cons (AW.refl _) EW.nil)) (Wk.canon (ι := []) (roots := []) (os := []) (e' := [(2, .d (eB false))]) rfl rfl rfl))
            · rintro y50 h0
              change SC _ _ _ ⟨mk 58 [(2, .d (eB y50))], []⟩ _
              refine SC.ret ?_
              have q := Option.some.inj h0; subst q
              exact finR (Wk.env (e' := [(2, .d (eB y50))]) (EW.cons (AW.refl _) EW.nil)) (lresT rfl lresN) rfl
          · replace h0 := cf hb48 h0
            refine SC.seq ?_
            refine SC.region ?_
            refine SO.op (Wanted.free rfl) rfl (A_bin (v := .d (eB (p0.Kind == (5 : Int)))) rfl rfl rfl (fun X Y => b_i64_eql _ X Y p0.Kind (5 : Int))) ?_
            refine SO.op (Wanted.free rfl) rfl (A_assign (v := .d (eB (p0.Kind == (5 : Int)))) rfl rfl) ?_
            refine SO.nil ?_
            change SC _ _ _ _ _
            refine SC.condB (t := (p0.Kind == (5 : Int))) rfl (fun hb53 => ?_) (fun hb53 => ?_)
            · replace h0 := ct hb53 h0
              refine SC.seqP h0 (fun y => ⟨mk 58 [(2, .d (eB y))], []⟩) ?_ ?_
              · intro u1_59 h1
                refine SC.region ?_
                refine SO.op (Wanted.free rfl) rfl (A_fieldAddr rfl rfl (fa_ref fo35_1 ts33 rfl)) ?_
                refine SO.op (Wanted.free rfl) rfl (A_load (v := .d (eU64 p0.N)) rfl rfl (ld_box ts33 ta33 rfl rfl)) ?_
                refine SO.op (Wanted.free rfl) rfl (A_bin (v := .d (eB (p0.N == (0 : UInt64)))) rfl rfl rfl (fun X Y => b_u64_eql _ X Y p0.N (0 : UInt64))) ?_
                refine SO.op (Wanted.free rfl) rfl (A_move (v := .d (eB (p0.N == (0 : UInt64)))) rfl rfl) ?_
                refine SO.split (fun hb60 => ?_) (fun hb60 => ?_)
                · replace h1 := ct hb60 h1
                  refine SO.op (Wanted.by rfl rfl rfl rfl) rfl (A_fieldAddr rfl rfl (fa_ref fo35_2 ts9 rfl)) ?_
                  refine SO.op (Wanted.by rfl rfl rfl rfl) rfl (A_load (v := .d (eS p0.S)) rfl rfl (ld_box ts9 ta9 rfl rfl)) ?_
                  refine SO.op (Wanted.by rfl rfl rfl rfl) rfl (A_len (v := .d (eI (p0.S.length : Int))) rfl rfl rfl rfl (len_str un9)) ?_
                  refine SO.op (Wanted.by rfl rfl rfl rfl) rfl (A_bin (v := .d (eB (decide ((p0.S.length : Int) ≤ (64 : Int))))) rfl rfl rfl (fun X Y => b_i64_leq _ X Y (p0.S.length : Int) (64 : Int))) ?_
                  refine SO.op (Wanted.free rfl) rfl (A_pickT (v := .d (eB (decide ((p0.S.length : Int) ≤ (64 : Int))))) rfl rfl rfl) ?_
                  refine SO.op (Wanted.free rfl) rfl (A_move (v := .d (eB (decide ((p0.S.length : Int) ≤ (64 : Int))))) rfl rfl) ?_
                  refine SO.split (fun hb61 => ?_) (fun hb61 => ?_)
                  · replace h1 := ct hb61 h1
                    refine SO.op (Wanted.by rfl rfl rfl rfl) rfl (A_fieldAddr rfl rfl (fa_ref fo35_2 ts9 rfl)) ?_
                    refine SO.op (Wanted.by rfl rfl rfl rfl) rfl (A_load (v := .d (eS p0.S)) rfl rfl (ld_box ts9 ta9 rfl rfl)) ?_
                    obtain ⟨r62, hq63, h1⟩ := ob h1
                    refine SO.call0 (r := .d (eB r62)) (Wanted.by rfl rfl rfl rfl) rfl rfl rfl rfl rfl cb44 rfl (fun _ => rfl) (fun _ => rfl) (ref06_utf8_ok p0.S _ hq63) ?_
                    refine SO.op (Wanted.free rfl) rfl (A_pickT (v := .d (eB r62)) rfl rfl rfl) ?_
                    refine SO.op (Wanted.free rfl) rfl (A_assign (v := .d (eB r62)) rfl rfl) ?_
                    refine SO.nil ?_
                    have q := Option.some.inj h1; subst q
                    exact (Wk.trans (Wk.env (e' := [(2, .d (eB r62))]) (EW.cons (AW.refl _) EW.nil)) (Wk.canon (ι := []) (roots := []) (os := []) (e' := [(2, .d (eB r62))]) rfl rfl rfl))
                  · replace h1 := cf hb61 h1
                    refine SO.skip (Wanted.by rfl rfl rfl rfl) rfl ?_
                    refine SO.skip (Wanted.by rfl rfl rfl rfl) rfl ?_
                    refine SO.skip (Wanted.by rfl rfl rfl rfl) rfl ?_
                    refine SO.op (Wanted.free rfl) rfl (A_pickF (v := .d (eB false)) rfl rfl rfl) ?_
                    refine SO.op (Wanted.free rfl) rfl (A_assign (v := .d (eB false)) rfl rfl) ?_
                    refine SO.nil ?_
                    have q := Option.some.inj h1; subst q
                    exact (Wk.trans (Wk.env (e' := [(2, .d (eB false))]) (EW.cons (AW.refl _) EW.nil)) (Wk.canon (ι := []) (roots := []) (os := []) (e' := [(2, .d (eB false))]) rfl rfl rfl))
                · replace h1 := cf hb60 h1
                  refine SO.skip (Wanted.by rfl rfl rfl rfl) rfl ?_
                  refine SO.skip (Wanted.by rfl rfl rfl rfl) rfl ?_
                  refine SO.skip (Wanted.by rfl rfl rfl rfl) rfl ?_
                  refine SO.skip (Wanted.by rfl rfl rfl rfl) rfl ?_
                  refine SO.op (Wanted.free rfl) rfl (A_pickF (v := .d (eB false)) rfl rfl rfl) ?_
                  refine SO.op (Wanted.free rfl) rfl (A_move (v := .d (eB false)) rfl rfl) ?_
                  refine SO.skip (Wanted.by rfl rfl rfl rfl) rfl ?_
                  refine SO.skip (Wanted.by rfl rfl rfl rfl) rfl ?_
                  refine SO.skip (Wanted.by rfl rfl rfl rfl) rfl ?_
                  refine SO.op (Wanted.free rfl) rfl (A_pickF (v := .d (eB false)) rfl rfl rfl) ?_
                  refine SO.op (Wanted.free rfl) rfl (A_assign (v := .d (eB false)) rfl rfl) ?_
                  refine SO.nil ?_
                  have q := Option.some.inj h1; subst q
                  exact (Wk.trans (Wk.env (e' := [(2, .d (eB false))]) (EW.cons (AW.refl _) EW.nil)) (Wk.canon (ι := []) (roots := []) (os := []) (e' := [(2, .d (eB false))]) rfl rfl rfl))
              · rintro y58 h0
                change SC _ _ _ ⟨mk 58 [(2, .d (eB y58))], []⟩ _
                refine SC.ret ?_
                have q := Option.some.inj h0; subst q
                exact finR (Wk.env (e' := [(2, .d (eB y58))]) (EW.cons (AW.refl _) EW.nil)) (lresT rfl lresN) rfl
            · replace h0 := cf hb53 h0
              refine SC.skip ?_
              change SC _ _ _ _ _
              refine SC.seq ?_
              refine SC.region ?_
              refine SO.op (Wanted.free rfl) rfl (A_assign (v := .d (eB false)) rfl rfl) ?_
              refine SO.nil ?_
              change SC _ _ _ _ _
              refine SC.ret ?_
              have q := Option.some.inj h0; subst q
              exact finR (Wk.trans (Wk.env (e' := [(2, .d (eB false))]) (EW.cons (AW.refl _) EW.nil)) (Wk.canon (ι := []) (roots := []) (os := []) (e' := [(2, .d (eB false))]) rfl rfl rfl)) (lresT rfl lresN) rfl

/-- (*granary/granaryref01.Out).Num -/
noncomputable def ref01_Out_Num (p0 : UInt64) (p1 : Int) : Option ((List UInt8)) :=
  Option.bind (α := (List UInt8))
    (loop (Y := Int × (List UInt8)) (W := (List UInt8)) (fun (y21, y22) =>
      bif (decide (y21 ≥ (0 : Int))) then
        bif decide (0 ≤ (w64 ((8 : Int) * y21))) then
        bif decide ((y22.length + [((shr64 p0 ((w64 ((8 : Int) * y21)).toNat)).toUInt8)].length) * 1 ≤ room) then
        some (Sum.inl ((w64 (y21 - (1 : Int))), (y22 ++ [((shr64 p0 ((w64 ((8 : Int) * y21)).toNat)).toUInt8)])))
        else none
        else none
      else
        some (Sum.inr y22)) ((w64 (p1 - (1 : Int))), ([] : List UInt8)))
    (fun e => some e)
theorem ref01_Out_Num_ok (p0 : UInt64) (p1 : Int) (r : (List UInt8)) (h0 : ref01_Out_Num p0 p1 = some r) : CallAt Tryd.prog 64 [.ref 0 0 0, .d (eU64 p0), .d (eI p1)] [.box (.d (.agg [.nils]))] (.tuple []) [.box (.agg [.slc 1 1 0 r.length none]), .row 1 (List.map eU8 r) true] := by
  unfold ref01_Out_Num at h0
  refine CallAt.of Tryd.func64 rfl ?_
  refine SC.post (Q' := fun e s => ∃ s1, Wk _ s s1 ∧ Fin _ _ _ _ e s1) ?_ (fun _ _ h => h)
  refine SC.wk (s1 := ⟨mk 27 [(0, .ref 0 0 0), (1, .d (eU64 p0)), (2, .d (eI p1))], [.box (.d (.agg [.nils]))]⟩) (Wk.begin (n := 27) (Nat.le_of_ble_eq_true rfl)) ?_
  refine SC.seq ?_
  refine SC.region ?_
  refine SO.op (Wanted.free rfl) rfl (A_move (v := .d (eI p1)) rfl rfl) ?_
  refine SO.op (Wanted.free rfl) rfl (A_bin (v := .d (eI (w64 (p1 - (1 : Int))))) rfl rfl rfl (fun X Y => b_i64_sub _ X Y p1 (1 : Int))) ?_
  refine SO.op (Wanted.free rfl) rfl (A_assign (v := .d (eI (w64 (p1 - (1 : Int))))) rfl rfl) ?_
  refine SO.nil ?_
  change SC _ _ _ _ _
  refine SC.blk ?_
  obtain ⟨u1_29, h1, h0⟩ := ob h0
  refine SC.loopB h1 (fun y => ⟨mk 27 [(0, .ref 0 0 0), (1, .d (eU64 p0)), (6, .d (eI y.1))], [.box (.agg [.slc 1 1 0 y.2.length none]), .row 1 (List.map eU8 y.2) true]⟩) (Wk.trans (Wk.pushE (σ' := [.box (.d (.agg [.nils])), .row 1 (List.map eU8 ([] : List UInt8)) true]) (.row 1 [] true) (fun _ hh => by cases hh) rfl) (Wk.trans (Wk.boxE (id := 0) (y := .agg [.slc 1 1 0 (([] : List UInt8).length) none]) (σ' := [.box (.agg [.slc 1 1 0 (([] : List UInt8).length) none]), .row 1 (List.map eU8 ([] : List UInt8)) true]) rfl (AWs.cons (AW.slcn _ _ _) AWs.nil) rfl) (Wk.env (e' := [(0, .ref 0 0 0), (1, .d (eU64 p0)), (6, .d (eI (w64 (p1 - (1 : Int)))))]) (EW.cons (AW.refl _) (EW.cons (AW.refl _) (EW.cons (AW.refl _) EW.nil)))))) ?_
  intro n33
  rintro ⟨y21, y22⟩ w1_28 h2 hv2
  change SC _ _ _ ⟨mk 27 [(0, .ref 0 0 0), (1, .d (eU64 p0)), (6, .d (eI y21))], [.box (.agg [.slc 1 1 0 y22.length none]), .row 1 (List.map eU8 y22) true]⟩ _
  refine SC.seq ?_
  refine SC.seq ?_
  refine SC.region ?_
  refine SO.op (Wanted.free rfl) rfl (A_move (v := .d (eI y21)) rfl rfl) ?_
  refine SO.op (Wanted.free rfl) rfl (A_bin (v := .d (eB (decide (y21 ≥ (0 : Int))))) rfl rfl rfl (fun X Y => b_i64_geq _ X Y y21 (0 : Int))) ?_
  refine SO.nil ?_
  change SC _ _ _ _ _
  refine SC.condB (t := (decide (y21 ≥ (0 : Int)))) rfl (fun hb30 => ?_) (fun hb30 => ?_)
  · replace h2 := ct hb30 h2
    refine SC.skip ?_
    change SC _ _ _ _ _
    refine SC.seq ?_
    refine SC.blk ?_
    refine SC.draws (by kernel_rfl) ?_
    refine ST.op (mk' := ([], false)) (Wanted.free rfl) rfl (A_move (v := .ref 0 0 0) rfl rfl) rfl ?_
    refine ST.op (mk' := ([], false)) (Wanted.free rfl) rfl (A_move (v := .ref 0 0 0) rfl rfl) rfl ?_
    refine ST.op (mk' := ([], false)) (Wanted.free rfl) rfl (A_nilRef rfl rfl) rfl ?_
    refine ST.op (mk' := ([], false)) (Wanted.free rfl) rfl (A_fieldAddr rfl rfl (fa_ref fo100_0 ts51 rfl)) rfl ?_
    refine ST.op (mk' := ([0], false)) (Wanted.free rfl) rfl (A_load (v := .slc 1 1 0 y22.length none) rfl rfl (ld_box ts51 ta51 rfl rfl)) rfl ?_
    refine ST.op (mk' := ([], false)) (Wanted.free rfl) rfl (A_move (v := .d (eU64 p0)) rfl rfl) rfl ?_
    refine ST.op (mk' := ([], false)) (Wanted.free rfl) rfl (A_move (v := .d (eI y21)) rfl rfl) rfl ?_
    refine ST.op (mk' := ([], false)) (Wanted.free rfl) rfl (A_bin (v := .d (eI (w64 ((8 : Int) * y21)))) rfl rfl rfl (fun X Y => b_i64_mul _ X Y (8 : Int) y21)) rfl ?_
    obtain ⟨hg31, h2⟩ := gd h2
    refine ST.op (mk' := ([], false)) (Wanted.free rfl) rfl (A_bin (v := .d (eU64 (shr64 p0 ((w64 ((8 : Int) * y21)).toNat)))) rfl rfl rfl (fun X Y => b_u64_shr _ X Y p0 _ hg31)) rfl ?_
    refine ST.op (mk' := ([], false)) (Wanted.free rfl) rfl (A_conv (v := .d (eU8 ((shr64 p0 ((w64 ((8 : Int) * y21)).toNat)).toUInt8))) rfl rfl (cv_u64_u8 un33 un5 (shr64 p0 ((w64 ((8 : Int) * y21)).toNat)))) rfl ?_
    refine ST.opW (mk' := ([2], true)) (v' := .slc 2 1 0 ([((shr64 p0 ((w64 ((8 : Int) * y21)).toNat)).toUInt8)].length) none) (Wanted.free rfl) rfl (A_buildSlice (v := .slc 2 1 0 1 (some 1)) (σ' := [.box (.agg [.slc 1 1 0 y22.length none]), .row 1 (List.map eU8 y22) true, .row 1 (List.map eU8 [((shr64 p0 ((w64 ((8 : Int) * y21)).toNat)).toUInt8)]) true]) rfl rfl (bsl un51 ei5 (by decide) rfl (by rfl) rfl rfl)) (AW.slcc rfl rfl) rfl ?_
    obtain ⟨hg32, h2⟩ := gd h2
    refine ST.op (mk' := ([1, 2, 3], true)) (Wanted.free rfl) rfl (A_append (v := .slc 3 1 0 ((y22 ++ [((shr64 p0 ((w64 ((8 : Int) * y21)).toNat)).toUInt8)]).length) none) (σ' := [.box (.agg [.slc 1 1 0 y22.length none]), .dead, .row 1 (List.map eU8 [((shr64 p0 ((w64 ((8 : Int) * y21)).toNat)).toUInt8)]) true, .row 1 (List.map eU8 (y22 ++ [((shr64 p0 ((w64 ((8 : Int) * y21)).toNat)).toUInt8)])) true]) rfl rfl rfl rfl rfl bc51 (ApFull (f := eU8) (xs := y22) (ys := [((shr64 p0 ((w64 ((8 : Int) * y21)).toNat)).toUInt8)]) rfl un51 ei5 rfl (el_full (xs := [((shr64 p0 ((w64 ((8 : Int) * y21)).toNat)).toUInt8)]) rfl) hg32 rfl rfl)) rfl ?_
    refine ST.op (mk' := ([], false)) (Wanted.free rfl) rfl (A_nilRef rfl rfl) rfl ?_
    refine ST.op (mk' := ([], false)) (Wanted.free rfl) rfl (A_fieldAddr rfl rfl (fa_ref fo100_0 ts51 rfl)) rfl ?_
    refine ST.op0 (mk' := ([0, 3], true)) (Wanted.free rfl) rfl (A_store (σ' := [.box (.agg [.slc 3 1 0 ((y22 ++ [((shr64 p0 ((w64 ((8 : Int) * y21)).toNat)).toUInt8)]).length) none]), .dead, .row 1 (List.map eU8 [((shr64 p0 ((w64 ((8 : Int) * y21)).toNat)).toUInt8)]) true, .row 1 (List.map eU8 (y22 ++ [((shr64 p0 ((w64 ((8 : Int) * y21)).toNat)).toUInt8)])) true]) rfl rfl rfl (st_box (zs := [.slc 3 1 0 ((y22 ++ [((shr64 p0 ((w64 ((8 : Int) * y21)).toNat)).toUInt8)]).length) none]) ts51 rfl rfl rfl rfl rfl (Nat.le_of_ble_eq_true rfl) rfl)) rfl ?_
    refine ST.nil (And.intro (by decide +kernel) ?_)
    change SC _ _ _ _ _
    refine SC.region ?_
    refine SO.op (Wanted.free rfl) rfl (A_move (v := .d (eI y21)) rfl rfl) ?_
    refine SO.op (Wanted.free rfl) rfl (A_bin (v := .d (eI (w64 (y21 - (1 : Int))))) rfl rfl rfl (fun X Y => b_i64_sub _ X Y y21 (1 : Int))) ?_
    refine SO.op (Wanted.free rfl) rfl (A_assign (v := .d (eI (w64 (y21 - (1 : Int))))) rfl rfl) ?_
    refine SO.nil ?_
    have q := Option.some.inj h2; subst q
    exact lf (Wk.trans (Wk.env (e' := [(0, .ref 0 0 0), (1, .d (eU64 p0)), (6, .d (eI (w64 (y21 - (1 : Int)))))]) (EW.cons (AW.refl _) (EW.cons (AW.refl _) (EW.cons (AW.refl _) EW.nil)))) (Wk.canon (ι := [0, 3]) (roots := [0, 0]) (os := [.box (.agg [.slc 1 1 0 ((y22 ++ [((shr64 p0 ((w64 ((8 : Int) * y21)).toNat)).toUInt8)]).length) none]), .row 1 (List.map eU8 (y22 ++ [((shr64 p0 ((w64 ((8 : Int) * y21)).toNat)).toUInt8)])) true]) (e' := [(0, .ref 0 0 0), (1, .d (eU64 p0)), (6, .d (eI (w64 (y21 - (1 : Int)))))]) rfl rfl rfl))
  · replace h2 := cf hb30 h2
    refine SC.exit ?_
    have q := Option.some.inj h2; subst q
    have q : _ = _ := hv2; subst q
    have q := Option.some.inj h0; subst q
    exact finN (Wk.env (e' := []) EW.nil) lresN rfl

/-- (*granary/granaryref01.Out).Num -/
noncomputable def ref01_Out_Num_1 (p0 : UInt64) (p1 : Int) (p2 : List UInt8) : Option ((List UInt8)) :=
  Option.bind (α := (List UInt8))
    (loop (Y := Int × (List UInt8)) (W := (List UInt8)) (fun (y21, y22) =>
      bif (decide (y21 ≥ (0 : Int))) then
        bif decide (0 ≤ (w64 ((8 : Int) * y21))) then
        bif decide ((y22.length + [((shr64 p0 ((w64 ((8 : Int) * y21)).toNat)).toUInt8)].length) * 1 ≤ room) then
        some (Sum.inl ((w64 (y21 - (1 : Int))), (y22 ++ [((shr64 p0 ((w64 ((8 : Int) * y21)).toNat)).toUInt8)])))
        else none
        else none
      else
        some (Sum.inr y22)) ((w64 (p1 - (1 : Int))), p2))
    (fun e => some e)
theorem ref01_Out_Num_1_ok (p0 : UInt64) (p1 : Int) (p2 : List UInt8) (r : (List UInt8)) (h0 : ref01_Out_Num_1 p0 p1 p2 = some r) : CallAt Tryd.prog 64 [.ref 0 0 0, .d (eU64 p0), .d (eI p1)] [.box (.agg [.slc 1 1 0 p2.length none]), .row 1 (List.map eU8 p2) true] (.tuple []) [.box (.agg [.slc 2 1 0 r.length none]), .dead, .row 1 (List.map eU8 r) true] := by
  unfold ref01_Out_Num_1 at h0
  refine CallAt.of Tryd.func64 rfl ?_
  refine SC.post (Q' := fun e s => ∃ s1, Wk _ s s1 ∧ Fin _ _ _ _ e s1) ?_ (fun _ _ h => h)
  refine SC.wk (s1 := ⟨mk 27 [(0, .ref 0 0 0), (1, .d (eU64 p0)), (2, .d (eI p1))], [.box (.agg [.slc 1 1 0 p2.length none]), .row 1 (List.map eU8 p2) true]⟩) (Wk.begin (n := 27) (Nat.le_of_ble_eq_true rfl)) ?_
  refine SC.seq ?_
  refine SC.region ?_
  refine SO.op (Wanted.free rfl) rfl (A_move (v := .d (eI p1)) rfl rfl) ?_
  refine SO.op (Wanted.free rfl) rfl (A_bin (v := .d (eI (w64 (p1 - (1 : Int))))) rfl rfl rfl (fun X Y => b_i64_sub _ X Y p1 (1 : Int))) ?_
  refine SO.op (Wanted.free rfl) rfl (A_assign (v := .d (eI (w64 (p1 - (1 : Int))))) rfl rfl) ?_
  refine SO.nil ?_
  change SC _ _ _ _ _
  refine SC.blk ?_
  obtain ⟨u1_29, h1, h0⟩ := ob h0
  refine SC.loopB h1 (fun y => ⟨mk 27 [(0, .ref 0 0 0), (1, .d (eU64 p0)), (6, .d (eI y.1))], [.box (.agg [.slc 2 1 0 y.2.length none]), .dead, .row 1 (List.map eU8 y.2) true]⟩) (Wk.trans (Wk.env (e' := [(0, .ref 0 0 0), (1, .d (eU64 p0)), (6, .d (eI (w64 (p1 - (1 : Int)))))]) (EW.cons (AW.refl _) (EW.cons (AW.refl _) (EW.cons (AW.refl _) EW.nil)))) (Wk.trans (Wk.move (e' := [(0, .ref 0 0 0), (1, .d (eU64 p0)), (6, .d (eI (w64 (p1 - (1 : Int)))))]) (os := [.box (.agg [.slc 2 1 0 p2.length none]), .row 1 (List.map eU8 p2) true]) (o := .row 1 (List.map eU8 p2) true) (σ' := [.box (.agg [.slc 2 1 0 p2.length none]), .dead, .row 1 (List.map eU8 p2) true]) 1 (Nat.le_of_ble_eq_true rfl) rfl rfl rfl rfl) (Wk.env (e' := [(0, .ref 0 0 0), (1, .d (eU64 p0)), (6, .d (eI (w64 (p1 - (1 : Int)))))]) (EW.cons (AW.refl _) (EW.cons (AW.refl _) (EW.cons (AW.refl _) EW.nil)))))) ?_
  intro n33
  rintro ⟨y21, y22⟩ w1_28 h2 hv2
  change SC _ _ _ ⟨mk 27 [(0, .ref 0 0 0), (1, .d (eU64 p0)), (6, .d (eI y21))], [.box (.agg [.slc 2 1 0 y22.length none]), .dead, .row 1 (List.map eU8 y22) true]⟩ _
  refine SC.seq ?_
  refine SC.seq ?_
  refine SC.region ?_
  refine SO.op (Wanted.free rfl) rfl (A_move (v := .d (eI y21)) rfl rfl) ?_
  refine SO.op (Wanted.free rfl) rfl (A_bin (v := .d (eB (decide (y21 ≥ (0 : Int))))) rfl rfl rfl (fun X Y => b_i64_geq _ X Y y21 (0 : Int))) ?_
  refine SO.nil ?_
  change SC _ _ _ _ _
  refine SC.condB (t := (decide (y21 ≥ (0 : Int)))) rfl (fun hb30 => ?_) (fun hb30 => ?_)
  · replace h2 := ct hb30 h2
    refine SC.skip ?_
    change SC _ _ _ _ _
    refine SC.seq ?_
    refine SC.blk ?_
    refine SC.draws (by kernel_rfl) ?_
    refine ST.op (mk' := ([], false)) (Wanted.free rfl) rfl (A_move (v := .ref 0 0 0) rfl rfl) rfl ?_
    refine ST.op (mk' := ([], false)) (Wanted.free rfl) rfl (A_move (v := .ref 0 0 0) rfl rfl) rfl ?_
    refine ST.op (mk' := ([], false)) (Wanted.free rfl) rfl (A_nilRef rfl rfl) rfl ?_
    refine ST.op (mk' := ([], false)) (Wanted.free rfl) rfl (A_fieldAddr rfl rfl (fa_ref fo100_0 ts51 rfl)) rfl ?_
    refine ST.op (mk' := ([0], false)) (Wanted.free rfl) rfl (A_load (v := .slc 2 1 0 y22.length none) rfl rfl (ld_box ts51 ta51 rfl rfl)) rfl ?_
    refine ST.op (mk' := ([], false)) (Wanted.free rfl) rfl (A_move (v := .d (eU64 p0)) rfl rfl) rfl ?_
    refine ST.op (mk' := ([], false)) (Wanted.free rfl) rfl (A_move (v := .d (eI y21)) rfl rfl) rfl ?_
    refine ST.op (mk' := ([], false)) (Wanted.free rfl) rfl (A_bin (v := .d (eI (w64 ((8 : Int) * y21)))) rfl rfl rfl (fun X Y => b_i64_mul _ X Y (8 : Int) y21)) rfl ?_
    obtain ⟨hg31, h2⟩ := gd h2
    refine ST.op (mk' := ([], false)) (Wanted.free rfl) rfl (A_bin (v := .d (eU64 (shr64 p0 ((w64 ((8 : Int) * y21)).toNat)))) rfl rfl rfl (fun X Y => b_u64_shr _ X Y p0 _ hg31)) rfl ?_
    refine ST.op (mk' := ([], false)) (Wanted.free rfl) rfl (A_conv (v := .d (eU8 ((shr64 p0 ((w64 ((8 : Int) * y21)).toNat)).toUInt8))) rfl rfl (cv_u64_u8 un33 un5 (shr64 p0 ((w64 ((8 : Int) * y21)).toNat)))) rfl ?_
    refine ST.opW (mk' := ([3], true)) (v' := .slc 3 1 0 ([((shr64 p0 ((w64 ((8 : Int) * y21)).toNat)).toUInt8)].length) none) (Wanted.free rfl) rfl (A_buildSlice (v := .slc 3 1 0 1 (some 1)) (σ' := [.box (.agg [.slc 2 1 0 y22.length none]), .dead, .row 1 (List.map eU8 y22) true, .row 1 (List.map eU8 [((shr64 p0 ((w64 ((8 : Int) * y21)).toNat)).toUInt8)]) true]) rfl rfl (bsl un51 ei5 (by decide) rfl (by rfl) rfl rfl)) (AW.slcc rfl rfl) rfl ?_
    obtain ⟨hg32, h2⟩ := gd h2
    refine ST.op (mk' := ([2, 3, 4], true)) (Wanted.free rfl) rfl (A_append (v := .slc 4 1 0 ((y22 ++ [((shr64 p0 ((w64 ((8 : Int) * y21)).toNat)).toUInt8)]).length) none) (σ' := [.box (.agg [.slc 2 1 0 y22.length none]), .dead, .dead, .row 1 (List.map eU8 [((shr64 p0 ((w64 ((8 : Int) * y21)).toNat)).toUInt8)]) true, .row 1 (List.map eU8 (y22 ++ [((shr64 p0 ((w64 ((8 : Int) * y21)).toNat)).toUInt8)])) true]) rfl rfl rfl rfl rfl bc51 (ApFull (f := eU8) (xs := y22) (ys := [((shr64 p0 ((w64 ((8 : Int) * y21)).toNat)).toUInt8)]) rfl un51 ei5 rfl (el_full (xs := [((shr64 p0 ((w64 ((8 : Int) * y21)).toNat)).toUInt8)]) rfl) hg32 rfl rfl)) rfl ?_
    refine ST.op (mk' := ([], false)) (Wanted.free rfl) rfl (A_nilRef rfl rfl) rfl ?_
    refine ST.op (mk' := ([], false)) (Wanted.free rfl) rfl (A_fieldAddr rfl rfl (fa_ref fo100_0 ts51 rfl)) rfl ?_
    refine ST.op0 (mk' := ([0, 4], true)) (Wanted.free rfl) rfl (A_store (σ' := [.box (.agg [.slc 4 1 0 ((y22 ++ [((shr64 p0 ((w64 ((8 : Int) * y21)).toNat)).toUInt8)]).length) none]), .dead, .dead, .row 1 (List.map eU8 [((shr64 p0 ((w64 ((8 : Int) * y21)).toNat)).toUInt8)]) true, .row 1 (List.map eU8 (y22 ++ [((shr64 p0 ((w64 ((8 : Int) * y21)).toNat)).toUInt8)])) true]) rfl rfl rfl (st_box (zs := [.slc 4 1 0 ((y22 ++ [((shr64 p0 ((w64 ((8 : Int) * y21)).toNat)).toUInt8)]).length) none]) ts51 rfl rfl rfl rfl rfl (Nat.le_of_ble_eq_true rfl) rfl)) rfl ?_
    refine ST.nil (And.intro (by decide +kernel) ?_)
    change SC _ _ _ _ _
    refine SC.region ?_
    refine SO.op (Wanted.free rfl) rfl (A_move (v := .d (eI y21)) rfl rfl) ?_
    refine SO.op (Wanted.free rfl) rfl (A_bin (v := .d (eI (w64 (y21 - (1 : Int))))) rfl rfl rfl (fun X Y => b_i64_sub _ X Y y21 (1 : Int))) ?_
    refine SO.op (Wanted.free rfl) rfl (A_assign (v := .d (eI (w64 (y21 - (1 : Int))))) rfl rfl) ?_
    refine SO.nil ?_
    have q := Option.some.inj h2; subst q
    exact lf (Wk.trans (Wk.env (e' := [(0, .ref 0 0 0), (1, .d (eU64 p0)), (6, .d (eI (w64 (y21 - (1 : Int)))))]) (EW.cons (AW.refl _) (EW.cons (AW.refl _) (EW.cons (AW.refl _) EW.nil)))) (Wk.trans (Wk.env (e' := [(0, .ref 0 0 0), (1, .d (eU64 p0)), (6, .d (eI (w64 (y21 - (1 : Int)))))]) (EW.cons (AW.refl _) (EW.cons (AW.refl _) (EW.cons (AW.refl _) EW.nil)))) (Wk.canon (ι := [0, 1, 4]) (roots := [0, 1, 0]) (os := [.box (.agg [.slc 2 1 0 ((y22 ++ [((shr64 p0 ((w64 ((8 : Int) * y21)).toNat)).toUInt8)]).length) none]), .dead, .row 1 (List.map eU8 (y22 ++ [((shr64 p0 ((w64 ((8 : Int) * y21)).toNat)).toUInt8)])) true]) (e' := [(0, .ref 0 0 0), (1, .d (eU64 p0)), (6, .d (eI (w64 (y21 - (1 : Int)))))]) rfl rfl rfl)))
  · replace h2 := cf hb30 h2
    refine SC.exit ?_
    have q := Option.some.inj h2; subst q
    have q : _ = _ := hv2; subst q
    have q := Option.some.inj h0; subst q
    exact finN (Wk.env (e' := []) EW.nil) lresN rfl

/-- granary/granaryref07.part -/
noncomputable def ref07_part (p0 : ApiValue) (p1 : Bool) : Option ((List UInt8) × Nat) :=
  Option.bind (α := (List UInt8))
    (bif (p0.Kind == (0 : Int)) then
      Option.bind (ref01_Out_Num (0 : UInt64) (1 : Int)) fun r351 =>
      some r351
    else
      Option.bind (ref01_Out_Num (1 : UInt64) (1 : Int)) fun r353 =>
      some r353)
    fun y348 =>
  Option.bind (α := (List UInt8))
    (bif (p0.Kind == (1 : Int)) then
      Option.bind (ref01_Out_Num_1 (p0.N ^^^ (9223372036854775808 : UInt64)) (8 : Int) y348) fun r492 =>
      some r492
    else
      bif (p0.Kind == (2 : Int)) then
        Option.bind (ref01_Out_Num_1 p0.N (8 : Int) y348) fun r495 =>
        some r495
      else
        bif (p0.Kind == (3 : Int)) then
          Option.bind (ref01_Out_Num_1 p0.N (1 : Int) y348) fun r498 =>
          some r498
        else
          Option.bind (α := Bool)
            (bif (p0.Kind == (4 : Int)) then
              some (p0.Kind == (4 : Int))
            else
              some (p0.Kind == (5 : Int)))
            fun y501 =>
          bif y501 then
            Option.bind (α := (List UInt8))
              (Option.bind (α := (List UInt8))
                (loop (Y := Int × (List UInt8)) (W := (List UInt8)) (fun (y582, y583) =>
                  bif (decide (y582 < (p0.S.length : Int))) then
                    Option.bind (α := (List UInt8))
                      (Option.bind (getI p0.S y582) fun v615 =>
                      Option.bind (ref01_Out_Num_1 (v615.toUInt64) (1 : Int) y583) fun r616 =>
                      Option.bind (getI p0.S y582) fun v618 =>
                      bif (v618 == (0 : UInt8)) then
                        Option.bind (ref01_Out_Num_1 (255 : UInt64) (1 : Int) r616) fun r620 =>
                        some r620
                      else
                        some r616)
                      fun y613 =>
                    some (Sum.inl ((w64 (y582 + (1 : Int))), y613))
                  else
                    some (Sum.inr y583)) ((0 : Int), y348))
                (fun e => some e))
              fun y563 =>
            Option.bind (ref01_Out_Num_1 (0 : UInt64) (2 : Int) y563) fun r623 =>
            some r623
          else
            some y348)
    fun y489 =>
  Option.bind (α := (List UInt8))
    (Option.bind (α := (List UInt8))
      (loop (Y := Int × (List UInt8)) (W := (List UInt8)) (fun (y662, y663) =>
        Option.bind (α := Bool)
          (bif (decide (y662 < (y489.length : Int))) then
            some p1
          else
            some false)
          fun y676 =>
        bif y676 then
          Option.bind (getS y663 0 y489.length y662) fun v680 =>
          Option.bind (getS y663 0 y489.length y662) fun v681 =>
          some (Sum.inl ((w64 (y662 + (1 : Int))), (List.set y663 y662.toNat ((255 : UInt8) - v680))))
        else
          some (Sum.inr y663)) ((0 : Int), y489))
      (fun e => some e))
    fun y653 =>
  some (y653, y489.length)
theorem ref07_part_ok (p0 : ApiValue) (p1 : Bool) (r : (List UInt8) × Nat) (h0 : ref07_part p0 p1 = some r) : CallAt Tryd.prog 45 [.d (eApiValue p0), .d (eB p1)] [] (.slc 0 1 0 r.2 none) [.row 1 (List.map eU8 r.1) true] := by
  unfold ref07_part at h0
  refine CallAt.of Tryd.func45 rfl ?_
  refine SC.post (Q' := fun e s => ∃ s1, Wk _ s s1 ∧ Fin _ _ _ _ e s1) ?_ (fun _ _ h => h)
  refine SC.wk (s1 := ⟨mk 94 [(0, .d (eApiValue p0)), (1, .d (eB p1))], []⟩) (Wk.begin (n := 94) (Nat.le_of_ble_eq_true rfl)) ?_
  refine SC.seq ?_
  refine SC.region ?_
  refine SO.op (Wanted.free rfl) rfl (A_box (v := .d (eApiValue p0)) (σ' := [.box (.d (eApiValue p0))]) rfl rfl rfl rfl rfl) ?_
  refine SO.op (Wanted.free rfl) rfl (A_assign (v := .d .nils) rfl rfl) ?_
  refine SO.nil ?_
  change SC _ _ _ _ _
  refine SC.seq ?_
  refine SC.region ?_
  refine SO.op (Wanted.free rfl) rfl (A_build (v := .d (.agg [.nils])) rfl rfl (bd100_ )) ?_
  refine SO.op (Wanted.free rfl) rfl (A_box (v := .d (.agg [.nils])) (σ' := [.box (.d (eApiValue p0)), .box (.d (.agg [.nils]))]) rfl rfl rfl rfl rfl) ?_
  refine SO.op (Wanted.free rfl) rfl (A_assign (v := .ref 1 0 0) rfl rfl) ?_
  refine SO.nil ?_
  change SC _ _ _ _ _
  refine SC.seqP h0 (fun y => ⟨mk 94 [(1, .d (eB p1)), (2, .ref 0 0 0), (5, .ref 1 0 0)], [.box (.d (eApiValue p0)), .box (.agg [.slc 2 1 0 y.length none]), .row 1 (List.map eU8 y) true]⟩) ?_ ?_
  · intro u1_349 h1
    refine SC.seq ?_
    refine SC.region ?_
    refine SO.op (Wanted.free rfl) rfl (A_fieldAddr rfl rfl (fa_ref fo35_0 ts3 rfl)) ?_
    refine SO.op (Wanted.free rfl) rfl (A_load (v := .d (eI p0.Kind)) rfl rfl (ld_box ts3 ta3 rfl rfl)) ?_
    refine SO.op (Wanted.free rfl) rfl (A_bin (v := .d (eB (p0.Kind == (0 : Int)))) rfl rfl rfl (fun X Y => b_i64_eql _ X Y p0.Kind (0 : Int))) ?_
    refine SO.nil ?_
    change SC _ _ _ _ _
    refine SC.condB (t := (p0.Kind == (0 : Int))) rfl (fun hb350 => ?_) (fun hb350 => ?_)
    · replace h1 := ct hb350 h1
      refine SC.region ?_
      refine SO.op (Wanted.free rfl) rfl (A_move (v := .ref 1 0 0) rfl rfl) ?_
      obtain ⟨r351, hq352, h1⟩ := ob h1
      refine SO.call (ι := [1]) (σc := [.box (.d (.agg [.nils]))]) (args' := [.ref 0 0 0, .d (eU64 (0 : UInt64)), .d (eI (1 : Int))]) (r' := .tuple []) (σ2 := [.box (.agg [.slc 1 1 0 r351.length none]), .row 1 (List.map eU8 r351) true]) (os := [.box (.agg [.slc 2 1 0 r351.length none]), .row 1 (List.map eU8 r351) true]) (r := .tuple []) (σ' := [.box (.d (eApiValue p0)), .box (.agg [.slc 2 1 0 r351.length none]), .row 1 (List.map eU8 r351) true]) (Wanted.free rfl) rfl rfl rfl rfl rfl cb64 rfl rfl (ref01_Out_Num_ok (0 : UInt64) (1 : Int) _ hq352) rfl rfl (Nat.le_of_ble_eq_true rfl) rfl ?_
      refine SO.nil ?_
      have q := Option.some.inj h1; subst q
      exact (Wk.env (e' := [(1, .d (eB p1)), (2, .ref 0 0 0), (5, .ref 1 0 0)]) (EW.cons (AW.refl _) (EW.cons (AW.refl _) (EW.cons (AW.refl _) EW.nil))))
    · replace h1 := cf hb350 h1
      refine SC.region ?_
      refine SO.op (Wanted.free rfl) rfl (A_move (v := .ref 1 0 0) rfl rfl) ?_
      obtain ⟨r353, hq354, h1⟩ := ob h1
      refine SO.call (ι := [1]) (σc := [.box (.d (.agg [.nils]))]) (args' := [.ref 0 0 0, .d (eU64 (1 : UInt64)), .d (eI (1 : Int))]) (r' := .tuple []) (σ2 := [.box (.agg [.slc 1 1 0 r353.length none]), .row 1 (List.map eU8 r353) true]) (os := [.box (.agg [.slc 2 1 0 r353.length none]), .row 1 (List.map eU8 r353) true]) (r := .tuple []) (σ' := [.box (.d (eApiValue p0)), .box (.agg [.slc 2 1 0 r353.length none]), .row 1 (List.map eU8 r353) true]) (Wanted.free rfl) rfl rfl rfl rfl rfl cb64 rfl rfl (ref01_Out_Num_ok (1 : UInt64) (1 : Int) _ hq354) rfl rfl (Nat.le_of_ble_eq_true rfl) rfl ?_
      refine SO.nil ?_
      have q := Option.some.inj h1; subst q
      exact (Wk.env (e' := [(1, .d (eB p1)), (2, .ref 0 0 0), (5, .ref 1 0 0)]) (EW.cons (AW.refl _) (EW.cons (AW.refl _) (EW.cons (AW.refl _) EW.nil))))
  · rintro y348 h0
    change SC _ _ _ ⟨mk 94 [(1, .d (eB p1)), (2, .ref 0 0 0), (5, .ref 1 0 0)], [.box (.d (eApiValue p0)), .box (.agg [.slc 2 1 0 y348.length none]), .row 1 (List.map eU8 y348) true]⟩ _
    refine SC.seqP h0 (fun y => ⟨mk 94 [(1, .d (eB p1)), (5, .ref 0 0 0)], [.box (.agg [.slc 1 1 0 y.length none]), .row 1 (List.map eU8 y) true]⟩) ?_ ?_
    · intro u1_490 h1
      refine SC.seq ?_
      refine SC.region ?_
      refine SO.op (Wanted.free rfl) rfl (A_fieldAddr rfl rfl (fa_ref fo35_0 ts3 rfl)) ?_
      refine SO.op (Wanted.free rfl) rfl (A_load (v := .d (eI p0.Kind)) rfl rfl (ld_box ts3 ta3 rfl rfl)) ?_
      refine SO.nil ?_
      change SC _ _ _ _ _
      refine SC.blk ?_
      refine SC.seq ?_
      refine SC.region ?_
      refine SO.op (Wanted.free rfl) rfl (A_bin (v := .d (eB (p0.Kind == (1 : Int)))) rfl rfl rfl (fun X Y => b_i64_eql _ X Y p0.Kind (1 : Int))) ?_
      refine SO.op (Wanted.free rfl) rfl (A_assign (v := .d (eB (p0.Kind == (1 : Int)))) rfl rfl) ?_
      refine SO.nil ?_
      change SC _ _ _ _ _
      refine SC.condB (t := (p0.Kind == (1 : Int))) rfl (fun hb491 => ?_) (fun hb491 => ?_)
      · replace h1 := ct hb491 h1
        refine SC.region ?_
        refine SO.op (Wanted.free rfl) rfl (A_move (v := .ref 1 0 0) rfl rfl) ?_
        refine SO.op (Wanted.free rfl) rfl (A_fieldAddr rfl rfl (fa_ref fo35_1 ts33 rfl)) ?_
        refine SO.op (Wanted.free rfl) rfl (A_load (v := .d (eU64 p0.N)) rfl rfl (ld_box ts33 ta33 rfl rfl)) ?_
        refine SO.op (Wanted.free rfl) rfl (A_bin (v := .d (eU64 (p0.N ^^^ (9223372036854775808 : UInt64)))) rfl rfl rfl (fun X Y => b_u64_xor _ X Y p0.N (9223372036854775808 : UInt64))) ?_
        obtain ⟨r492, hq493, h1⟩ := ob h1
        refine SO.call (ι := [1, 2]) (σc := [.box (.agg [.slc 1 1 0 y348.length none]), .row 1 (List.map eU8 y348) true]) (args' := [.ref 0 0 0, .d (eU64 (p0.N ^^^ (9223372036854775808 : UInt64))), .d (eI (8 : Int))]) (r' := .tuple []) (σ2 := [.box (.agg [.slc 2 1 0 r492.length none]), .dead, .row 1 (List.map eU8 r492) true]) (os := [.box (.agg [.slc 3 1 0 r492.length none]), .dead, .row 1 (List.map eU8 r492) true]) (r := .tuple []) (σ' := [.box (.d (eApiValue p0)), .box (.agg [.slc 3 1 0 r492.length none]), .dead, .row 1 (List.map eU8 r492) true]) (Wanted.free rfl) rfl rfl rfl rfl rfl cb64 rfl rfl (ref01_Out_Num_1_ok (p0.N ^^^ (9223372036854775808 : UInt64)) (8 : Int) y348 _ hq493) rfl rfl (Nat.le_of_ble_eq_true rfl) rfl ?_
        refine SO.nil ?_
        have q := Option.some.inj h1; subst q
        exact (Wk.trans (Wk.env (e' := [(1, .d (eB p1)), (5, .ref 1 0 0)]) (EW.cons (AW.refl _) (EW.cons (AW.refl _) EW.nil))) (Wk.canon (ι := [1, 3]) (roots := [1]) (os := [.box (.agg [.slc 1 1 0 r492.length none]), .row 1 (List.map eU8 r492) true]) (e' := [(1, .d (eB p1)), (5, .ref 0 0 0)]) rfl rfl rfl))
      · replace h1 := cf hb491 h1
        refine SC.seq ?_
        refine SC.region ?_
        refine SO.op (Wanted.free rfl) rfl (A_bin (v := .d (eB (p0.Kind == (2 : Int)))) rfl rfl rfl (fun X Y => b_i64_eql _ X Y p0.Kind (2 : Int))) ?_
        refine SO.op (Wanted.free rfl) rfl (A_assign (v := .d (eB (p0.Kind == (2 : Int)))) rfl rfl) ?_
        refine SO.nil ?_
        change SC _ _ _ _ _
        refine SC.condB (t := (p0.Kind == (2 : Int))) rfl (fun hb494 => ?_) (fun hb494 => ?_)
        · replace h1 := ct hb494 h1
          refine SC.region ?_
          refine SO.op (Wanted.free rfl) rfl (A_move (v := .ref 1 0 0) rfl rfl) ?_
          refine SO.op (Wanted.free rfl) rfl (A_fieldAddr rfl rfl (fa_ref fo35_1 ts33 rfl)) ?_
          refine SO.op (Wanted.free rfl) rfl (A_load (v := .d (eU64 p0.N)) rfl rfl (ld_box ts33 ta33 rfl rfl)) ?_
          obtain ⟨r495, hq496, h1⟩ := ob h1
          refine SO.call (ι := [1, 2]) (σc := [.box (.agg [.slc 1 1 0 y348.length none]), .row 1 (List.map eU8 y348) true]) (args' := [.ref 0 0 0, .d (eU64 p0.N), .d (eI (8 : Int))]) (r' := .tuple []) (σ2 := [.box (.agg [.slc 2 1 0 r495.length none]), .dead, .row 1 (List.map eU8 r495) true]) (os := [.box (.agg [.slc 3 1 0 r495.length none]), .dead, .row 1 (List.map eU8 r495) true]) (r := .tuple []) (σ' := [.box (.d (eApiValue p0)), .box (.agg [.slc 3 1 0 r495.length none]), .dead, .row 1 (List.map eU8 r495) true]) (Wanted.free rfl) rfl rfl rfl rfl rfl cb64 rfl rfl (ref01_Out_Num_1_ok p0.N (8 : Int) y348 _ hq496) rfl rfl (Nat.le_of_ble_eq_true rfl) rfl ?_
          refine SO.nil ?_
          have q := Option.some.inj h1; subst q
          exact (Wk.trans (Wk.env (e' := [(1, .d (eB p1)), (5, .ref 1 0 0)]) (EW.cons (AW.refl _) (EW.cons (AW.refl _) EW.nil))) (Wk.canon (ι := [1, 3]) (roots := [1]) (os := [.box (.agg [.slc 1 1 0 r495.length none]), .row 1 (List.map eU8 r495) true]) (e' := [(1, .d (eB p1)), (5, .ref 0 0 0)]) rfl rfl rfl))
        · replace h1 := cf hb494 h1
          refine SC.seq ?_
          refine SC.region ?_
          refine SO.op (Wanted.free rfl) rfl (A_bin (v := .d (eB (p0.Kind == (3 : Int)))) rfl rfl rfl (fun X Y => b_i64_eql _ X Y p0.Kind (3 : Int))) ?_
          refine SO.op (Wanted.free rfl) rfl (A_assign (v := .d (eB (p0.Kind == (3 : Int)))) rfl rfl) ?_
          refine SO.nil ?_
          change SC _ _ _ _ _
          refine SC.condB (t := (p0.Kind == (3 : Int))) rfl (fun hb497 => ?_) (fun hb497 => ?_)
          · replace h1 := ct hb497 h1
            refine SC.region ?_
            refine SO.op (Wanted.free rfl) rfl (A_move (v := .ref 1 0 0) rfl rfl) ?_
            refine SO.op (Wanted.free rfl) rfl (A_fieldAddr rfl rfl (fa_ref fo35_1 ts33 rfl)) ?_
            refine SO.op (Wanted.free rfl) rfl (A_load (v := .d (eU64 p0.N)) rfl rfl (ld_box ts33 ta33 rfl rfl)) ?_
            obtain ⟨r498, hq499, h1⟩ := ob h1
            refine SO.call (ι := [1, 2]) (σc := [.box (.agg [.slc 1 1 0 y348.length none]), .row 1 (List.map eU8 y348) true]) (args' := [.ref 0 0 0, .d (eU64 p0.N), .d (eI (1 : Int))]) (r' := .tuple []) (σ2 := [.box (.agg [.slc 2 1 0 r498.length none]), .dead, .row 1 (List.map eU8 r498) true]) (os := [.box (.agg [.slc 3 1 0 r498.length none]), .dead, .row 1 (List.map eU8 r498) true]) (r := .tuple []) (σ' := [.box (.d (eApiValue p0)), .box (.agg [.slc 3 1 0 r498.length none]), .dead, .row 1 (List.map eU8 r498) true]) (Wanted.free rfl) rfl rfl rfl rfl rfl cb64 rfl rfl (ref01_Out_Num_1_ok p0.N (1 : Int) y348 _ hq499) rfl rfl (Nat.le_of_ble_eq_true rfl) rfl ?_
            refine SO.nil ?_
            have q := Option.some.inj h1; subst q
            exact (Wk.trans (Wk.env (e' := [(1, .d (eB p1)), (5, .ref 1 0 0)]) (EW.cons (AW.refl _) (EW.cons (AW.refl _) EW.nil))) (Wk.canon (ι := [1, 3]) (roots := [1]) (os := [.box (.agg [.slc 1 1 0 r498.length none]), .row 1 (List.map eU8 r498) true]) (e' := [(1, .d (eB p1)), (5, .ref 0 0 0)]) rfl rfl rfl))
          · replace h1 := cf hb497 h1
            refine SC.seqP h1 (fun y => ⟨mk 94 [(1, .d (eB p1)), (2, .ref 0 0 0), (5, .ref 1 0 0), (38, .d (eB y))], [.box (.d (eApiValue p0)), .box (.agg [.slc 2 1 0 y348.length none]), .row 1 (List.map eU8 y348) true]⟩) ?_ ?_
            · intro u2_502 h2
              refine SC.seq ?_
              refine SC.region ?_
              refine SO.op (Wanted.free rfl) rfl (A_bin (v := .d (eB (p0.Kind == (4 : Int)))) rfl rfl rfl (fun X Y => b_i64_eql _ X Y p0.Kind (4 : Int))) ?_
              refine SO.op (Wanted.free rfl) rfl (A_assign (v := .d (eB (p0.Kind == (4 : Int)))) rfl rfl) ?_
              refine SO.nil ?_
              change SC _ _ _ _ _
              refine SC.condB (t := (p0.Kind == (4 : Int))) rfl (fun hb503 => ?_) (fun hb503 => ?_)
              · replace h2 := ct hb503 h2
                refine SC.skip ?_
                have q := Option.some.inj h2; subst q
                exact (Wk.env (e' := [(1, .d (eB p1)), (2, .ref 0 0 0), (5, .ref 1 0 0), (38, .d (eB (p0.Kind == (4 : Int))))]) (EW.cons (AW.refl _) (EW.cons (AW.refl _) (EW.cons (AW.refl _) (EW.cons (AW.refl _) EW.nil)))))
              · replace h2 := cf hb503 h2
                refine SC.region ?_
                refine SO.op (Wanted.free rfl) rfl (A_bin (v := .d (eB (p0.Kind == (5 : Int)))) rfl rfl rfl (fun X Y => b_i64_eql _ X Y p0.Kind (5 : Int))) ?_
                refine SO.op (Wanted.free rfl) rfl (A_assign (v := .d (eB (p0.Kind == (5 : Int)))) rfl rfl) ?_
                refine SO.nil ?_
                have q := Option.some.inj h2; subst q
                exact (Wk.env (e' := [(1, .d (eB p1)), (2, .ref 0 0 0), (5, .ref 1 0 0), (38, .d (eB (p0.Kind == (5 : Int))))]) (EW.cons (AW.refl _) (EW.cons (AW.refl _) (EW.cons (AW.refl _) (EW.cons (AW.refl _) EW.nil)))))
            · rintro y501 h1
              change SC _ _ _ ⟨mk 94 [(1, .d (eB p1)), (2, .ref 0 0 0), (5, .ref 1 0 0), (38, .d (eB y501))], [.box (.d (eApiValue p0)), .box (.agg [.slc 2 1 0 y348.length none]), .row 1 (List.map eU8 y348) true]⟩ _
              refine SC.condB (t := y501) rfl (fun hb504 => ?_) (fun hb504 => ?_)
              · replace h1 := ct hb504 h1
                refine SC.seqP h1 (fun y => ⟨mk 94 [(1, .d (eB p1)), (5, .ref 0 0 0)], [.box (.agg [.slc 1 1 0 y.length none]), .row 1 (List.map eU8 y) true]⟩) ?_ ?_
                · intro u2_564 h2
                  refine SC.seq ?_
                  refine SC.region ?_
                  refine SO.op (Wanted.free rfl) rfl (A_assign (v := .d (eI (0 : Int))) rfl rfl) ?_
                  refine SO.nil ?_
                  change SC _ _ _ _ _
                  refine SC.blk ?_
                  obtain ⟨u3_604, h3, h2⟩ := ob h2
                  refine SC.loopB h3 (fun y => ⟨mk 94 [(1, .d (eB p1)), (2, .ref 0 0 0), (5, .ref 1 0 0), (6, .d (eI y.1))], [.box (.d (eApiValue p0)), .box (.agg [.slc 2 1 0 y.2.length none]), .row 1 (List.map eU8 y.2) true]⟩) (Wk.env (e' := [(1, .d (eB p1)), (2, .ref 0 0 0), (5, .ref 1 0 0), (6, .d (eI (0 : Int)))]) (EW.cons (AW.refl _) (EW.cons (AW.refl _) (EW.cons (AW.refl _) (EW.cons (AW.refl _) EW.nil))))) ?_
                  intro n622
                  rintro ⟨y582, y583⟩ w3_603 h4 hv4
                  change SC _ _ _ ⟨mk 94 [(1, .d (eB p1)), (2, .ref 0 0 0), (5, .ref 1 0 0), (6, .d (eI y582))], [.box (.d (eApiValue p0)), .box (.agg [.slc 2 1 0 y583.length none]), .row 1 (List.map eU8 y583) true]⟩ _
                  refine SC.seq ?_
                  refine SC.seq ?_
                  refine SC.region ?_
                  refine SO.op (Wanted.free rfl) rfl (A_move (v := .d (eI y582)) rfl rfl) ?_
                  refine SO.op (Wanted.free rfl) rfl (A_fieldAddr rfl rfl (fa_ref fo35_2 ts9 rfl)) ?_
                  refine SO.op (Wanted.free rfl) rfl (A_load (v := .d (eS p0.S)) rfl rfl (ld_box ts9 ta9 rfl rfl)) ?_
                  refine SO.op (Wanted.free rfl) rfl (A_len (v := .d (eI (p0.S.length : Int))) rfl rfl rfl rfl (len_str un9)) ?_
                  refine SO.op (Wanted.free rfl) rfl (A_bin (v := .d (eB (decide (y582 < (p0.S.length : Int))))) rfl rfl rfl (fun X Y => b_i64_lss _ X Y y582 (p0.S.length : Int))) ?_
                  refine SO.nil ?_
                  change SC _ _ _ _ _
                  refine SC.condB (t := (decide (y582 < (p0.S.length : Int)))) rfl (fun hb605 => ?_) (fun hb605 => ?_)
                  · replace h4 := ct hb605 h4
                    refine SC.skip ?_
                    change SC _ _ _ _ _
                    refine SC.seqP h4 (fun y => ⟨mk 94 [(1, .d (eB p1)), (2, .ref 0 0 0), (5, .ref 1 0 0), (6, .d (eI y582))], [.box (.d (eApiValue p0)), .box (.agg [.slc 2 1 0 y.length none]), .row 1 (List.map eU8 y) true]⟩) ?_ ?_
                    · intro u5_614 h5
                      refine SC.blk ?_
                      refine SC.seq ?_
                      refine SC.region ?_
                      refine SO.op (Wanted.free rfl) rfl (A_move (v := .ref 1 0 0) rfl rfl) ?_
                      refine SO.op (Wanted.free rfl) rfl (A_fieldAddr rfl rfl (fa_ref fo35_2 ts9 rfl)) ?_
                      refine SO.op (Wanted.free rfl) rfl (A_load (v := .d (eS p0.S)) rfl rfl (ld_box ts9 ta9 rfl rfl)) ?_
                      refine SO.op (Wanted.free rfl) rfl (A_move (v := .d (eI y582)) rfl rfl) ?_
                      obtain ⟨v615, hv615, h5⟩ := ob h5
                      refine SO.op (Wanted.free rfl) rfl (A_index rfl rfl rfl rfl rfl (ix_str un9 (getI_some hv615).1 (getI_some hv615).2)) ?_
                      refine SO.op (Wanted.free rfl) rfl (A_conv (v := .d (eU64 (v615.toUInt64))) rfl rfl (cv_u8_u64 un5 un33 v615)) ?_
                      obtain ⟨r616, hq617, h5⟩ := ob h5
                      refine SO.call (ι := [1, 2]) (σc := [.box (.agg [.slc 1 1 0 y583.length none]), .row 1 (List.map eU8 y583) true]) (args' := [.ref 0 0 0, .d (eU64 (v615.toUInt64)), .d (eI (1 : Int))]) (r' := .tuple []) (σ2 := [.box (.agg [.slc 2 1 0 r616.length none]), .dead, .row 1 (List.map eU8 r616) true]) (os := [.box (.agg [.slc 3 1 0 r616.length none]), .dead, .row 1 (List.map eU8 r616) true]) (r := .tuple []) (σ' := [.box (.d (eApiValue p0)), .box (.agg [.slc 3 1 0 r616.length none]), .dead, .row 1 (List.map eU8 r616) true]) (Wanted.free rfl) rfl rfl rfl rfl rfl cb64 rfl rfl (ref01_Out_Num_1_ok (v615.toUInt64) (1 : Int) y583 _ hq617) rfl rfl (Nat.le_of_ble_eq_true rfl) rfl ?_
                      refine SO.nil ?_
                      change SC _ _ _ _ _
                      refine SC.seq ?_
                      refine SC.region ?_
                      refine SO.op (Wanted.free rfl) rfl (A_fieldAddr rfl rfl (fa_ref fo35_2 ts9 rfl)) ?_
                      refine SO.op (Wanted.free rfl) rfl (A_load (v := .d (eS p0.S)) rfl rfl (ld_box ts9 ta9 rfl rfl)) ?_
                      refine SO.op (Wanted.free rfl) rfl (A_move (v := .d (eI y582)) rfl rfl) ?_
                      obtain ⟨v618, hv618, h5⟩ := ob h5
                      refine SO.op (Wanted.free rfl) rfl (A_index rfl rfl rfl rfl rfl (ix_str un9 (getI_some hv618).1 (getI_some hv618).2)) ?_
                      refine SO.op (Wanted.free rfl) rfl (A_bin (v := .d (eB (v618 == (0 : UInt8)))) rfl rfl rfl (fun X Y => b_u8_eql _ X Y v618 (0 : UInt8))) ?_
                      refine SO.nil ?_
                      change SC _ _ _ _ _
                      refine SC.condB (t := (v618 == (0 : UInt8))) rfl (fun hb619 => ?_) (fun hb619 => ?_)
                      · replace h5 := ct hb619 h5
                        refine SC.region ?_
                        refine SO.op (Wanted.free rfl) rfl (A_move (v := .ref 1 0 0) rfl rfl) ?_
                        obtain ⟨r620, hq621, h5⟩ := ob h5
                        refine SO.call (ι := [1, 3]) (σc := [.box (.agg [.slc 1 1 0 r616.length none]), .row 1 (List.map eU8 r616) true]) (args' := [.ref 0 0 0, .d (eU64 (255 : UInt64)), .d (eI (1 : Int))]) (r' := .tuple []) (σ2 := [.box (.agg [.slc 2 1 0 r620.length none]), .dead, .row 1 (List.map eU8 r620) true]) (os := [.box (.agg [.slc 4 1 0 r620.length none]), .dead, .row 1 (List.map eU8 r620) true]) (r := .tuple []) (σ' := [.box (.d (eApiValue p0)), .box (.agg [.slc 4 1 0 r620.length none]), .dead, .dead, .row 1 (List.map eU8 r620) true]) (Wanted.free rfl) rfl rfl rfl rfl rfl cb64 rfl rfl (ref01_Out_Num_1_ok (255 : UInt64) (1 : Int) r616 _ hq621) rfl rfl (Nat.le_of_ble_eq_true rfl) rfl ?_
                        refine SO.nil ?_
                        have q := Option.some.inj h5; subst q
                        exact (Wk.trans (Wk.env (e' := [(1, .d (eB p1)), (2, .ref 0 0 0), (5, .ref 1 0 0), (6, .d (eI y582))]) (EW.cons (AW.refl _) (EW.cons (AW.refl _) (EW.cons (AW.refl _) (EW.cons (AW.refl _) EW.nil))))) (Wk.canon (ι := [0, 1, 4]) (roots := [0, 1]) (os := [.box (.d (eApiValue p0)), .box (.agg [.slc 2 1 0 r620.length none]), .row 1 (List.map eU8 r620) true]) (e' := [(1, .d (eB p1)), (2, .ref 0 0 0), (5, .ref 1 0 0), (6, .d (eI y582))]) rfl rfl rfl))
                      · replace h5 := cf hb619 h5
                        refine SC.skip ?_
                        have q := Option.some.inj h5; subst q
                        exact (Wk.trans (Wk.env (e' := [(1, .d (eB p1)), (2, .ref 0 0 0), (5, .ref 1 0 0), (6, .d (eI y582))]) (EW.cons (AW.refl _) (EW.cons (AW.refl _) (EW.cons (AW.refl _) (EW.cons (AW.refl _) EW.nil))))) (Wk.canon (ι := [0, 1, 3]) (roots := [0, 1]) (os := [.box (.d (eApiValue p0)), .box (.agg [.slc 2 1 0 r616.length none]), .row 1 (List.map eU8 r616) true]) (e' := [(1, .d (eB p1)), (2, .ref 0 0 0), (5, .ref 1 0 0), (6, .d (eI y582))]) rfl rfl rfl))
                    · rintro y613 h4
                      change SC _ _ _ ⟨mk 94 [(1, .d (eB p1)), (2, .ref 0 0 0), (5, .ref 1 0 0), (6, .d (eI y582))], [.box (.d (eApiValue p0)), .box (.agg [.slc 2 1 0 y613.length none]), .row 1 (List.map eU8 y613) true]⟩ _
                      refine SC.region ?_
                      refine SO.op (Wanted.free rfl) rfl (A_move (v := .d (eI y582)) rfl rfl) ?_
                      refine SO.op (Wanted.free rfl) rfl (A_bin (v := .d (eI (w64 (y582 + (1 : Int))))) rfl rfl rfl (fun X Y => b_i64_add _ X Y y582 (1 : Int))) ?_
                      refine SO.op (Wanted.free rfl) rfl (A_assign (v := .d (eI (w64 (y582 + (1 : Int))))) rfl rfl) ?_
                      refine SO.nil ?_
                      have q := Option.some.inj h4; subst q
                      exact lf (Wk.env (e' := [(1, .d (eB p1)), (2, .ref 0 0 0), (5, .ref 1 0 0), (6, .d (eI (w64 (y582 + (1 : Int)))))]) (EW.cons (AW.refl _) (EW.cons (AW.refl _) (EW.cons (AW.refl _) (EW.cons (AW.refl _) EW.nil)))))
                  · replace h4 := cf hb605 h4
                    refine SC.exit ?_
                    have q := Option.some.inj h4; subst q
                    have q : _ = _ := hv4; subst q
                    have q := Option.some.inj h2; subst q
                    exact (Wk.trans (Wk.env (e' := [(1, .d (eB p1)), (5, .ref 1 0 0)]) (EW.cons (AW.refl _) (EW.cons (AW.refl _) EW.nil))) (Wk.canon (ι := [1, 2]) (roots := [1]) (os := [.box (.agg [.slc 1 1 0 y583.length none]), .row 1 (List.map eU8 y583) true]) (e' := [(1, .d (eB p1)), (5, .ref 0 0 0)]) rfl rfl rfl))
                · rintro y563 h1
                  change SC _ _ _ ⟨mk 94 [(1, .d (eB p1)), (5, .ref 0 0 0)], [.box (.agg [.slc 1 1 0 y563.length none]), .row 1 (List.map eU8 y563) true]⟩ _
                  refine SC.region ?_
                  refine SO.op (Wanted.free rfl) rfl (A_move (v := .ref 0 0 0) rfl rfl) ?_
                  obtain ⟨r623, hq624, h1⟩ := ob h1
                  refine SO.call (ι := [0, 1]) (σc := [.box (.agg [.slc 1 1 0 y563.length none]), .row 1 (List.map eU8 y563) true]) (args' := [.ref 0 0 0, .d (eU64 (0 : UInt64)), .d (eI (2 : Int))]) (r' := .tuple []) (σ2 := [.box (.agg [.slc 2 1 0 r623.length none]), .dead, .row 1 (List.map eU8 r623) true]) (os := [.box (.agg [.slc 2 1 0 r623.length none]), .dead, .row 1 (List.map eU8 r623) true]) (r := .tuple []) (σ' := [.box (.agg [.slc 2 1 0 r623.length none]), .dead, .row 1 (List.map eU8 r623) true]) (Wanted.free rfl) rfl rfl rfl rfl rfl cb64 rfl rfl (ref01_Out_Num_1_ok (0 : UInt64) (2 : Int) y563 _ hq624) rfl rfl (Nat.le_of_ble_eq_true rfl) rfl ?_
                  refine SO.nil ?_
                  have q := Option.some.inj h1; subst q
                  exact (Wk.trans (Wk.env (e' := [(1, .d (eB p1)), (5, .ref 0 0 0)]) (EW.cons (AW.refl _) (EW.cons (AW.refl _) EW.nil))) (Wk.canon (ι := [0, 2]) (roots := [0]) (os := [.box (.agg [.slc 1 1 0 r623.length none]), .row 1 (List.map eU8 r623) true]) (e' := [(1, .d (eB p1)), (5, .ref 0 0 0)]) rfl rfl rfl))
              · replace h1 := cf hb504 h1
                refine SC.skip ?_
                have q := Option.some.inj h1; subst q
                exact (Wk.trans (Wk.env (e' := [(1, .d (eB p1)), (5, .ref 1 0 0)]) (EW.cons (AW.refl _) (EW.cons (AW.refl _) EW.nil))) (Wk.canon (ι := [1, 2]) (roots := [1]) (os := [.box (.agg [.slc 1 1 0 y348.length none]), .row 1 (List.map eU8 y348) true]) (e' := [(1, .d (eB p1)), (5, .ref 0 0 0)]) rfl rfl rfl))
    · rintro y489 h0
      change SC _ _ _ ⟨mk 94 [(1, .d (eB p1)), (5, .ref 0 0 0)], [.box (.agg [.slc 1 1 0 y489.length none]), .row 1 (List.map eU8 y489) true]⟩ _
      refine SC.seqP h0 (fun y => ⟨mk 94 [(5, .ref 0 0 0)], [.box (.agg [.slc 1 1 0 y489.length none]), .row 1 (List.map eU8 y) true]⟩) ?_ ?_
      · intro u1_654 h1
        refine SC.seq ?_
        refine SC.region ?_
        refine SO.op (Wanted.free rfl) rfl (A_assign (v := .d (eI (0 : Int))) rfl rfl) ?_
        refine SO.nil ?_
        change SC _ _ _ _ _
        refine SC.blk ?_
        obtain ⟨u2_674, h2, h1⟩ := ob h1
        refine SC.loopB h2 (fun y => ⟨mk 94 [(1, .d (eB p1)), (5, .ref 0 0 0), (7, .d (eI y.1))], [.box (.agg [.slc 1 1 0 y489.length none]), .row 1 (List.map eU8 y.2) true]⟩) (Wk.env (e' := [(1, .d (eB p1)), (5, .ref 0 0 0), (7, .d (eI (0 : Int)))]) (EW.cons (AW.refl _) (EW.cons (AW.refl _) (EW.cons (AW.refl _) EW.nil)))) ?_
        intro n682
        rintro ⟨y662, y663⟩ w2_673 h3 hv3
        change SC _ _ _ ⟨mk 94 [(1, .d (eB p1)), (5, .ref 0 0 0), (7, .d (eI y662))], [.box (.agg [.slc 1 1 0 y489.length none]), .row 1 (List.map eU8 y663) true]⟩ _
        refine SC.seq ?_
        refine SC.seqP h3 (fun y => ⟨mk 94 [(1, .d (eB p1)), (5, .ref 0 0 0), (7, .d (eI y662)), (73, .d (eB y))], [.box (.agg [.slc 1 1 0 y489.length none]), .row 1 (List.map eU8 y663) true]⟩) ?_ ?_
        · intro u4_677 h4
          refine SC.region ?_
          refine SO.op (Wanted.free rfl) rfl (A_move (v := .d (eI y662)) rfl rfl) ?_
          refine SO.op (Wanted.free rfl) rfl (A_move (v := .ref 0 0 0) rfl rfl) ?_
          refine SO.op (Wanted.free rfl) rfl (A_nilRef rfl rfl) ?_
          refine SO.op (Wanted.free rfl) rfl (A_fieldAddr rfl rfl (fa_ref fo100_0 ts51 rfl)) ?_
          refine SO.op (Wanted.free rfl) rfl (A_load (v := .slc 1 1 0 y489.length none) rfl rfl (ld_box ts51 ta51 rfl rfl)) ?_
          refine SO.op (Wanted.free rfl) rfl (A_len (v := .d (eI (y489.length : Int))) rfl rfl rfl rfl (len_slc un51)) ?_
          refine SO.op (Wanted.free rfl) rfl (A_bin (v := .d (eB (decide (y662 < (y489.length : Int))))) rfl rfl rfl (fun X Y => b_i64_lss _ X Y y662 (y489.length : Int))) ?_
          refine SO.op (Wanted.free rfl) rfl (A_move (v := .d (eB (decide (y662 < (y489.length : Int))))) rfl rfl) ?_
          refine SO.split (fun hb678 => ?_) (fun hb678 => ?_)
          · replace h4 := ct hb678 h4
            refine SO.op (Wanted.by rfl rfl rfl rfl) rfl (A_move (v := .d (eB p1)) rfl rfl) ?_
            refine SO.op (Wanted.free rfl) rfl (A_pickT (v := .d (eB p1)) rfl rfl rfl) ?_
            refine SO.nil ?_
            have q := Option.some.inj h4; subst q
            exact (Wk.env (e' := [(1, .d (eB p1)), (5, .ref 0 0 0), (7, .d (eI y662)), (73, .d (eB p1))]) (EW.cons (AW.refl _) (EW.cons (AW.refl _) (EW.cons (AW.refl _) (EW.cons (AW.refl _) EW.nil)))))
          · replace h4 := cf hb678 h4
            refine SO.skip (Wanted.by rfl rfl rfl rfl) rfl ?_
            refine SO.op (Wanted.free rfl) rfl (A_pickF (v := .d (eB false)) rfl rfl rfl) ?_
            refine SO.nil ?_
            have q := Option.some.inj h4; subst q
            exact (Wk.env (e' := [(1, .d (eB p1)), (5, .ref 0 0 0), (7, .d (eI y662)), (73, .d (eB false))]) (EW.cons (AW.refl _) (EW.cons (AW.refl _) (EW.cons (AW.refl _) (EW.cons (AW.refl _) EW.nil)))))
        · rintro y676 h3
          change SC _ _ _ ⟨mk 94 [(1, .d (eB p1)), (5, .ref 0 0 0), (7, .d (eI y662)), (73, .d (eB y676))], [.box (.agg [.slc 1 1 0 y489.length none]), .row 1 (List.map eU8 y663) true]⟩ _
          refine SC.condB (t := y676) rfl (fun hb679 => ?_) (fun hb679 => ?_)
          · replace h3 := ct hb679 h3
            refine SC.skip ?_
            change SC _ _ _ _ _
            refine SC.seq ?_
            refine SC.blk ?_
            refine SC.draws (by kernel_rfl) ?_
            refine ST.op (mk' := ([], false)) (Wanted.free rfl) rfl (A_move (v := .ref 0 0 0) rfl rfl) rfl ?_
            refine ST.op (mk' := ([], false)) (Wanted.free rfl) rfl (A_nilRef rfl rfl) rfl ?_
            refine ST.op (mk' := ([], false)) (Wanted.free rfl) rfl (A_fieldAddr rfl rfl (fa_ref fo100_0 ts51 rfl)) rfl ?_
            refine ST.op (mk' := ([0], false)) (Wanted.free rfl) rfl (A_load (v := .slc 1 1 0 y489.length none) rfl rfl (ld_box ts51 ta51 rfl rfl)) rfl ?_
            refine ST.op (mk' := ([], false)) (Wanted.free rfl) rfl (A_move (v := .d (eI y662)) rfl rfl) rfl ?_
            refine ST.op (mk' := ([], false)) (Wanted.free rfl) rfl (A_move (v := .ref 0 0 0) rfl rfl) rfl ?_
            refine ST.op (mk' := ([], false)) (Wanted.free rfl) rfl (A_nilRef rfl rfl) rfl ?_
            refine ST.op (mk' := ([], false)) (Wanted.free rfl) rfl (A_fieldAddr rfl rfl (fa_ref fo100_0 ts51 rfl)) rfl ?_
            refine ST.op (mk' := ([0], false)) (Wanted.free rfl) rfl (A_load (v := .slc 1 1 0 y489.length none) rfl rfl (ld_box ts51 ta51 rfl rfl)) rfl ?_
            refine ST.op (mk' := ([], false)) (Wanted.free rfl) rfl (A_move (v := .d (eI y662)) rfl rfl) rfl ?_
            obtain ⟨v680, hv680, h3⟩ := ob h3
            refine ST.opW (mk' := ([], false)) (v' := .ref 1 (y662.toNat) 0) (Wanted.free rfl) rfl (A_indexAddr (v := .ref 1 (0 + y662.toNat) 0) rfl rfl rfl (ia_slc un51 ts5 (getS_some hv680).1)) (AW.refz (by simp)) rfl ?_
            refine ST.op (mk' := ([1], false)) (Wanted.free rfl) rfl (A_load (v := .d (eU8 v680)) rfl rfl (ld_row ts5 ta5 rfl (map_get (by have q := (getS_some hv680).2; simpa using q)) rfl)) rfl ?_
            refine ST.op (mk' := ([], false)) (Wanted.free rfl) rfl (A_bin (v := .d (eU8 ((255 : UInt8) - v680))) rfl rfl rfl (fun X Y => b_u8_sub _ X Y (255 : UInt8) v680)) rfl ?_
            obtain ⟨v681, hv681, h3⟩ := ob h3
            refine ST.opW (mk' := ([], false)) (v' := .ref 1 (y662.toNat) 0) (Wanted.free rfl) rfl (A_indexAddr (v := .ref 1 (0 + y662.toNat) 0) rfl rfl rfl (ia_slc un51 ts5 (getS_some hv681).1)) (AW.refz (by simp)) rfl ?_
            refine ST.op0 (mk' := ([1], true)) (Wanted.free rfl) rfl (A_store (σ' := [.box (.agg [.slc 1 1 0 y489.length none]), .row 1 (List.map eU8 (List.set y663 y662.toNat ((255 : UInt8) - v680))) true]) rfl rfl rfl (st_row1 (f := eU8) (v := ((255 : UInt8) - v680)) ts5 rfl rfl rfl rfl (by have q := (getS_some hv681).2; simpa using q) rfl rfl)) rfl ?_
            refine ST.nil (And.intro (by decide +kernel) ?_)
            change SC _ _ _ _ _
            refine SC.region ?_
            refine SO.op (Wanted.free rfl) rfl (A_move (v := .d (eI y662)) rfl rfl) ?_
            refine SO.op (Wanted.free rfl) rfl (A_bin (v := .d (eI (w64 (y662 + (1 : Int))))) rfl rfl rfl (fun X Y => b_i64_add _ X Y y662 (1 : Int))) ?_
            refine SO.op (Wanted.free rfl) rfl (A_assign (v := .d (eI (w64 (y662 + (1 : Int))))) rfl rfl) ?_
            refine SO.nil ?_
            have q := Option.some.inj h3; subst q
            exact lf (Wk.env (e' := [(1, .d (eB p1)), (5, .ref 0 0 0), (7, .d (eI (w64 (y662 + (1 : Int)))))]) (EW.cons (AW.refl _) (EW.cons (AW.refl _) (EW.cons (AW.refl _) EW.nil))))
          · replace h3 := cf hb679 h3
            refine SC.exit ?_
            have q := Option.some.inj h3; subst q
            have q : _ = _ := hv3; subst q
            have q := Option.some.inj h1; subst q
            exact (Wk.env (e' := [(5, .ref 0 0 0)]) (EW.cons (AW.refl _) EW.nil))
      · rintro y653 h0
        change SC _ _ _ ⟨mk 94 [(5, .ref 0 0 0)], [.box (.agg [.slc 1 1 0 y489.length none]), .row 1 (List.map eU8 y653) true]⟩ _
        refine SC.seq ?_
        refine SC.region ?_
        refine SO.op (Wanted.free rfl) rfl (A_move (v := .ref 0 0 0) rfl rfl) ?_
        refine SO.op (Wanted.free rfl) rfl (A_nilRef rfl rfl) ?_
        refine SO.op (Wanted.free rfl) rfl (A_fieldAddr rfl rfl (fa_ref fo100_0 ts51 rfl)) ?_
        refine SO.op (Wanted.free rfl) rfl (A_load (v := .slc 1 1 0 y489.length none) rfl rfl (ld_box ts51 ta51 rfl rfl)) ?_
        refine SO.op (Wanted.free rfl) rfl (A_assign (v := .slc 1 1 0 y489.length none) rfl rfl) ?_
        refine SO.nil ?_
        change SC _ _ _ _ _
        refine SC.ret ?_
        have q := Option.some.inj h0; subst q
        exact finR (Wk.trans (Wk.env (e' := [(4, .slc 1 1 0 y489.length none)]) (EW.cons (AW.refl _) EW.nil)) (Wk.canon (ι := [1]) (roots := [1]) (os := [.row 1 (List.map eU8 y653) true]) (e' := [(4, .slc 0 1 0 y489.length none)]) rfl rfl rfl)) (lresT rfl lresN) rfl

/-- granary/granaryref07.Key -/
noncomputable def ref07_Key (p0 : List ApiValue) (p1 : List Bool) : Option ((List UInt8)) :=
  Option.bind (α := (List UInt8))
    (Option.bind (α := (List UInt8))
      (loop (Y := (List UInt8) × Int) (W := (List UInt8)) (fun (y107, y108) =>
        bif (decide (y108 < (p0.length : Int))) then
          Option.bind (getI p0 y108) fun v122 =>
          Option.bind (getI p1 y108) fun v123 =>
          Option.bind (ref07_part v122 v123) fun (r124, r125) =>
          bif decide (0 + r125 ≤ r124.length) then
          bif decide ((y107.length + (List.take r125 (List.drop 0 r124)).length) * 1 ≤ room) then
          some (Sum.inl ((y107 ++ (List.take r125 (List.drop 0 r124))), (w64 (y108 + (1 : Int)))))
          else none
          else none
        else
          some (Sum.inr y107)) (([] : List UInt8), (0 : Int)))
      (fun e => some e))
    fun y97 =>
  some y97
theorem ref07_Key_ok (p0 : List ApiValue) (p1 : List Bool) (r : (List UInt8)) (h0 : ref07_Key p0 p1 = some r) : CallAt Tryd.prog 30 [.d ((eL 3 eApiValue) p0), .d ((eL 1 eB) p1)] [] (.d (eS r)) [] := by
  unfold ref07_Key at h0
  refine CallAt.of Tryd.func30 rfl ?_
  refine SC.post (Q' := fun e s => ∃ s1, Wk _ s s1 ∧ Fin _ _ _ _ e s1) ?_ (fun _ _ h => h)
  refine SC.wk (s1 := ⟨mk 26 [(0, .d ((eL 3 eApiValue) p0)), (1, .d ((eL 1 eB) p1))], []⟩) (Wk.begin (n := 26) (Nat.le_of_ble_eq_true rfl)) ?_
  refine SC.seq ?_
  refine SC.region ?_
  refine SO.op (Wanted.free rfl) rfl (A_assign (v := .d (eS ([] : List UInt8))) rfl rfl) ?_
  refine SO.nil ?_
  change SC _ _ _ _ _
  refine SC.seq ?_
  refine SC.region ?_
  refine SO.op (Wanted.free rfl) rfl (A_assign (v := .d .nils) rfl rfl) ?_
  refine SO.nil ?_
  change SC _ _ _ _ _
  refine SC.seqP h0 (fun y => ⟨mk 26 [(5, .slc 0 1 0 y.length none)], [.row 1 (List.map eU8 y) true]⟩) ?_ ?_
  · intro u1_98 h1
    refine SC.seq ?_
    refine SC.region ?_
    refine SO.op (Wanted.free rfl) rfl (A_assign (v := .d (eI (0 : Int))) rfl rfl) ?_
    refine SO.nil ?_
    change SC _ _ _ _ _
    refine SC.blk ?_
    obtain ⟨u2_120, h2, h1⟩ := ob h1
    refine SC.loopB h2 (fun y => ⟨mk 26 [(0, .d ((eL 3 eApiValue) p0)), (1, .d ((eL 1 eB) p1)), (5, .slc 0 1 0 y.1.length none), (6, .d (eI y.2))], [.row 1 (List.map eU8 y.1) true]⟩) (Wk.trans (Wk.pushE (σ' := [.row 1 (List.map eU8 ([] : List UInt8)) true]) (.row 1 [] true) (fun _ hh => by cases hh) rfl) (Wk.trans (Wk.env (e' := [(0, .d ((eL 3 eApiValue) p0)), (1, .d ((eL 1 eB) p1)), (5, .slc 0 1 0 (([] : List UInt8).length) none), (6, .d (eI (0 : Int)))]) (EW.cons (AW.refl _) (EW.cons (AW.refl _) (EW.cons (AW.slcn _ _ _) (EW.cons (AW.refl _) EW.nil))))) (Wk.env (e' := [(0, .d ((eL 3 eApiValue) p0)), (1, .d ((eL 1 eB) p1)), (5, .slc 0 1 0 (([] : List UInt8).length) none), (6, .d (eI (0 : Int)))]) (EW.cons (AW.refl _) (EW.cons (AW.refl _) (EW.cons (AW.refl _) (EW.cons (AW.refl _) EW.nil))))))) ?_
    intro n129
    rintro ⟨y107, y108⟩ w2_119 h3 hv3
    change SC _ _ _ ⟨mk 26 [(0, .d ((eL 3 eApiValue) p0)), (1, .d ((eL 1 eB) p1)), (5, .slc 0 1 0 y107.length none), (6, .d (eI y108))], [.row 1 (List.map eU8 y107) true]⟩ _
    refine SC.seq ?_
    refine SC.seq ?_
    refine SC.region ?_
    refine SO.op (Wanted.free rfl) rfl (A_move (v := .d (eI y108)) rfl rfl) ?_
    refine SO.op (Wanted.free rfl) rfl (A_move (v := .d ((eL 3 eApiValue) p0)) rfl rfl) ?_
    refine SO.op (Wanted.free rfl) rfl (A_len (v := .d (eI (p0.length : Int))) rfl rfl rfl rfl (len_lst un22)) ?_
    refine SO.op (Wanted.free rfl) rfl (A_bin (v := .d (eB (decide (y108 < (p0.length : Int))))) rfl rfl rfl (fun X Y => b_i64_lss _ X Y y108 (p0.length : Int))) ?_
    refine SO.nil ?_
    change SC _ _ _ _ _
    refine SC.condB (t := (decide (y108 < (p0.length : Int)))) rfl (fun hb121 => ?_) (fun hb121 => ?_)
    · replace h3 := ct hb121 h3
      refine SC.skip ?_
      change SC _ _ _ _ _
      refine SC.seq ?_
      refine SC.blk ?_
      refine SC.draws (by kernel_rfl) ?_
      refine ST.op (mk' := ([], false)) (Wanted.free rfl) rfl (A_move (v := .slc 0 1 0 y107.length none) rfl rfl) rfl ?_
      refine ST.op (mk' := ([], false)) (Wanted.free rfl) rfl (A_move (v := .d ((eL 3 eApiValue) p0)) rfl rfl) rfl ?_
      refine ST.op (mk' := ([], false)) (Wanted.free rfl) rfl (A_move (v := .d (eI y108)) rfl rfl) rfl ?_
      obtain ⟨v122, hv122, h3⟩ := ob h3
      refine ST.op (mk' := ([], false)) (Wanted.free rfl) rfl (A_indexAddr (v := .rop [(eI v122.Kind), (eU64 v122.N), (eS v122.S)]) rfl rfl rfl (ia_lst un22 ts35 (getI_some hv122).1 (map_get (getI_some hv122).2))) rfl ?_
      refine ST.op (mk' := ([], false)) (Wanted.free rfl) rfl (A_load (v := .d (eApiValue v122)) rfl rfl (ld_rop ts35 ta35 rfl)) rfl ?_
      refine ST.op (mk' := ([], false)) (Wanted.free rfl) rfl (A_move (v := .d ((eL 1 eB) p1)) rfl rfl) rfl ?_
      refine ST.op (mk' := ([], false)) (Wanted.free rfl) rfl (A_move (v := .d (eI y108)) rfl rfl) rfl ?_
      obtain ⟨v123, hv123, h3⟩ := ob h3
      refine ST.op (mk' := ([], false)) (Wanted.free rfl) rfl (A_indexAddr (v := .rop [(eB v123)]) rfl rfl rfl (ia_lst un23 ts4 (getI_some hv123).1 (map_get (getI_some hv123).2))) rfl ?_
      refine ST.op (mk' := ([], false)) (Wanted.free rfl) rfl (A_load (v := .d (eB v123)) rfl rfl (ld_rop ts4 ta4 rfl)) rfl ?_
      obtain ⟨⟨r124, r125⟩, hq126, h3⟩ := ob h3
      refine ST.call (ι := []) (σc := []) (args' := [.d (eApiValue v122), .d (eB v123)]) (r' := .slc 0 1 0 r125 none) (σ2 := [.row 1 (List.map eU8 r124) true]) (os := [.row 1 (List.map eU8 r124) true]) (r := .slc 1 1 0 r125 none) (σ' := [.row 1 (List.map eU8 y107) true, .row 1 (List.map eU8 r124) true]) (mk' := ([1], true)) (Wanted.free rfl) rfl rfl rfl rfl rfl cb45 rfl rfl (ref07_part_ok v122 v123 _ hq126) rfl rfl (Nat.le_of_ble_eq_true rfl) rfl rfl ?_
      obtain ⟨hg127, h3⟩ := gd h3
      obtain ⟨hg128, h3⟩ := gd h3
      refine ST.op (mk' := ([0, 1, 2], true)) (Wanted.free rfl) rfl (A_append (v := .slc 2 1 0 ((y107 ++ (List.take r125 (List.drop 0 r124))).length) none) (σ' := [.dead, .row 1 (List.map eU8 r124) true, .row 1 (List.map eU8 (y107 ++ (List.take r125 (List.drop 0 r124)))) true]) rfl rfl rfl rfl rfl bc51 (ApFull (f := eU8) (xs := y107) (ys := (List.take r125 (List.drop 0 r124))) rfl un51 ei5 rfl (el_slc (xs := r124) rfl hg127) hg128 rfl rfl)) rfl ?_
      refine ST.op (mk' := ([], false)) (Wanted.free rfl) rfl (A_assign (v := .slc 2 1 0 ((y107 ++ (List.take r125 (List.drop 0 r124))).length) none) rfl rfl) rfl ?_
      refine ST.nil (And.intro (by decide +kernel) ?_)
      change SC _ _ _ _ _
      refine SC.region ?_
      refine SO.op (Wanted.free rfl) rfl (A_move (v := .d (eI y108)) rfl rfl) ?_
      refine SO.op (Wanted.free rfl) rfl (A_bin (v := .d (eI (w64 (y108 + (1 : Int))))) rfl rfl rfl (fun X Y => b_i64_add _ X Y y108 (1 : Int))) ?_
      refine SO.op (Wanted.free rfl) rfl (A_assign (v := .d (eI (w64 (y108 + (1 : Int))))) rfl rfl) ?_
      refine SO.nil ?_
      have q := Option.some.inj h3; subst q
      exact lf (Wk.trans (Wk.env (e' := [(0, .d ((eL 3 eApiValue) p0)), (1, .d ((eL 1 eB) p1)), (5, .slc 2 1 0 ((y107 ++ (List.take r125 (List.drop 0 r124))).length) none), (6, .d (eI (w64 (y108 + (1 : Int)))))]) (EW.cons (AW.refl _) (EW.cons (AW.refl _) (EW.cons (AW.refl _) (EW.cons (AW.refl _) EW.nil))))) (Wk.canon (ι := [2]) (roots := [2]) (os := [.row 1 (List.map eU8 (y107 ++ (List.take r125 (List.drop 0 r124)))) true]) (e' := [(0, .d ((eL 3 eApiValue) p0)), (1, .d ((eL 1 eB) p1)), (5, .slc 0 1 0 ((y107 ++ (List.take r125 (List.drop 0 r124))).length) none), (6, .d (eI (w64 (y108 + (1 : Int)))))]) rfl rfl rfl))
    · replace h3 := cf hb121 h3
      refine SC.exit ?_
      have q := Option.some.inj h3; subst q
      have q : _ = _ := hv3; subst q
      have q := Option.some.inj h1; subst q
      exact (Wk.env (e' := [(5, .slc 0 1 0 y107.length none)]) (EW.cons (AW.refl _) EW.nil))
  · rintro y97 h0
    change SC _ _ _ ⟨mk 26 [(5, .slc 0 1 0 y97.length none)], [.row 1 (List.map eU8 y97) true]⟩ _
    refine SC.seq ?_
    refine SC.region ?_
    refine SO.op (Wanted.free rfl) rfl (A_move (v := .slc 0 1 0 y97.length none) rfl rfl) ?_
    refine SO.op (Wanted.free rfl) rfl (A_conv (v := .d (eS y97)) rfl rfl (cv_bytes_str un51 un9 un5 (el_full (xs := y97) rfl) (fun _ hh => by cases hh))) ?_
    refine SO.op (Wanted.free rfl) rfl (A_assign (v := .d (eS y97)) rfl rfl) ?_
    refine SO.nil ?_
    change SC _ _ _ _ _
    refine SC.ret ?_
    have q := Option.some.inj h0; subst q
    exact finR (Wk.trans (Wk.env (e' := [(4, .d (eS y97))]) (EW.cons (AW.refl _) EW.nil)) (Wk.canon (ι := []) (roots := []) (os := []) (e' := [(4, .d (eS y97))]) rfl rfl rfl)) (lresT rfl lresN) rfl

/-- granary/granaryref07.Encode -/
noncomputable def ref07_Encode (p0 : List ApiValue) (p1 : List Bool) : Option ((List UInt8) × Int) :=
  bif ((p0.length : Int) != (p1.length : Int)) then
    some (([] : List UInt8), (1 : Int))
  else
    bindE (Y := Unit) (E := (List UInt8) × Int)
      (Option.bind (α := Unit ⊕ ((List UInt8) × Int))
        (loop (Y := Int) (W := Unit ⊕ ((List UInt8) × Int)) (fun y75 =>
          bif (decide (y75 < (p0.length : Int))) then
            Option.bind (getI p0 y75) fun v85 =>
            Option.bind (ref06_Valid v85) fun r86 =>
            bif (!r86) then
              some (Sum.inr (Sum.inr (([] : List UInt8), (8 : Int))))
            else
              some (Sum.inl (w64 (y75 + (1 : Int))))
          else
            some (Sum.inr (Sum.inl ()))) (0 : Int))
        (Sum.elim (fun e => some (Sum.inl e)) (fun e => some (Sum.inr e))))
      (fun _ =>
        Option.bind (ref07_Key p0 p1) fun r90 =>
        bif (decide ((r90.length : Int) > (256 : Int))) then
          some (([] : List UInt8), (7 : Int))
        else
          some (r90, (0 : Int)))
      (fun e => some e)
theorem ref07_Encode_ok (p0 : List ApiValue) (p1 : List Bool) (r : (List UInt8) × Int) (h0 : ref07_Encode p0 p1 = some r) : CallAt Tryd.prog 11 [.d ((eL 3 eApiValue) p0), .d ((eL 1 eB) p1)] [] (.tuple [.d (eS r.1), .d (eI r.2)]) [] := by
  unfold ref07_Encode at h0
  refine CallAt.of Tryd.func11 rfl ?_
  refine SC.post (Q' := fun e s => ∃ s1, Wk _ s s1 ∧ Fin _ _ _ _ e s1) ?_ (fun _ _ h => h)
  refine SC.wk (s1 := ⟨mk 32 [(0, .d ((eL 3 eApiValue) p0)), (1, .d ((eL 1 eB) p1))], []⟩) (Wk.begin (n := 32) (Nat.le_of_ble_eq_true rfl)) ?_
  refine SC.seq ?_
  refine SC.region ?_
  refine SO.op (Wanted.free rfl) rfl (A_assign (v := .d (eS ([] : List UInt8))) rfl rfl) ?_
  refine SO.op (Wanted.free rfl) rfl (A_assign (v := .d (eI (0 : Int))) rfl rfl) ?_
  refine SO.nil ?_
  change SC _ _ _ _ _
  refine SC.seq ?_
  refine SC.seq ?_
  refine SC.region ?_
  refine SO.op (Wanted.free rfl) rfl (A_move (v := .d ((eL 3 eApiValue) p0)) rfl rfl) ?_
  refine SO.op (Wanted.free rfl) rfl (A_len (v := .d (eI (p0.length : Int))) rfl rfl rfl rfl (len_lst un22)) ?_
  refine SO.op (Wanted.free rfl) rfl (A_move (v := .d ((eL 1 eB) p1)) rfl rfl) ?_
  refine SO.op (Wanted.free rfl) rfl (A_len (v := .d (eI (p1.length : Int))) rfl rfl rfl rfl (len_lst un23)) ?_
  refine SO.op (Wanted.free rfl) rfl (A_bin (v := .d (eB ((p0.length : Int) != (p1.length : Int)))) rfl rfl rfl (fun X Y => b_i64_neq _ X Y (p0.length : Int) (p1.length : Int))) ?_
  refine SO.nil ?_
  change SC _ _ _ _ _
  refine SC.condB (t := ((p0.length : Int) != (p1.length : Int))) rfl (fun hb48 => ?_) (fun hb48 => ?_)
  · replace h0 := ct hb48 h0
    refine SC.seq ?_
    refine SC.region ?_
    refine SO.op (Wanted.free rfl) rfl (A_assign (v := .d (eS ([] : List UInt8))) rfl rfl) ?_
    refine SO.op (Wanted.free rfl) rfl (A_assign (v := .d (eI (1 : Int))) rfl rfl) ?_
    refine SO.nil ?_
    change SC _ _ _ _ _
    refine SC.ret ?_
    have q := Option.some.inj h0; subst q
    exact finR (Wk.env (e' := [(4, .d (eS ([] : List UInt8))), (5, .d (eI (1 : Int)))]) (EW.cons (AW.refl _) (EW.cons (AW.refl _) EW.nil))) (lresT rfl (lresT rfl lresN)) rfl
  · replace h0 := cf hb48 h0
    refine SC.skip ?_
    change SC _ _ _ _ _
    refine SC.seqB h0 (fun y => ⟨mk 32 [(0, .d ((eL 3 eApiValue) p0)), (1, .d ((eL 1 eB) p1))], []⟩) ?_ ?_
    · intro u1_69 h1 h0
      refine SC.seq ?_
      refine SC.region ?_
      refine SO.op (Wanted.free rfl) rfl (A_assign (v := .d (eI (0 : Int))) rfl rfl) ?_
      refine SO.nil ?_
      change SC _ _ _ _ _
      refine SC.blk ?_
      obtain ⟨u2_83, h2, h1⟩ := ob h1
      refine SC.loopB h2 (fun y => ⟨mk 32 [(0, .d ((eL 3 eApiValue) p0)), (1, .d ((eL 1 eB) p1)), (6, .d (eI y))], []⟩) (Wk.env (e' := [(0, .d ((eL 3 eApiValue) p0)), (1, .d ((eL 1 eB) p1)), (6, .d (eI (0 : Int)))]) (EW.cons (AW.refl _) (EW.cons (AW.refl _) (EW.cons (AW.refl _) EW.nil)))) ?_
      intro n89
      rintro y75 w2_82 h3 hv3
      change SC _ _ _ ⟨mk 32 [(0, .d ((eL 3 eApiValue) p0)), (1, .d ((eL 1 eB) p1)), (6, .d (eI y75))], []⟩ _
      refine SC.seq ?_
      refine SC.seq ?_
      refine SC.region ?_
      refine SO.op (Wanted.free rfl) rfl (A_move (v := .d (eI y75)) rfl rfl) ?_
      refine SO.op (Wanted.free rfl) rfl (A_move (v := .d ((eL 3 eApiValue) p0)) rfl rfl) ?_
      refine SO.op (Wanted.free rfl) rfl (A_len (v := .d (eI (p0.length : Int))) rfl rfl rfl rfl (len_lst un22)) ?_
      refine SO.op (Wanted.free rfl) rfl (A_bin (v := .d (eB (decide (y75 < (p0.length : Int))))) rfl rfl rfl (fun X Y => b_i64_lss _ X Y y75 (p0.length : Int))) ?_
      refine SO.nil ?_
      change SC _ _ _ _ _
      refine SC.condB (t := (decide (y75 < (p0.length : Int)))) rfl (fun hb84 => ?_) (fun hb84 => ?_)
      · replace h3 := ct hb84 h3
        refine SC.skip ?_
        change SC _ _ _ _ _
        refine SC.seq ?_
        refine SC.blk ?_
        refine SC.seq ?_
        refine SC.region ?_
        refine SO.op (Wanted.free rfl) rfl (A_move (v := .d ((eL 3 eApiValue) p0)) rfl rfl) ?_
        refine SO.op (Wanted.free rfl) rfl (A_move (v := .d (eI y75)) rfl rfl) ?_
        obtain ⟨v85, hv85, h3⟩ := ob h3
        refine SO.op (Wanted.free rfl) rfl (A_indexAddr (v := .rop [(eI v85.Kind), (eU64 v85.N), (eS v85.S)]) rfl rfl rfl (ia_lst un22 ts35 (getI_some hv85).1 (map_get (getI_some hv85).2))) ?_
        refine SO.op (Wanted.free rfl) rfl (A_load (v := .d (eApiValue v85)) rfl rfl (ld_rop ts35 ta35 rfl)) ?_
        obtain ⟨r86, hq87, h3⟩ := ob h3
        refine SO.call0 (r := .d (eB r86)) (Wanted.free rfl) rfl rfl rfl rfl rfl cb29 rfl (fun _ => rfl) (fun _ => rfl) (ref06_Valid_ok v85 _ hq87) ?_
        refine SO.op (Wanted.free rfl) rfl (A_un (v := .d (eB (!r86))) rfl rfl rfl rfl) ?_
        refine SO.nil ?_
        change SC _ _ _ _ _
        refine SC.condB (t := (!r86)) rfl (fun hb88 => ?_) (fun hb88 => ?_)
        · replace h3 := ct hb88 h3
          refine SC.seq ?_
          refine SC.region ?_
          refine SO.op (Wanted.free rfl) rfl (A_assign (v := .d (eS ([] : List UInt8))) rfl rfl) ?_
          refine SO.op (Wanted.free rfl) rfl (A_assign (v := .d (eI (8 : Int))) rfl rfl) ?_
          refine SO.nil ?_
          change SC _ _ _ _ _
          refine SC.ret ?_
          have q := Option.some.inj h3; subst q
          have q : _ = _ := hv3; subst q
          have q := Option.some.inj h1; subst q
          have q := Option.some.inj h0; subst q
          exact finR (Wk.env (e' := [(4, .d (eS ([] : List UInt8))), (5, .d (eI (8 : Int)))]) (EW.cons (AW.refl _) (EW.cons (AW.refl _) EW.nil))) (lresT rfl (lresT rfl lresN)) rfl
        · replace h3 := cf hb88 h3
          refine SC.skip ?_
          change SC _ _ _ _ _
          refine SC.region ?_
          refine SO.op (Wanted.free rfl) rfl (A_move (v := .d (eI y75)) rfl rfl) ?_
          refine SO.op (Wanted.free rfl) rfl (A_bin (v := .d (eI (w64 (y75 + (1 : Int))))) rfl rfl rfl (fun X Y => b_i64_add _ X Y y75 (1 : Int))) ?_
          refine SO.op (Wanted.free rfl) rfl (A_assign (v := .d (eI (w64 (y75 + (1 : Int))))) rfl rfl) ?_
          refine SO.nil ?_
          have q := Option.some.inj h3; subst q
          exact lf (Wk.env (e' := [(0, .d ((eL 3 eApiValue) p0)), (1, .d ((eL 1 eB) p1)), (6, .d (eI (w64 (y75 + (1 : Int)))))]) (EW.cons (AW.refl _) (EW.cons (AW.refl _) (EW.cons (AW.refl _) EW.nil))))
      · replace h3 := cf hb84 h3
        refine SC.exit ?_
        have q := Option.some.inj h3; subst q
        have q : _ = _ := hv3; subst q
        have q := Option.some.inj h1; subst q
        exact lf (Wk.env (e' := [(0, .d ((eL 3 eApiValue) p0)), (1, .d ((eL 1 eB) p1))]) (EW.cons (AW.refl _) (EW.cons (AW.refl _) EW.nil)))
    · intro _ h0
      change SC _ _ _ ⟨mk 32 [(0, .d ((eL 3 eApiValue) p0)), (1, .d ((eL 1 eB) p1))], []⟩ _
      refine SC.seq ?_
      refine SC.region ?_
      refine SO.op (Wanted.free rfl) rfl (A_move (v := .d ((eL 3 eApiValue) p0)) rfl rfl) ?_
      refine SO.op (Wanted.free rfl) rfl (A_move (v := .d ((eL 1 eB) p1)) rfl rfl) ?_
      obtain ⟨r90, hq91, h0⟩ := ob h0
      refine SO.call0 (r := .d (eS r90)) (Wanted.free rfl) rfl rfl rfl rfl rfl cb30 rfl (fun _ => rfl) (fun _ => rfl) (ref07_Key_ok p0 p1 _ hq91) ?_
      refine SO.op (Wanted.free rfl) rfl (A_assign (v := .d (eS r90)) rfl rfl) ?_
      refine SO.nil ?_
      change SC _ _ _ _ _
      refine SC.seq ?_
      refine SC.seq ?_
      refine SC.region ?_
      refine SO.op (Wanted.free rfl) rfl (A_move (v := .d (eS r90)) rfl rfl) ?_
      refine SO.op (Wanted.free rfl) rfl (A_len (v := .d (eI (r90.length : Int))) rfl rfl rfl rfl (len_str un9)) ?_
      refine SO.op (Wanted.free rfl) rfl (A_bin (v := .d (eB (decide ((r90.length : Int) > (256 : Int))))) rfl rfl rfl (fun X Y => b_i64_gtr _ X Y (r90.length : Int) (256 : Int))) ?_
      refine SO.nil ?_
      change SC _ _ _ _ _
      refine SC.condB (t := (decide ((r90.length : Int) > (256 : Int)))) rfl (fun hb92 => ?_) (fun hb92 => ?_)
      · replace h0 := ct hb92 h0
        refine SC.seq ?_
        refine SC.region ?_
        refine SO.op (Wanted.free rfl) rfl (A_assign (v := .d (eS ([] : List UInt8))) rfl rfl) ?_
        refine SO.op (Wanted.free rfl) rfl (A_assign (v := .d (eI (7 : Int))) rfl rfl) ?_
        refine SO.nil ?_
        change SC _ _ _ _ _
        refine SC.ret ?_
        have q := Option.some.inj h0; subst q
        exact finR (Wk.env (e' := [(4, .d (eS ([] : List UInt8))), (5, .d (eI (7 : Int)))]) (EW.cons (AW.refl _) (EW.cons (AW.refl _) EW.nil))) (lresT rfl (lresT rfl lresN)) rfl
      · replace h0 := cf hb92 h0
        refine SC.skip ?_
        change SC _ _ _ _ _
        refine SC.seq ?_
        refine SC.region ?_
        refine SO.op (Wanted.free rfl) rfl (A_move (v := .d (eS r90)) rfl rfl) ?_
        refine SO.op (Wanted.free rfl) rfl (A_assign (v := .d (eS r90)) rfl rfl) ?_
        refine SO.op (Wanted.free rfl) rfl (A_assign (v := .d (eI (0 : Int))) rfl rfl) ?_
        refine SO.nil ?_
        change SC _ _ _ _ _
        refine SC.ret ?_
        have q := Option.some.inj h0; subst q
        exact finR (Wk.env (e' := [(4, .d (eS r90)), (5, .d (eI (0 : Int)))]) (EW.cons (AW.refl _) (EW.cons (AW.refl _) EW.nil))) (lresT rfl (lresT rfl lresN)) rfl

/-- granary/key.Decode$1 -/
noncomputable def key_Decode_1 (p0 : Int) : Option Bool :=
  Option.bind (α := Bool)
    (bif (decide (p0 < (1 : Int))) then
      some true
    else
      some (decide (p0 > (5 : Int))))
    fun y7 =>
  some y7
theorem key_Decode_1_ok (p0 : Int) (r : Bool) (h0 : key_Decode_1 p0 = some r) : CallAt Tryd.prog 32 [.d (eI p0)] [] (.d (eB r)) [] := by
  unfold key_Decode_1 at h0
  refine CallAt.of Tryd.func32 rfl ?_
  refine SC.post (Q' := fun e s => ∃ s1, Wk _ s s1 ∧ Fin _ _ _ _ e s1) ?_ (fun _ _ h => h)
  refine SC.wk (s1 := ⟨mk 9 [(0, .d (eI p0))], []⟩) (Wk.begin (n := 9) (Nat.le_of_ble_eq_true rfl)) ?_
  refine SC.seq ?_
  refine SC.region ?_
  refine SO.op (Wanted.free rfl) rfl (A_assign (v := .d (eB false)) rfl rfl) ?_
  refine SO.nil ?_
  change SC _ _ _ _ _
  refine SC.seqP h0 (fun y => ⟨mk 9 [(2, .d (eB y))], []⟩) ?_ ?_
  · intro u1_8 h1
    refine SC.region ?_
    refine SO.op (Wanted.free rfl) rfl (A_move (v := .d (eI p0)) rfl rfl) ?_
    refine SO.op (Wanted.free rfl) rfl (A_bin (v := .d (eB (decide (p0 < (1 : Int))))) rfl rfl rfl (fun X Y => b_i64_lss _ X Y p0 (1 : Int))) ?_
    refine SO.op (Wanted.free rfl) rfl (A_move (v := .d (eB (decide (p0 < (1 : Int))))) rfl rfl) ?_
    refine SO.split (fun hb9 => ?_) (fun hb9 => ?_)
    · replace h1 := ct hb9 h1
      refine SO.skip (Wanted.by rfl rfl rfl rfl) rfl ?_
      refine SO.skip (Wanted.by rfl rfl rfl rfl) rfl ?_
      refine SO.op (Wanted.free rfl) rfl (A_pickT (v := .d (eB true)) rfl rfl rfl) ?_
      refine SO.op (Wanted.free rfl) rfl (A_assign (v := .d (eB true)) rfl rfl) ?_
      refine SO.nil ?_
      have q := Option.some.inj h1; subst q
      exact (Wk.env (e' := [(2, .d (eB true))]) (EW.cons (AW.refl _) EW.nil))
    · replace h1 := cf hb9 h1
      refine SO.op (Wanted.by rfl rfl rfl rfl) rfl (A_move (v := .d (eI p0)) rfl rfl) ?_
      refine SO.op (Wanted.by rfl rfl rfl rfl) rfl (A_bin (v := .d (eB (decide (p0 > (5 : Int))))) rfl rfl rfl (fun X Y => b_i64_gtr _ X Y p0 (5 : Int))) ?_
      refine SO.op (Wanted.free rfl) rfl (A_pickF (v := .d (eB (decide (p0 > (5 : Int))))) rfl rfl rfl) ?_
      refine SO.op (Wanted.free rfl) rfl (A_assign (v := .d (eB (decide (p0 > (5 : Int))))) rfl rfl) ?_
      refine SO.nil ?_
      have q := Option.some.inj h1; subst q
      exact (Wk.env (e' := [(2, .d (eB (decide (p0 > (5 : Int)))))]) (EW.cons (AW.refl _) EW.nil))
  · rintro y7 h0
    change SC _ _ _ ⟨mk 9 [(2, .d (eB y7))], []⟩ _
    refine SC.ret ?_
    have q := Option.some.inj h0; subst q
    exact finR (Wk.env (e' := [(2, .d (eB y7))]) (EW.cons (AW.refl _) EW.nil)) (lresT rfl lresN) rfl
end Lv
