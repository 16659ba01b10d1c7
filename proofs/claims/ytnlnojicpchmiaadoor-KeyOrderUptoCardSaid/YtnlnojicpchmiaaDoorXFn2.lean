/- Part of the proof of a law: functions and their walks. -/
import Derived.Test.YtnlnojicpchmiaaDoorXFn1
namespace Lv
open Go Go.Proofs
set_option linter.unusedVariables false
set_option linter.unusedSimpArgs false
set_option linter.unusedSectionVars false
set_option maxRecDepth 100000
variable [BaseTab] [TabOk]
/-- granary/granarylaw07.KeyOrder -/
noncomputable def law07_KeyOrder (p0 : List ApiValue) (p1 : List ApiValue) (p2 : List Bool) (p3 : Int) : Option Bool :=
  Option.bind awakeF fun _ =>
  Option.bind (α := Bool)
    (bif ((p0.length : Int) != (p1.length : Int)) then
      some true
    else
      some ((p0.length : Int) != (p2.length : Int)))
    fun y235 =>
  bif y235 then
    some true
  else
    bindE (Y := Unit) (E := Bool)
      (Option.bind (α := Unit ⊕ Bool)
        (loop (Y := Int) (W := Unit ⊕ Bool) (fun y309 =>
          bif (decide (y309 < (p0.length : Int))) then
            Option.bind (α := Bool)
              (Option.bind (getI p0 y309) fun v338 =>
              Option.bind (getI p1 y309) fun v339 =>
              bif (v338.Kind != v339.Kind) then
                Option.bind (getI p0 y309) fun v341 =>
                bif (v341.Kind != (0 : Int)) then
                  Option.bind (getI p1 y309) fun v343 =>
                  some (v343.Kind != (0 : Int))
                else
                  some false
              else
                some false)
              fun y336 =>
            bif y336 then
              some (Sum.inr (Sum.inr true))
            else
              some (Sum.inl (w64 (y309 + (1 : Int))))
          else
            some (Sum.inr (Sum.inl ()))) (0 : Int))
        (Sum.elim (fun e => some (Sum.inl e)) (fun e => some (Sum.inr e))))
      (fun _ =>
        Option.bind (key_Encode p0 p2) fun (r346, r347) =>
        Option.bind (key_Encode p1 p2) fun (r349, r350) =>
        Option.bind (α := Bool)
          (bif (r347 != (0 : Int)) then
            some true
          else
            some (r350 != (0 : Int)))
          fun y353 =>
        bif y353 then
          some true
        else
          Option.bind (law07_order p0 p1 p2) fun r357 =>
          Option.bind (α := Bool)
            (bif (decide (r357 < (0 : Int))) then
              bif (!(ltS r346 r349)) then
                some true
              else
                bif (decide (r357 > (0 : Int))) then
                  bif (ltS r346 r349 || r346 == r349) then
                    some true
                  else
                    bif (r357 == (0 : Int)) then
                      some (r346 != r349)
                    else
                      some false
                else
                  bif (r357 == (0 : Int)) then
                    some (r346 != r349)
                  else
                    some false
            else
              bif (decide (r357 > (0 : Int))) then
                bif (ltS r346 r349 || r346 == r349) then
                  some true
                else
                  bif (r357 == (0 : Int)) then
                    some (r346 != r349)
                  else
                    some false
              else
                bif (r357 == (0 : Int)) then
                  some (r346 != r349)
                else
                  some false)
            fun y369 =>
          bif y369 then
            some false
          else
            bif decide ((w64 ((p0.length : Int) + (1 : Int))) ≠ 0) then
            bif decide ((w64 ((p0.length : Int) + (1 : Int))) ≠ 0) then
            bif decide (0 ≤ (Int.tmod (w64 ((w64 ((Int.tmod p3 (w64 ((p0.length : Int) + (1 : Int)))) + (p0.length : Int))) + (1 : Int))) (w64 ((p0.length : Int) + (1 : Int)))) ∧ (Int.tmod (w64 ((w64 ((Int.tmod p3 (w64 ((p0.length : Int) + (1 : Int)))) + (p0.length : Int))) + (1 : Int))) (w64 ((p0.length : Int) + (1 : Int)))) ≤ (p0.length : Int)) then
            bif decide ((([] : List ApiValue).length + (List.take (Int.tmod (w64 ((w64 ((Int.tmod p3 (w64 ((p0.length : Int) + (1 : Int)))) + (p0.length : Int))) + (1 : Int))) (w64 ((p0.length : Int) + (1 : Int)))).toNat p0).length) * 32 ≤ room) then
            bif decide (0 ≤ (Int.tmod (w64 ((w64 ((Int.tmod p3 (w64 ((p0.length : Int) + (1 : Int)))) + (p0.length : Int))) + (1 : Int))) (w64 ((p0.length : Int) + (1 : Int)))) ∧ (Int.tmod (w64 ((w64 ((Int.tmod p3 (w64 ((p0.length : Int) + (1 : Int)))) + (p0.length : Int))) + (1 : Int))) (w64 ((p0.length : Int) + (1 : Int)))) ≤ (p2.length : Int)) then
            bif decide ((([] : List Bool).length + (List.take (Int.tmod (w64 ((w64 ((Int.tmod p3 (w64 ((p0.length : Int) + (1 : Int)))) + (p0.length : Int))) + (1 : Int))) (w64 ((p0.length : Int) + (1 : Int)))).toNat p2).length) * 1 ≤ room) then
            Option.bind (key_Encode (([] : List ApiValue) ++ (List.take (Int.tmod (w64 ((w64 ((Int.tmod p3 (w64 ((p0.length : Int) + (1 : Int)))) + (p0.length : Int))) + (1 : Int))) (w64 ((p0.length : Int) + (1 : Int)))).toNat p0)) (([] : List Bool) ++ (List.take (Int.tmod (w64 ((w64 ((Int.tmod p3 (w64 ((p0.length : Int) + (1 : Int)))) + (p0.length : Int))) + (1 : Int))) (w64 ((p0.length : Int) + (1 : Int)))).toNat p2))) fun (r388, r389) =>
            Option.bind (α := Bool)
              (bif (r389 != (0 : Int)) then
                some true
              else
                bif (decide ((r388.length : Int) > (r346.length : Int))) then
                  some true
                else
                  bif decide (0 ≤ (r388.length : Int) ∧ (r388.length : Int) ≤ (r346.length : Int)) then
                  bif ((List.take (r388.length : Int).toNat r346) != r388) then
                    some true
                  else
                    Option.bind (key_Under r388) fun r405 =>
                    Option.bind (key_In r405 r346) fun r407 =>
                    some (!r407)
                  else none)
              fun y399 =>
            bif y399 then
              some false
            else
              Option.bind (α := Bool)
                (Option.bind (α := Bool)
                  (loop (Y := Bool × Int) (W := Bool) (fun (y441, y442) =>
                    bif (decide (y442 < (Int.tmod (w64 ((w64 ((Int.tmod p3 (w64 ((p0.length : Int) + (1 : Int)))) + (p0.length : Int))) + (1 : Int))) (w64 ((p0.length : Int) + (1 : Int)))))) then
                      bif y441 then
                        Option.bind (getI p0 y442) fun v455 =>
                        Option.bind (getI p1 y442) fun v456 =>
                        Option.bind (ref06_Cmp v455 v456) fun r457 =>
                        some (Sum.inl ((r457 == (0 : Int)), (w64 (y442 + (1 : Int)))))
                      else
                        some (Sum.inl (false, (w64 (y442 + (1 : Int)))))
                    else
                      some (Sum.inr y441)) (true, (0 : Int)))
                  (fun e => some e))
                fun y434 =>
              Option.bind (key_Under r388) fun r460 =>
              Option.bind (key_In r460 r349) fun r462 =>
              some (r462 == y434)
            else none
            else none
            else none
            else none
            else none
            else none)
      (fun e => some e)
theorem law07_KeyOrder_ok (p0 : List ApiValue) (p1 : List ApiValue) (p2 : List Bool) (p3 : Int) (r : Bool) (h0 : law07_KeyOrder p0 p1 p2 p3 = some r) : CallAt Tryd.prog 8 [.d ((eL 3 eApiValue) p0), .d ((eL 3 eApiValue) p1), .d ((eL 1 eB) p2), .d (eI p3)] [] (.d (eB r)) [] := by
  unfold law07_KeyOrder at h0
  refine CallAt.of Tryd.func8 rfl ?_
  refine SC.post (Q' := fun e s => ∃ s1, Wk _ s s1 ∧ Fin _ _ _ _ e s1) ?_ (fun _ _ h => h)
  refine SC.wk (s1 := ⟨mk 188 [(0, .d ((eL 3 eApiValue) p0)), (1, .d ((eL 3 eApiValue) p1)), (2, .d ((eL 1 eB) p2)), (3, .d (eI p3))], []⟩) (Wk.begin (n := 188) (Nat.le_of_ble_eq_true rfl)) ?_
  refine SC.seq ?_
  refine SC.region ?_
  refine SO.op (Wanted.free rfl) rfl (A_assign (v := .d (eB false)) rfl rfl) ?_
  refine SO.nil ?_
  change SC _ _ _ _ _
  refine SC.seq ?_
  refine SC.seq ?_
  refine SC.region ?_
  obtain ⟨_, hq233, h0⟩ := ob h0
  refine SO.call0 (r := .d (eB true)) (Wanted.free rfl) rfl rfl rfl rfl rfl cb9 rfl (fun _ => rfl) (fun _ => rfl) (awake_ok _ hq233) ?_
  refine SO.op (Wanted.free rfl) rfl (A_un (v := .d (eB false)) rfl rfl rfl rfl) ?_
  refine SO.nil ?_
  change SC _ _ _ _ _
  refine SC.condF rfl ?_
  refine SC.skip ?_
  change SC _ _ _ _ _
  refine SC.seq ?_
  refine SC.seqP h0 (fun y => ⟨mk 188 [(0, .d ((eL 3 eApiValue) p0)), (1, .d ((eL 3 eApiValue) p1)), (2, .d ((eL 1 eB) p2)), (3, .d (eI p3)), (32, .d (eB y))], []⟩) ?_ ?_
  · intro u1_236 h1
    refine SC.region ?_
    refine SO.op (Wanted.free rfl) rfl (A_move (v := .d ((eL 3 eApiValue) p0)) rfl rfl) ?_
    refine SO.op (Wanted.free rfl) rfl (A_len (v := .d (eI (p0.length : Int))) rfl rfl rfl rfl (len_lst un22)) ?_
    refine SO.op (Wanted.free rfl) rfl (A_move (v := .d ((eL 3 eApiValue) p1)) rfl rfl) ?_
    refine SO.op (Wanted.free rfl) rfl (A_len (v := .d (eI (p1.length : Int))) rfl rfl rfl rfl (len_lst un22)) ?_
    refine SO.op (Wanted.free rfl) rfl (A_bin (v := .d (eB ((p0.length : Int) != (p1.length : Int)))) rfl rfl rfl (fun X Y => b_i64_neq _ X Y (p0.length : Int) (p1.length : Int))) ?_
    refine SO.op (Wanted.free rfl) rfl (A_move (v := .d (eB ((p0.length : Int) != (p1.length : Int)))) rfl rfl) ?_
    refine SO.split (fun hb237 => ?_) (fun hb237 => ?_)
    · replace h1 := ct hb237 h1
      refine SO.skip (Wanted.by rfl rfl rfl rfl) rfl ?_
      refine SO.skip (Wanted.by rfl rfl rfl rfl) rfl ?_
      refine SO.skip (Wanted.by rfl rfl rfl rfl) rfl ?_
      refine SO.skip (Wanted.by rfl rfl rfl rfl) rfl ?_
      refine SO.skip (Wanted.by rfl rfl rfl rfl) rfl ?_
      refine SO.op (Wanted.free rfl) rfl (A_pickT (v := .d (eB true)) rfl rfl rfl) ?_
      refine SO.nil ?_
      have q := Option.some.inj h1; subst q
      exact (Wk.env (e' := [(0, .d ((eL 3 eApiValue) p0)), (1, .d ((eL 3 eApiValue) p1)), (2, .d ((eL 1 eB) p2)), (3, .d (eI p3)), (32, .d (eB true))]) (EW.cons (AW.refl _) (EW.cons (AW.refl _) (EW.cons (AW.refl _) (EW.cons (AW.refl _) (EW.cons (AW.refl _) EW.nil))))))
    · replace h1 := cf hb237 h1
      refine SO.op (Wanted.by rfl rfl rfl rfl) rfl (A_move (v := .d ((eL 3 eApiValue) p0)) rfl rfl) ?_
      refine SO.op (Wanted.by rfl rfl rfl rfl) rfl (A_len (v := .d (eI (p0.length : Int))) rfl rfl rfl rfl (len_lst un22)) ?_
      refine SO.op (Wanted.by rfl rfl rfl rfl) rfl (A_move (v := .d ((eL 1 eB) p2)) rfl rfl) ?_
      refine SO.op (Wanted.by rfl rfl rfl rfl) rfl (A_len (v := .d (eI (p2.length : Int))) rfl rfl rfl rfl (len_lst un23)) ?_
      refine SO.op (Wanted.by rfl rfl rfl rfl) rfl (A_bin (v := .d (eB ((p0.length : Int) != (p2.length : Int)))) rfl rfl rfl (fun X Y => b_i64_neq _ X Y (p0.length : Int) (p2.length : Int))) ?_
      refine SO.op (Wanted.free rfl) rfl (A_pickF (v := .d (eB ((p0.length : Int) != (p2.length : Int)))) rfl rfl rfl) ?_
      refine SO.nil ?_
      have q := Option.some.inj h1; subst q
      exact (Wk.env (e' := [(0, .d ((eL 3 eApiValue) p0)), (1, .d ((eL 3 eApiValue) p1)), (2, .d ((eL 1 eB) p2)), (3, .d (eI p3)), (32, .d (eB ((p0.length : Int) != (p2.length : Int))))]) (EW.cons (AW.refl _) (EW.cons (AW.refl _) (EW.cons (AW.refl _) (EW.cons (AW.refl _) (EW.cons (AW.refl _) EW.nil))))))
  · rintro y235 h0
    change SC _ _ _ ⟨mk 188 [(0, .d ((eL 3 eApiValue) p0)), (1, .d ((eL 3 eApiValue) p1)), (2, .d ((eL 1 eB) p2)), (3, .d (eI p3)), (32, .d (eB y235))], []⟩ _
    refine SC.condB (t := y235) rfl (fun hb238 => ?_) (fun hb238 => ?_)
    · replace h0 := ct hb238 h0
      refine SC.seq ?_
      refine SC.region ?_
      refine SO.op (Wanted.free rfl) rfl (A_assign (v := .d (eB true)) rfl rfl) ?_
      refine SO.nil ?_
      change SC _ _ _ _ _
      refine SC.ret ?_
      have q := Option.some.inj h0; subst q
      exact finR (Wk.env (e' := [(8, .d (eB true))]) (EW.cons (AW.refl _) EW.nil)) (lresT rfl lresN) rfl
    · replace h0 := cf hb238 h0
      refine SC.skip ?_
      change SC _ _ _ _ _
      refine SC.seqB h0 (fun y => ⟨mk 188 [(0, .d ((eL 3 eApiValue) p0)), (1, .d ((eL 3 eApiValue) p1)), (2, .d ((eL 1 eB) p2)), (3, .d (eI p3))], []⟩) ?_ ?_
      · intro u1_292 h1 h0
        refine SC.seq ?_
        refine SC.region ?_
        refine SO.op (Wanted.free rfl) rfl (A_assign (v := .d (eI (0 : Int))) rfl rfl) ?_
        refine SO.nil ?_
        change SC _ _ _ _ _
        refine SC.blk ?_
        obtain ⟨u2_328, h2, h1⟩ := ob h1
        refine SC.loopB h2 (fun y => ⟨mk 188 [(0, .d ((eL 3 eApiValue) p0)), (1, .d ((eL 3 eApiValue) p1)), (2, .d ((eL 1 eB) p2)), (3, .d (eI p3)), (9, .d (eI y))], []⟩) (Wk.env (e' := [(0, .d ((eL 3 eApiValue) p0)), (1, .d ((eL 3 eApiValue) p1)), (2, .d ((eL 1 eB) p2)), (3, .d (eI p3)), (9, .d (eI (0 : Int)))]) (EW.cons (AW.refl _) (EW.cons (AW.refl _) (EW.cons (AW.refl _) (EW.cons (AW.refl _) (EW.cons (AW.refl _) EW.nil)))))) ?_
        intro n345
        rintro y309 w2_327 h3 hv3
        change SC _ _ _ ⟨mk 188 [(0, .d ((eL 3 eApiValue) p0)), (1, .d ((eL 3 eApiValue) p1)), (2, .d ((eL 1 eB) p2)), (3, .d (eI p3)), (9, .d (eI y309))], []⟩ _
        refine SC.seq ?_
        refine SC.seq ?_
        refine SC.region ?_
        refine SO.op (Wanted.free rfl) rfl (A_move (v := .d (eI y309)) rfl rfl) ?_
        refine SO.op (Wanted.free rfl) rfl (A_move (v := .d ((eL 3 eApiValue) p0)) rfl rfl) ?_
        refine SO.op (Wanted.free rfl) rfl (A_len (v := .d (eI (p0.length : Int))) rfl rfl rfl rfl (len_lst un22)) ?_
        refine SO.op (Wanted.free rfl) rfl (A_bin (v := .d (eB (decide (y309 < (p0.length : Int))))) rfl rfl rfl (fun X Y => b_i64_lss _ X Y y309 (p0.length : Int))) ?_
        refine SO.nil ?_
        change SC _ _ _ _ _
        refine SC.condB (t := (decide (y309 < (p0.length : Int)))) rfl (fun hb329 => ?_) (fun hb329 => ?_)
        · replace h3 := ct hb329 h3
          refine SC.skip ?_
          change SC _ _ _ _ _
          refine SC.seq ?_
          refine SC.blk ?_
          refine SC.seqP h3 (fun y => ⟨mk 188 [(0, .d ((eL 3 eApiValue) p0)), (1, .d ((eL 3 eApiValue) p1)), (2, .d ((eL 1 eB) p2)), (3, .d (eI p3)), (9, .d (eI y309)), (65, .d (eB y))], []⟩) ?_ ?_
          · intro u4_337 h4
            refine SC.draws (by kernel_rfl) ?_
            refine ST.op (mk' := ([], false)) (Wanted.free rfl) rfl (A_move (v := .d ((eL 3 eApiValue) p0)) rfl rfl) rfl ?_
            refine ST.op (mk' := ([], false)) (Wanted.free rfl) rfl (A_move (v := .d (eI y309)) rfl rfl) rfl ?_
            obtain ⟨v338, hv338, h4⟩ := ob h4
            refine ST.op (mk' := ([], false)) (Wanted.free rfl) rfl (A_indexAddr (v := .rop [(eI v338.Kind), (eU64 v338.N), (eS v338.S)]) rfl rfl rfl (ia_lst un22 ts35 (getI_some hv338).1 (map_get (getI_some hv338).2))) rfl ?_
            refine ST.op (mk' := ([], false)) (Wanted.free rfl) rfl (A_fieldAddr (v := .rop [(eI v338.Kind), (eU64 v338.N), (eS v338.S)]) rfl rfl (fa_rop fo35_0 ts3 rfl)) rfl ?_
            refine ST.op (mk' := ([], false)) (Wanted.free rfl) rfl (A_load (v := .d (eI v338.Kind)) rfl rfl (ld_rop ts3 ta3 rfl)) rfl ?_
            refine ST.op (mk' := ([], false)) (Wanted.free rfl) rfl (A_move (v := .d ((eL 3 eApiValue) p1)) rfl rfl) rfl ?_
            refine ST.op (mk' := ([], false)) (Wanted.free rfl) rfl (A_move (v := .d (eI y309)) rfl rfl) rfl ?_
            obtain ⟨v339, hv339, h4⟩ := ob h4
            refine ST.op (mk' := ([], false)) (Wanted.free rfl) rfl (A_indexAddr (v := .rop [(eI v339.Kind), (eU64 v339.N), (eS v339.S)]) rfl rfl rfl (ia_lst un22 ts35 (getI_some hv339).1 (map_get (getI_some hv339).2))) rfl ?_
            refine ST.op (mk' := ([], false)) (Wanted.free rfl) rfl (A_fieldAddr (v := .rop [(eI v339.Kind), (eU64 v339.N), (eS v339.S)]) rfl rfl (fa_rop fo35_0 ts3 rfl)) rfl ?_
            refine ST.op (mk' := ([], false)) (Wanted.free rfl) rfl (A_load (v := .d (eI v339.Kind)) rfl rfl (ld_rop ts3 ta3 rfl)) rfl ?_
            refine ST.op (mk' := ([], false)) (Wanted.free rfl) rfl (A_bin (v := .d (eB (v338.Kind != v339.Kind))) rfl rfl rfl (fun X Y => b_i64_neq _ X Y v338.Kind v339.Kind)) rfl ?_
            refine ST.op (mk' := ([], false)) (Wanted.free rfl) rfl (A_move (v := .d (eB (v338.Kind != v339.Kind))) rfl rfl) rfl ?_
            refine ST.split (fun hb340 => ?_) (fun hb340 => ?_)
            · replace h4 := ct hb340 h4
              refine ST.op (mk' := ([], false)) (Wanted.by rfl rfl rfl rfl) rfl (A_move (v := .d ((eL 3 eApiValue) p0)) rfl rfl) rfl ?_
              refine ST.op (mk' := ([], false)) (Wanted.by rfl rfl rfl rfl) rfl (A_move (v := .d (eI y309)) rfl rfl) rfl ?_
              obtain ⟨v341, hv341, h4⟩ := ob h4
              refine ST.op (mk' := ([], false)) (Wanted.by rfl rfl rfl rfl) rfl (A_indexAddr (v := .rop [(eI v341.Kind), (eU64 v341.N), (eS v341.S)]) rfl rfl rfl (ia_lst un22 ts35 (getI_some hv341).1 (map_get (getI_some hv341).2))) rfl ?_
              refine ST.op (mk' := ([], false)) (Wanted.by rfl rfl rfl rfl) rfl (A_fieldAddr (v := .rop [(eI v341.Kind), (eU64 v341.N), (eS v341.S)]) rfl rfl (fa_rop fo35_0 ts3 rfl)) rfl ?_
              refine ST.op (mk' := ([], false)) (Wanted.by rfl rfl rfl rfl) rfl (A_load (v := .d (eI v341.Kind)) rfl rfl (ld_rop ts3 ta3 rfl)) rfl ?_
              refine ST.op (mk' := ([], false)) (Wanted.by rfl rfl rfl rfl) rfl (A_bin (v := .d (eB (v341.Kind != (0 : Int)))) rfl rfl rfl (fun X Y => b_i64_neq _ X Y v341.Kind (0 : Int))) rfl ?_
              refine ST.op (mk' := ([], false)) (Wanted.free rfl) rfl (A_pickT (v := .d (eB (v341.Kind != (0 : Int)))) rfl rfl rfl) rfl ?_
              refine ST.op (mk' := ([], false)) (Wanted.free rfl) rfl (A_move (v := .d (eB (v341.Kind != (0 : Int)))) rfl rfl) rfl ?_
              refine ST.split (fun hb342 => ?_) (fun hb342 => ?_)
              · replace h4 := ct hb342 h4
                refine ST.op (mk' := ([], false)) (Wanted.by rfl rfl rfl rfl) rfl (A_move (v := .d ((eL 3 eApiValue) p1)) rfl rfl) rfl ?_
                refine ST.op (mk' := ([], false)) (Wanted.by rfl rfl rfl rfl) rfl (A_move (v := .d (eI y309)) rfl rfl) rfl ?_
                obtain ⟨v343, hv343, h4⟩ := ob h4
                refine ST.op (mk' := ([], false)) (Wanted.by rfl rfl rfl rfl) rfl (A_indexAddr (v := .rop [(eI v343.Kind), (eU64 v343.N), (eS v343.S)]) rfl rfl rfl (ia_lst un22 ts35 (getI_some hv343).1 (map_get (getI_some hv343).2))) rfl ?_
                refine ST.op (mk' := ([], false)) (Wanted.by rfl rfl rfl rfl) rfl (A_fieldAddr (v := .rop [(eI v343.Kind), (eU64 v343.N), (eS v343.S)]) rfl rfl (fa_rop fo35_0 ts3 rfl)) rfl ?_
                refine ST.op (mk' := ([], false)) (Wanted.by rfl rfl rfl rfl) rfl (A_load (v := .d (eI v343.Kind)) rfl rfl (ld_rop ts3 ta3 rfl)) rfl ?_
                refine ST.op (mk' := ([], false)) (Wanted.by rfl rfl rfl rfl) rfl (A_bin (v := .d (eB (v343.Kind != (0 : Int)))) rfl rfl rfl (fun X Y => b_i64_neq _ X Y v343.Kind (0 : Int))) rfl ?_
                refine ST.op (mk' := ([], false)) (Wanted.free rfl) rfl (A_pickT (v := .d (eB (v343.Kind != (0 : Int)))) rfl rfl rfl) rfl ?_
                refine ST.nil (And.intro (by decide +kernel) ?_)
                have q := Option.some.inj h4; subst q
                exact (Wk.env (e' := [(0, .d ((eL 3 eApiValue) p0)), (1, .d ((eL 3 eApiValue) p1)), (2, .d ((eL 1 eB) p2)), (3, .d (eI p3)), (9, .d (eI y309)), (65, .d (eB (v343.Kind != (0 : Int))))]) (EW.cons (AW.refl _) (EW.cons (AW.refl _) (EW.cons (AW.refl _) (EW.cons (AW.refl _) (EW.cons (AW.refl _) (EW.cons (AW.refl _) EW.nil)))))))
              · replace h4 := cf hb342 h4
                refine ST.skip (Wanted.by rfl rfl rfl rfl) rfl ?_
                refine ST.skip (Wanted.by rfl rfl rfl rfl) rfl ?_
                refine ST.skip (Wanted.by rfl rfl rfl rfl) rfl ?_
                refine ST.skip (Wanted.by rfl rfl rfl rfl) rfl ?_
                refine ST.skip (Wanted.by rfl rfl rfl rfl) rfl ?_
                refine ST.skip (Wanted.by rfl rfl rfl rfl) rfl ?_
                refine ST.op (mk' := ([], false)) (Wanted.free rfl) rfl (A_pickF (v := .d (eB false)) rfl rfl rfl) rfl ?_
                refine ST.nil (And.intro (by decide +kernel) ?_)
                have q := Option.some.inj h4; subst q
                exact (Wk.env (e' := [(0, .d ((eL 3 eApiValue) p0)), (1, .d ((eL 3 eApiValue) p1)), (2, .d ((eL 1 eB) p2)), (3, .d (eI p3)), (9, .d (eI y309)), (65, .d (eB false))]) (EW.cons (AW.refl _) (EW.cons (AW.refl _) (EW.cons (AW.refl _) (EW.cons (AW.refl _) (EW.cons (AW.refl _) (EW.cons (AW.refl _) EW.nil)))))))
            · replace h4 := cf hb340 h4
              refine ST.skip (Wanted.by rfl rfl rfl rfl) rfl ?_
              refine ST.skip (Wanted.by rfl rfl rfl rfl) rfl ?_
              refine ST.skip (Wanted.by rfl rfl rfl rfl) rfl ?_
              refine ST.skip (Wanted.by rfl rfl rfl rfl) rfl ?_
              refine ST.skip (Wanted.by rfl rfl rfl rfl) rfl ?_
              refine ST.skip (Wanted.by rfl rfl rfl rfl) rfl ?_
              refine ST.op (mk' := ([], false)) (Wanted.free rfl) rfl (A_pickF (v := .d (eB false)) rfl rfl rfl) rfl ?_
              refine ST.op (mk' := ([], false)) (Wanted.free rfl) rfl (A_move (v := .d (eB false)) rfl rfl) rfl ?_
              refine ST.skip (Wanted.by rfl rfl rfl rfl) rfl ?_
              refine ST.skip (Wanted.by rfl rfl rfl rfl) rfl ?_
              refine ST.skip (Wanted.by rfl rfl rfl rfl) rfl ?_
              refine ST.skip (Wanted.by rfl rfl rfl rfl) rfl ?_
              refine ST.skip (Wanted.by rfl rfl rfl rfl) rfl ?_
              refine ST.skip (Wanted.by rfl rfl rfl rfl) rfl ?_
              refine ST.op (mk' := ([], false)) (Wanted.free rfl) rfl (A_pickF (v := .d (eB false)) rfl rfl rfl) rfl ?_
              refine ST.nil (And.intro (by decide +kernel) ?_)
              have q := Option.some.inj h4; subst q
              exact (Wk.env (e' := [(0, .d ((eL 3 eApiValue) p0)), (1, .d ((eL 3 eApiValue) p1)), (2, .d ((eL 1 eB) p2)), (3, .d (eI p3)), (9, .d (eI y309)), (65, .d (eB false))]) (EW.cons (AW.refl _) (EW.cons (AW.refl _) (EW.cons (AW.refl _) (EW.cons (AW.refl _) (EW.cons (AW.refl _) (EW.cons (AW.refl _) EW.nil)))))))
          · rintro y336 h3
            change SC _ _ _ ⟨mk 188 [(0, .d ((eL 3 eApiValue) p0)), (1, .d ((eL 3 eApiValue) p1)), (2, .d ((eL 1 eB) p2)), (3, .d (eI p3)), (9, .d (eI y309)), (65, .d (eB y336))], []⟩ _
            refine SC.condB (t := y336) rfl (fun hb344 => ?_) (fun hb344 => ?_)
            · replace h3 := ct hb344 h3
              refine SC.seq ?_
              refine SC.region ?_
              refine SO.op (Wanted.free rfl) rfl (A_assign (v := .d (eB true)) rfl rfl) ?_
              refine SO.nil ?_
              change SC _ _ _ _ _
              refine SC.ret ?_
              have q := Option.some.inj h3; subst q
              have q : _ = _ := hv3; subst q
              have q := Option.some.inj h1; subst q
              have q := Option.some.inj h0; subst q
              exact finR (Wk.env (e' := [(8, .d (eB true))]) (EW.cons (AW.refl _) EW.nil)) (lresT rfl lresN) rfl
            · replace h3 := cf hb344 h3
              refine SC.skip ?_
              change SC _ _ _ _ _
              refine SC.region ?_
              refine SO.op (Wanted.free rfl) rfl (A_move (v := .d (eI y309)) rfl rfl) ?_
              refine SO.op (Wanted.free rfl) rfl (A_bin (v := .d (eI (w64 (y309 + (1 : Int))))) rfl rfl rfl (fun X Y => b_i64_add _ X Y y309 (1 : Int))) ?_
              refine SO.op (Wanted.free rfl) rfl (A_assign (v := .d (eI (w64 (y309 + (1 : Int))))) rfl rfl) ?_
              refine SO.nil ?_
              have q := Option.some.inj h3; subst q
              exact lf (Wk.env (e' := [(0, .d ((eL 3 eApiValue) p0)), (1, .d ((eL 3 eApiValue) p1)), (2, .d ((eL 1 eB) p2)), (3, .d (eI p3)), (9, .d (eI (w64 (y309 + (1 : Int)))))]) (EW.cons (AW.refl _) (EW.cons (AW.refl _) (EW.cons (AW.refl _) (EW.cons (AW.refl _) (EW.cons (AW.refl _) EW.nil))))))
        · replace h3 := cf hb329 h3
          refine SC.exit ?_
          have q := Option.some.inj h3; subst q
          have q : _ = _ := hv3; subst q
          have q := Option.some.inj h1; subst q
          exact lf (Wk.env (e' := [(0, .d ((eL 3 eApiValue) p0)), (1, .d ((eL 3 eApiValue) p1)), (2, .d ((eL 1 eB) p2)), (3, .d (eI p3))]) (EW.cons (AW.refl _) (EW.cons (AW.refl _) (EW.cons (AW.refl _) (EW.cons (AW.refl _) EW.nil)))))
      · intro _ h0
        change SC _ _ _ ⟨mk 188 [(0, .d ((eL 3 eApiValue) p0)), (1, .d ((eL 3 eApiValue) p1)), (2, .d ((eL 1 eB) p2)), (3, .d (eI p3))], []⟩ _
        refine SC.seq ?_
        refine SC.region ?_
        refine SO.op (Wanted.free rfl) rfl (A_move (v := .d ((eL 3 eApiValue) p0)) rfl rfl) ?_
        refine SO.op (Wanted.free rfl) rfl (A_move (v := .d ((eL 1 eB) p2)) rfl rfl) ?_
        obtain ⟨⟨r346, r347⟩, hq348, h0⟩ := ob h0
        refine SO.call0 (r := .tuple [.d (eS r346), .d (eI r347)]) (Wanted.free rfl) rfl rfl rfl rfl rfl cb10 rfl (fun _ => rfl) (fun _ => rfl) (key_Encode_ok p0 p2 _ hq348) ?_
        refine SO.op (Wanted.free rfl) rfl (A_move (v := .tuple [.d (eS r346), .d (eI r347)]) rfl rfl) ?_
        refine SO.op (Wanted.free rfl) rfl (A_extract (v := .d (eS r346)) rfl rfl rfl) ?_
        refine SO.op (Wanted.free rfl) rfl (A_extract (v := .d (eI r347)) rfl rfl rfl) ?_
        refine SO.op (Wanted.free rfl) rfl (A_assign (v := .d (eS r346)) rfl rfl) ?_
        refine SO.op (Wanted.free rfl) rfl (A_assign (v := .d (eI r347)) rfl rfl) ?_
        refine SO.nil ?_
        change SC _ _ _ _ _
        refine SC.seq ?_
        refine SC.region ?_
        refine SO.op (Wanted.free rfl) rfl (A_move (v := .d ((eL 3 eApiValue) p1)) rfl rfl) ?_
        refine SO.op (Wanted.free rfl) rfl (A_move (v := .d ((eL 1 eB) p2)) rfl rfl) ?_
        obtain ⟨⟨r349, r350⟩, hq351, h0⟩ := ob h0
        refine SO.call0 (r := .tuple [.d (eS r349), .d (eI r350)]) (Wanted.free rfl) rfl rfl rfl rfl rfl cb10 rfl (fun _ => rfl) (fun _ => rfl) (key_Encode_ok p1 p2 _ hq351) ?_
        refine SO.op (Wanted.free rfl) rfl (A_move (v := .tuple [.d (eS r349), .d (eI r350)]) rfl rfl) ?_
        refine SO.op (Wanted.free rfl) rfl (A_extract (v := .d (eS r349)) rfl rfl rfl) ?_
        refine SO.op (Wanted.free rfl) rfl (A_extract (v := .d (eI r350)) rfl rfl rfl) ?_
        refine SO.op (Wanted.free rfl) rfl (A_assign (v := .d (eS r349)) rfl rfl) ?_
        refine SO.op (Wanted.free rfl) rfl (A_assign (v := .d (eI r350)) rfl rfl) ?_
        refine SO.nil ?_
        change SC _ _ _ _ _
        refine SC.seq ?_
        refine SC.seqP h0 (fun y => ⟨mk 188 [(0, .d ((eL 3 eApiValue) p0)), (1, .d ((eL 3 eApiValue) p1)), (2, .d ((eL 1 eB) p2)), (3, .d (eI p3)), (10, .d (eS r346)), (12, .d (eS r349)), (83, .d (eB y))], []⟩) ?_ ?_
        · intro u1_354 h1
          refine SC.region ?_
          refine SO.op (Wanted.free rfl) rfl (A_move (v := .d (eI r347)) rfl rfl) ?_
          refine SO.op (Wanted.free rfl) rfl (A_bin (v := .d (eB (r347 != (0 : Int)))) rfl rfl rfl (fun X Y => b_i64_neq _ X Y r347 (0 : Int))) ?_
          refine SO.op (Wanted.free rfl) rfl (A_move (v := .d (eB (r347 != (0 : Int)))) rfl rfl) ?_
          refine SO.split (fun hb355 => ?_) (fun hb355 => ?_)
          · replace h1 := ct hb355 h1
            refine SO.skip (Wanted.by rfl rfl rfl rfl) rfl ?_
            refine SO.skip (Wanted.by rfl rfl rfl rfl) rfl ?_
            refine SO.op (Wanted.free rfl) rfl (A_pickT (v := .d (eB true)) rfl rfl rfl) ?_
            refine SO.nil ?_
            have q := Option.some.inj h1; subst q
            exact (Wk.env (e' := [(0, .d ((eL 3 eApiValue) p0)), (1, .d ((eL 3 eApiValue) p1)), (2, .d ((eL 1 eB) p2)), (3, .d (eI p3)), (10, .d (eS r346)), (12, .d (eS r349)), (83, .d (eB true))]) (EW.cons (AW.refl _) (EW.cons (AW.refl _) (EW.cons (AW.refl _) (EW.cons (AW.refl _) (EW.cons (AW.refl _) (EW.cons (AW.refl _) (EW.cons (AW.refl _) EW.nil))))))))
          · replace h1 := cf hb355 h1
            refine SO.op (Wanted.by rfl rfl rfl rfl) rfl (A_move (v := .d (eI r350)) rfl rfl) ?_
            refine SO.op (Wanted.by rfl rfl rfl rfl) rfl (A_bin (v := .d (eB (r350 != (0 : Int)))) rfl rfl rfl (fun X Y => b_i64_neq _ X Y r350 (0 : Int))) ?_
            refine SO.op (Wanted.free rfl) rfl (A_pickF (v := .d (eB (r350 != (0 : Int)))) rfl rfl rfl) ?_
            refine SO.nil ?_
            have q := Option.some.inj h1; subst q
            exact (Wk.env (e' := [(0, .d ((eL 3 eApiValue) p0)), (1, .d ((eL 3 eApiValue) p1)), (2, .d ((eL 1 eB) p2)), (3, .d (eI p3)), (10, .d (eS r346)), (12, .d (eS r349)), (83, .d (eB (r350 != (0 : Int))))]) (EW.cons (AW.refl _) (EW.cons (AW.refl _) (EW.cons (AW.refl _) (EW.cons (AW.refl _) (EW.cons (AW.refl _) (EW.cons (AW.refl _) (EW.cons (AW.refl _) EW.nil))))))))
        · rintro y353 h0
          change SC _ _ _ ⟨mk 188 [(0, .d ((eL 3 eApiValue) p0)), (1, .d ((eL 3 eApiValue) p1)), (2, .d ((eL 1 eB) p2)), (3, .d (eI p3)), (10, .d (eS r346)), (12, .d (eS r349)), (83, .d (eB y353))], []⟩ _
          refine SC.condB (t := y353) rfl (fun hb356 => ?_) (fun hb356 => ?_)
          · replace h0 := ct hb356 h0
            refine SC.seq ?_
            refine SC.region ?_
            refine SO.op (Wanted.free rfl) rfl (A_assign (v := .d (eB true)) rfl rfl) ?_
            refine SO.nil ?_
            change SC _ _ _ _ _
            refine SC.ret ?_
            have q := Option.some.inj h0; subst q
            exact finR (Wk.env (e' := [(8, .d (eB true))]) (EW.cons (AW.refl _) EW.nil)) (lresT rfl lresN) rfl
          · replace h0 := cf hb356 h0
            refine SC.skip ?_
            change SC _ _ _ _ _
            refine SC.seq ?_
            refine SC.region ?_
            refine SO.op (Wanted.free rfl) rfl (A_move (v := .d ((eL 3 eApiValue) p0)) rfl rfl) ?_
            refine SO.op (Wanted.free rfl) rfl (A_move (v := .d ((eL 3 eApiValue) p1)) rfl rfl) ?_
            refine SO.op (Wanted.free rfl) rfl (A_move (v := .d ((eL 1 eB) p2)) rfl rfl) ?_
            obtain ⟨r357, hq358, h0⟩ := ob h0
            refine SO.call0 (r := .d (eI r357)) (Wanted.free rfl) rfl rfl rfl rfl rfl cb23 rfl (fun _ => rfl) (fun _ => rfl) (law07_order_ok p0 p1 p2 _ hq358) ?_
            refine SO.op (Wanted.free rfl) rfl (A_assign (v := .d (eI r357)) rfl rfl) ?_
            refine SO.nil ?_
            change SC _ _ _ _ _
            refine SC.seq ?_
            refine SC.seqP h0 (fun y => ⟨mk 188 [(0, .d ((eL 3 eApiValue) p0)), (1, .d ((eL 3 eApiValue) p1)), (2, .d ((eL 1 eB) p2)), (3, .d (eI p3)), (10, .d (eS r346)), (12, .d (eS r349)), (112, .d (eB y))], []⟩) ?_ ?_
            · intro u1_370 h1
              refine SC.region ?_
              refine SO.op (Wanted.free rfl) rfl (A_move (v := .d (eI r357)) rfl rfl) ?_
              refine SO.op (Wanted.free rfl) rfl (A_bin (v := .d (eB (decide (r357 < (0 : Int))))) rfl rfl rfl (fun X Y => b_i64_lss _ X Y r357 (0 : Int))) ?_
              refine SO.op (Wanted.free rfl) rfl (A_move (v := .d (eB (decide (r357 < (0 : Int))))) rfl rfl) ?_
              refine SO.split (fun hb371 => ?_) (fun hb371 => ?_)
              · replace h1 := ct hb371 h1
                refine SO.op (Wanted.by rfl rfl rfl rfl) rfl (A_move (v := .d (eS r346)) rfl rfl) ?_
                refine SO.op (Wanted.by rfl rfl rfl rfl) rfl (A_move (v := .d (eS r349)) rfl rfl) ?_
                refine SO.op (Wanted.by rfl rfl rfl rfl) rfl (A_bin (v := .d (eB (!(ltS r346 r349)))) rfl rfl rfl (fun X Y => b_str_geq _ X Y r346 r349)) ?_
                refine SO.op (Wanted.free rfl) rfl (A_pickT (v := .d (eB (!(ltS r346 r349)))) rfl rfl rfl) ?_
                refine SO.op (Wanted.free rfl) rfl (A_move (v := .d (eB (!(ltS r346 r349)))) rfl rfl) ?_
                refine SO.split (fun hb372 => ?_) (fun hb372 => ?_)
                · replace h1 := ct hb372 h1
                  refine SO.skip (Wanted.by rfl rfl rfl rfl) rfl ?_
                  refine SO.skip (Wanted.by rfl rfl rfl rfl) rfl ?_
                  refine SO.skip (Wanted.by rfl rfl rfl rfl) rfl ?_
                  refine SO.skip (Wanted.out rfl rfl rfl) rfl ?_
                  refine SO.skip (Wanted.out rfl rfl rfl) rfl ?_
                  refine SO.skip (Wanted.out rfl rfl rfl) rfl ?_
                  refine SO.skip (Wanted.by rfl rfl rfl rfl) rfl ?_
                  refine SO.op (Wanted.free rfl) rfl (A_pickT (v := .d (eB true)) rfl rfl rfl) ?_
                  refine SO.op (Wanted.free rfl) rfl (A_move (v := .d (eB true)) rfl rfl) ?_
                  refine SO.skip (Wanted.by rfl rfl rfl rfl) rfl ?_
                  refine SO.skip (Wanted.by rfl rfl rfl rfl) rfl ?_
                  refine SO.skip (Wanted.by rfl rfl rfl rfl) rfl ?_
                  refine SO.skip (Wanted.out rfl rfl rfl) rfl ?_
                  refine SO.skip (Wanted.out rfl rfl rfl) rfl ?_
                  refine SO.skip (Wanted.out rfl rfl rfl) rfl ?_
                  refine SO.skip (Wanted.by rfl rfl rfl rfl) rfl ?_
                  refine SO.op (Wanted.free rfl) rfl (A_pickT (v := .d (eB true)) rfl rfl rfl) ?_
                  refine SO.nil ?_
                  have q := Option.some.inj h1; subst q
                  exact (Wk.env (e' := [(0, .d ((eL 3 eApiValue) p0)), (1, .d ((eL 3 eApiValue) p1)), (2, .d ((eL 1 eB) p2)), (3, .d (eI p3)), (10, .d (eS r346)), (12, .d (eS r349)), (112, .d (eB true))]) (EW.cons (AW.refl _) (EW.cons (AW.refl _) (EW.cons (AW.refl _) (EW.cons (AW.refl _) (EW.cons (AW.refl _) (EW.cons (AW.refl _) (EW.cons (AW.refl _) EW.nil))))))))
                · replace h1 := cf hb372 h1
                  refine SO.op (Wanted.by rfl rfl rfl rfl) rfl (A_move (v := .d (eI r357)) rfl rfl) ?_
                  refine SO.op (Wanted.by rfl rfl rfl rfl) rfl (A_bin (v := .d (eB (decide (r357 > (0 : Int))))) rfl rfl rfl (fun X Y => b_i64_gtr _ X Y r357 (0 : Int))) ?_
                  refine SO.op (Wanted.by rfl rfl rfl rfl) rfl (A_move (v := .d (eB (decide (r357 > (0 : Int))))) rfl rfl) ?_
                  refine SO.split (fun hb373 => ?_) (fun hb373 => ?_)
                  · replace h1 := ct hb373 h1
                    refine SO.op (Wanted.by rfl rfl rfl rfl) rfl (A_move (v := .d (eS r346)) rfl rfl) ?_
                    refine SO.op (Wanted.by rfl rfl rfl rfl) rfl (A_move (v := .d (eS r349)) rfl rfl) ?_
                    refine SO.op (Wanted.by rfl rfl rfl rfl) rfl (A_bin (v := .d (eB (ltS r346 r349 || r346 == r349))) rfl rfl rfl (fun X Y => b_str_leq _ X Y r346 r349)) ?_
                    refine SO.op (Wanted.by rfl rfl rfl rfl) rfl (A_pickT (v := .d (eB (ltS r346 r349 || r346 == r349))) rfl rfl rfl) ?_
                    refine SO.op (Wanted.free rfl) rfl (A_pickF (v := .d (eB (ltS r346 r349 || r346 == r349))) rfl rfl rfl) ?_
                    refine SO.op (Wanted.free rfl) rfl (A_move (v := .d (eB (ltS r346 r349 || r346 == r349))) rfl rfl) ?_
                    refine SO.split (fun hb374 => ?_) (fun hb374 => ?_)
                    · replace h1 := ct hb374 h1
                      refine SO.skip (Wanted.by rfl rfl rfl rfl) rfl ?_
                      refine SO.skip (Wanted.by rfl rfl rfl rfl) rfl ?_
                      refine SO.skip (Wanted.by rfl rfl rfl rfl) rfl ?_
                      refine SO.skip (Wanted.out rfl rfl rfl) rfl ?_
                      refine SO.skip (Wanted.out rfl rfl rfl) rfl ?_
                      refine SO.skip (Wanted.out rfl rfl rfl) rfl ?_
                      refine SO.skip (Wanted.by rfl rfl rfl rfl) rfl ?_
                      refine SO.op (Wanted.free rfl) rfl (A_pickT (v := .d (eB true)) rfl rfl rfl) ?_
                      refine SO.nil ?_
                      have q := Option.some.inj h1; subst q
                      exact (Wk.env (e' := [(0, .d ((eL 3 eApiValue) p0)), (1, .d ((eL 3 eApiValue) p1)), (2, .d ((eL 1 eB) p2)), (3, .d (eI p3)), (10, .d (eS r346)), (12, .d (eS r349)), (112, .d (eB true))]) (EW.cons (AW.refl _) (EW.cons (AW.refl _) (EW.cons (AW.refl _) (EW.cons (AW.refl _) (EW.cons (AW.refl _) (EW.cons (AW.refl _) (EW.cons (AW.refl _) EW.nil))))))))
                    · replace h1 := cf hb374 h1
                      refine SO.op (Wanted.by rfl rfl rfl rfl) rfl (A_move (v := .d (eI r357)) rfl rfl) ?_
                      refine SO.op (Wanted.by rfl rfl rfl rfl) rfl (A_bin (v := .d (eB (r357 == (0 : Int)))) rfl rfl rfl (fun X Y => b_i64_eql _ X Y r357 (0 : Int))) ?_
                      refine SO.op (Wanted.by rfl rfl rfl rfl) rfl (A_move (v := .d (eB (r357 == (0 : Int)))) rfl rfl) ?_
                      refine SO.split (fun hb375 => ?_) (fun hb375 => ?_)
                      · replace h1 := ct hb375 h1
                        refine SO.op (Wanted.by rfl rfl rfl rfl) rfl (A_move (v := .d (eS r346)) rfl rfl) ?_
                        refine SO.op (Wanted.by rfl rfl rfl rfl) rfl (A_move (v := .d (eS r349)) rfl rfl) ?_
                        refine SO.op (Wanted.by rfl rfl rfl rfl) rfl (A_bin (v := .d (eB (r346 != r349))) rfl rfl rfl (fun X Y => b_str_neq _ X Y r346 r349)) ?_
                        refine SO.op (Wanted.by rfl rfl rfl rfl) rfl (A_pickT (v := .d (eB (r346 != r349))) rfl rfl rfl) ?_
                        refine SO.op (Wanted.free rfl) rfl (A_pickF (v := .d (eB (r346 != r349))) rfl rfl rfl) ?_
                        refine SO.nil ?_
                        have q := Option.some.inj h1; subst q
                        exact (Wk.env (e' := [(0, .d ((eL 3 eApiValue) p0)), (1, .d ((eL 3 eApiValue) p1)), (2, .d ((eL 1 eB) p2)), (3, .d (eI p3)), (10, .d (eS r346)), (12, .d (eS r349)), (112, .d (eB (r346 != r349)))]) (EW.cons (AW.refl _) (EW.cons (AW.refl _) (EW.cons (AW.refl _) (EW.cons (AW.refl _) (EW.cons (AW.refl _) (EW.cons (AW.refl _) (EW.cons (AW.refl _) EW.nil))))))))
                      · replace h1 := cf hb375 h1
                        refine SO.skip (Wanted.by rfl rfl rfl rfl) rfl ?_
                        refine SO.skip (Wanted.by rfl rfl rfl rfl) rfl ?_
                        refine SO.skip (Wanted.by rfl rfl rfl rfl) rfl ?_
                        refine SO.op (Wanted.by rfl rfl rfl rfl) rfl (A_pickF (v := .d (eB false)) rfl rfl rfl) ?_
                        refine SO.op (Wanted.free rfl) rfl (A_pickF (v := .d (eB false)) rfl rfl rfl) ?_
                        refine SO.nil ?_
                        have q := Option.some.inj h1; subst q
                        exact (Wk.env (e' := [(0, .d ((eL 3 eApiValue) p0)), (1, .d ((eL 3 eApiValue) p1)), (2, .d ((eL 1 eB) p2)), (3, .d (eI p3)), (10, .d (eS r346)), (12, .d (eS r349)), (112, .d (eB false))]) (EW.cons (AW.refl _) (EW.cons (AW.refl _) (EW.cons (AW.refl _) (EW.cons (AW.refl _) (EW.cons (AW.refl _) (EW.cons (AW.refl _) (EW.cons (AW.refl _) EW.nil))))))))
                  · replace h1 := cf hb373 h1
                    refine SO.skip (Wanted.by rfl rfl rfl rfl) rfl ?_
                    refine SO.skip (Wanted.by rfl rfl rfl rfl) rfl ?_
                    refine SO.skip (Wanted.by rfl rfl rfl rfl) rfl ?_
                    refine SO.op (Wanted.by rfl rfl rfl rfl) rfl (A_pickF (v := .d (eB false)) rfl rfl rfl) ?_
                    refine SO.op (Wanted.free rfl) rfl (A_pickF (v := .d (eB false)) rfl rfl rfl) ?_
                    refine SO.op (Wanted.free rfl) rfl (A_move (v := .d (eB false)) rfl rfl) ?_
                    refine SO.op (Wanted.by rfl rfl rfl rfl) rfl (A_move (v := .d (eI r357)) rfl rfl) ?_
                    refine SO.op (Wanted.by rfl rfl rfl rfl) rfl (A_bin (v := .d (eB (r357 == (0 : Int)))) rfl rfl rfl (fun X Y => b_i64_eql _ X Y r357 (0 : Int))) ?_
                    refine SO.op (Wanted.by rfl rfl rfl rfl) rfl (A_move (v := .d (eB (r357 == (0 : Int)))) rfl rfl) ?_
                    refine SO.split (fun hb376 => ?_) (fun hb376 => ?_)
                    · replace h1 := ct hb376 h1
                      refine SO.op (Wanted.by rfl rfl rfl rfl) rfl (A_move (v := .d (eS r346)) rfl rfl) ?_
                      refine SO.op (Wanted.by rfl rfl rfl rfl) rfl (A_move (v := .d (eS r349)) rfl rfl) ?_
                      refine SO.op (Wanted.by rfl rfl rfl rfl) rfl (A_bin (v := .d (eB (r346 != r349))) rfl rfl rfl (fun X Y => b_str_neq _ X Y r346 r349)) ?_
                      refine SO.op (Wanted.by rfl rfl rfl rfl) rfl (A_pickT (v := .d (eB (r346 != r349))) rfl rfl rfl) ?_
                      refine SO.op (Wanted.free rfl) rfl (A_pickF (v := .d (eB (r346 != r349))) rfl rfl rfl) ?_
                      refine SO.nil ?_
                      have q := Option.some.inj h1; subst q
                      exact (Wk.env (e' := [(0, .d ((eL 3 eApiValue) p0)), (1, .d ((eL 3 eApiValue) p1)), (2, .d ((eL 1 eB) p2)), (3, .d (eI p3)), (10, .d (eS r346)), (12, .d (eS r349)), (112, .d (eB (r346 != r349)))]) (EW.cons (AW.refl _) (EW.cons (AW.refl _) (EW.cons (AW.refl _) (EW.cons (AW.refl _) (EW.cons (AW.refl _) (EW.cons (AW.refl _) (EW.cons (AW.refl _) EW.nil))))))))
                    · replace h1 := cf hb376 h1
                      refine SO.skip (Wanted.by rfl rfl rfl rfl) rfl ?_
                      refine SO.skip (Wanted.by rfl rfl rfl rfl) rfl ?_
                      refine SO.skip (Wanted.by rfl rfl rfl rfl) rfl ?_
                      refine SO.op (Wanted.by rfl rfl rfl rfl) rfl (A_pickF (v := .d (eB false)) rfl rfl rfl) ?_
                      refine SO.op (Wanted.free rfl) rfl (A_pickF (v := .d (eB false)) rfl rfl rfl) ?_
                      refine SO.nil ?_
                      have q := Option.some.inj h1; subst q
                      exact (Wk.env (e' := [(0, .d ((eL 3 eApiValue) p0)), (1, .d ((eL 3 eApiValue) p1)), (2, .d ((eL 1 eB) p2)), (3, .d (eI p3)), (10, .d (eS r346)), (12, .d (eS r349)), (112, .d (eB false))]) (EW.cons (AW.refl _) (EW.cons (AW.refl _) (EW.cons (AW.refl _) (EW.cons (AW.refl _) (EW.cons (AW.refl _) (EW.cons (AW.refl _) (EW.cons (AW.refl _) EW.nil))))))))
              · replace h1 := cf hb371 h1
                refine SO.skip (Wanted.by rfl rfl rfl rfl) rfl ?_
                refine SO.skip (Wanted.by rfl rfl rfl rfl) rfl ?_
                refine SO.skip (Wanted.by rfl rfl rfl rfl) rfl ?_
                refine SO.op (Wanted.free rfl) rfl (A_pickF (v := .d (eB false)) rfl rfl rfl) ?_
                refine SO.op (Wanted.free rfl) rfl (A_move (v := .d (eB false)) rfl rfl) ?_
                refine SO.op (Wanted.by rfl rfl rfl rfl) rfl (A_move (v := .d (eI r357)) rfl rfl) ?_
                refine SO.op (Wanted.by rfl rfl rfl rfl) rfl (A_bin (v := .d (eB (decide (r357 > (0 : Int))))) rfl rfl rfl (fun X Y => b_i64_gtr _ X Y r357 (0 : Int))) ?_
                refine SO.op (Wanted.by rfl rfl rfl rfl) rfl (A_move (v := .d (eB (decide (r357 > (0 : Int))))) rfl rfl) ?_
                refine SO.split (fun hb377 => ?_) (fun hb377 => ?_)
                · replace h1 := ct hb377 h1
                  refine SO.op (Wanted.by rfl rfl rfl rfl) rfl (A_move (v := .d (eS r346)) rfl rfl) ?_
                  refine SO.op (Wanted.by rfl rfl rfl rfl) rfl (A_move (v := .d (eS r349)) rfl rfl) ?_
                  refine SO.op (Wanted.by rfl rfl rfl rfl) rfl (A_bin (v := .d (eB (ltS r346 r349 || r346 == r349))) rfl rfl rfl (fun X Y => b_str_leq _ X Y r346 r349)) ?_
                  refine SO.op (Wanted.by rfl rfl rfl rfl) rfl (A_pickT (v := .d (eB (ltS r346 r349 || r346 == r349))) rfl rfl rfl) ?_
                  refine SO.op (Wanted.free rfl) rfl (A_pickF (v := .d (eB (ltS r346 r349 || r346 == r349))) rfl rfl rfl) ?_
                  refine SO.op (Wanted.free rfl) rfl (A_move (v := .d (eB (ltS r346 r349 || r346 == r349))) rfl rfl) ?_
                  refine SO.split (fun hb378 => ?_) (fun hb378 => ?_)
                  · replace h1 := ct hb378 h1
                    refine SO.skip (Wanted.by rfl rfl rfl rfl) rfl ?_
                    refine SO.skip (Wanted.by rfl rfl rfl rfl) rfl ?_
                    refine SO.skip (Wanted.by rfl rfl rfl rfl) rfl ?_
                    refine SO.skip (Wanted.out rfl rfl rfl) rfl ?_
                    refine SO.skip (Wanted.out rfl rfl rfl) rfl ?_
                    refine SO.skip (Wanted.out rfl rfl rfl) rfl ?_
                    refine SO.skip (Wanted.by rfl rfl rfl rfl) rfl ?_
                    refine SO.op (Wanted.free rfl) rfl (A_pickT (v := .d (eB true)) rfl rfl rfl) ?_
                    refine SO.nil ?_
                    have q := Option.some.inj h1; subst q
                    exact (Wk.env (e' := [(0, .d ((eL 3 eApiValue) p0)), (1, .d ((eL 3 eApiValue) p1)), (2, .d ((eL 1 eB) p2)), (3, .d (eI p3)), (10, .d (eS r346)), (12, .d (eS r349)), (112, .d (eB true))]) (EW.cons (AW.refl _) (EW.cons (AW.refl _) (EW.cons (AW.refl _) (EW.cons (AW.refl _) (EW.cons (AW.refl _) (EW.cons (AW.refl _) (EW.cons (AW.refl _) EW.nil))))))))
                  · replace h1 := cf hb378 h1
                    refine SO.op (Wanted.by rfl rfl rfl rfl) rfl (A_move (v := .d (eI r357)) rfl rfl) ?_
                    refine SO.op (Wanted.by rfl rfl rfl rfl) rfl (A_bin (v := .d (eB (r357 == (0 : Int)))) rfl rfl rfl (fun X Y => b_i64_eql _ X Y r357 (0 : Int))) ?_
                    refine SO.op (Wanted.by rfl rfl rfl rfl) rfl (A_move (v := .d (eB (r357 == (0 : Int)))) rfl rfl) ?_
                    refine SO.split (fun hb379 => ?_) (fun hb379 => ?_)
                    · replace h1 := ct hb379 h1
                      refine SO.op (Wanted.by rfl rfl rfl rfl) rfl (A_move (v := .d (eS r346)) rfl rfl) ?_
                      refine SO.op (Wanted.by rfl rfl rfl rfl) rfl (A_move (v := .d (eS r349)) rfl rfl) ?_
                      refine SO.op (Wanted.by rfl rfl rfl rfl) rfl (A_bin (v := .d (eB (r346 != r349))) rfl rfl rfl (fun X Y => b_str_neq _ X Y r346 r349)) ?_
                      refine SO.op (Wanted.by rfl rfl rfl rfl) rfl (A_pickT (v := .d (eB (r346 != r349))) rfl rfl rfl) ?_
                      refine SO.op (Wanted.free rfl) rfl (A_pickF (v := .d (eB (r346 != r349))) rfl rfl rfl) ?_
                      refine SO.nil ?_
                      have q := Option.some.inj h1; subst q
                      exact (Wk.env (e' := [(0, .d ((eL 3 eApiValue) p0)), (1, .d ((eL 3 eApiValue) p1)), (2, .d ((eL 1 eB) p2)), (3, .d (eI p3)), (10, .d (eS r346)), (12, .d (eS r349)), (112, .d (eB (r346 != r349)))]) (EW.cons (AW.refl _) (EW.cons (AW.refl _) (EW.cons (AW.refl _) (EW.cons (AW.refl _) (EW.cons (AW.refl _) (EW.cons (AW.refl _) (EW.cons (AW.refl _) EW.nil))))))))
                    · replace h1 := cf hb379 h1
                      refine SO.skip (Wanted.by rfl rfl rfl rfl) rfl ?_
                      refine SO.skip (Wanted.by rfl rfl rfl rfl) rfl ?_
                      refine SO.skip (Wanted.by rfl rfl rfl rfl) rfl ?_
                      refine SO.op (Wanted.by rfl rfl rfl rfl) rfl (A_pickF (v := .d (eB false)) rfl rfl rfl) ?_
                      refine SO.op (Wanted.free rfl) rfl (A_pickF (v := .d (eB false)) rfl rfl rfl) ?_
                      refine SO.nil ?_
                      have q := Option.some.inj h1; subst q
                      exact (Wk.env (e' := [(0, .d ((eL 3 eApiValue) p0)), (1, .d ((eL 3 eApiValue) p1)), (2, .d ((eL 1 eB) p2)), (3, .d (eI p3)), (10, .d (eS r346)), (12, .d (eS r349)), (112, .d (eB false))]) (EW.cons (AW.refl _) (EW.cons (AW.refl _) (EW.cons (AW.refl _) (EW.cons (AW.refl _) (EW.cons (AW.refl _) (EW.cons (AW.refl _) (EW.cons (AW.refl _) EW.nil))))))))
                · replace h1 := cf hb377 h1
                  refine SO.skip (Wanted.by rfl rfl rfl rfl) rfl ?_
                  refine SO.skip (Wanted.by rfl rfl rfl rfl) rfl ?_
                  refine SO.skip (Wanted.by rfl rfl rfl rfl) rfl ?_
                  refine SO.op (Wanted.by rfl rfl rfl rfl) rfl (A_pickF (v := .d (eB false)) rfl rfl rfl) ?_
                  refine SO.op (Wanted.free rfl) rfl (A_pickF (v := .d (eB false)) rfl rfl rfl) ?_
                  refine SO.op (Wanted.free rfl) rfl (A_move (v := .d (eB false)) rfl rfl) ?_
                  refine SO.op (Wanted.by rfl rfl rfl rfl) rfl (A_move (v := .d (eI r357)) rfl rfl) ?_
                  refine SO.op (Wanted.by rfl rfl rfl rfl) rfl (A_bin (v := .d (eB (r357 == (0 : Int)))) rfl rfl rfl (fun X Y => b_i64_eql _ X Y r357 (0 : Int))) ?_
                  refine SO.op (Wanted.by rfl rfl rfl rfl) rfl (A_move (v := .d (eB (r357 == (0 : Int)))) rfl rfl) ?_
                  refine SO.split (fun hb380 => ?_) (fun hb380 => ?_)
                  · replace h1 := ct hb380 h1
                    refine SO.op (Wanted.by rfl rfl rfl rfl) rfl (A_move (v := .d (eS r346)) rfl rfl) ?_
                    refine SO.op (Wanted.by rfl rfl rfl rfl) rfl (A_move (v := .d (eS r349)) rfl rfl) ?_
                    refine SO.op (Wanted.by rfl rfl rfl rfl) rfl (A_bin (v := .d (eB (r346 != r349))) rfl rfl rfl (fun X Y => b_str_neq _ X Y r346 r349)) ?_
                    refine SO.op (Wanted.by rfl rfl rfl rfl) rfl (A_pickT (v := .d (eB (r346 != r349))) rfl rfl rfl) ?_
                    refine SO.op (Wanted.free rfl) rfl (A_pickF (v := .d (eB (r346 != r349))) rfl rfl rfl) ?_
                    refine SO.nil ?_
                    have q := Option.some.inj h1; subst q
                    exact (Wk.env (e' := [(0, .d ((eL 3 eApiValue) p0)), (1, .d ((eL 3 eApiValue) p1)), (2, .d ((eL 1 eB) p2)), (3, .d (eI p3)), (10, .d (eS r346)), (12, .d (eS r349)), (112, .d (eB (r346 != r349)))]) (EW.cons (AW.refl _) (EW.cons (AW.refl _) (EW.cons (AW.refl _) (EW.cons (AW.refl _) (EW.cons (AW.refl _) (EW.cons (AW.refl _) (EW.cons (AW.refl _) EW.nil))))))))
                  · replace h1 := cf hb380 h1
                    refine SO.skip (Wanted.by rfl rfl rfl rfl) rfl ?_
                    refine SO.skip (Wanted.by rfl rfl rfl rfl) rfl ?_
                    refine SO.skip (Wanted.by rfl rfl rfl rfl) rfl ?_
                    refine SO.op (Wanted.by rfl rfl rfl rfl) rfl (A_pickF (v := .d (eB false)) rfl rfl rfl) ?_
                    refine SO.op (Wanted.free rfl) rfl (A_pickF (v := .d (eB false)) rfl rfl rfl) ?_
                    refine SO.nil ?_
                    have q := Option.some.inj h1; subst q
                    exact (Wk.env (e' := [(0, .d ((eL 3 eApiValue) p0)), (1, .d ((eL 3 eApiValue) p1)), (2, .d ((eL 1 eB) p2)), (3, .d (eI p3)), (10, .d (eS r346)), (12, .d (eS r349)), (112, .d (eB false))]) (EW.cons (AW.refl _) (EW.cons (AW.refl _) (EW.cons (AW.refl _) (EW.cons (AW.refl _) (EW.cons (AW.refl _) (EW.cons (AW.refl _) (EW.cons (AW.refl _) EW.nil))))))))
            · rintro y369 h0
              change SC _ _ _ ⟨mk 188 [(0, .d ((eL 3 eApiValue) p0)), (1, .d ((eL 3 eApiValue) p1)), (2, .d ((eL 1 eB) p2)), (3, .d (eI p3)), (10, .d (eS r346)), (12, .d (eS r349)), (112, .d (eB y369))], []⟩ _
              refine SC.condB (t := y369) rfl (fun hb381 => ?_) (fun hb381 => ?_)
              · replace h0 := ct hb381 h0
                refine SC.seq ?_
                refine SC.region ?_
                refine SO.op (Wanted.free rfl) rfl (A_assign (v := .d (eB false)) rfl rfl) ?_
                refine SO.nil ?_
                change SC _ _ _ _ _
                refine SC.ret ?_
                have q := Option.some.inj h0; subst q
                exact finR (Wk.env (e' := [(8, .d (eB false))]) (EW.cons (AW.refl _) EW.nil)) (lresT rfl lresN) rfl
              · replace h0 := cf hb381 h0
                refine SC.skip ?_
                change SC _ _ _ _ _
                refine SC.seq ?_
                refine SC.region ?_
                refine SO.op (Wanted.free rfl) rfl (A_move (v := .d (eI p3)) rfl rfl) ?_
                refine SO.op (Wanted.free rfl) rfl (A_move (v := .d ((eL 3 eApiValue) p0)) rfl rfl) ?_
                refine SO.op (Wanted.free rfl) rfl (A_len (v := .d (eI (p0.length : Int))) rfl rfl rfl rfl (len_lst un22)) ?_
                refine SO.op (Wanted.free rfl) rfl (A_bin (v := .d (eI (w64 ((p0.length : Int) + (1 : Int))))) rfl rfl rfl (fun X Y => b_i64_add _ X Y (p0.length : Int) (1 : Int))) ?_
                obtain ⟨hg382, h0⟩ := gd h0
                refine SO.op (Wanted.free rfl) rfl (A_bin (v := .d (eI (Int.tmod p3 (w64 ((p0.length : Int) + (1 : Int)))))) rfl rfl rfl (fun X Y => b_i64_rem _ X Y p3 (w64 ((p0.length : Int) + (1 : Int))) hg382)) ?_
                refine SO.op (Wanted.free rfl) rfl (A_move (v := .d ((eL 3 eApiValue) p0)) rfl rfl) ?_
                refine SO.op (Wanted.free rfl) rfl (A_len (v := .d (eI (p0.length : Int))) rfl rfl rfl rfl (len_lst un22)) ?_
                refine SO.op (Wanted.free rfl) rfl (A_bin (v := .d (eI (w64 ((Int.tmod p3 (w64 ((p0.length : Int) + (1 : Int)))) + (p0.length : Int))))) rfl rfl rfl (fun X Y => b_i64_add _ X Y (Int.tmod p3 (w64 ((p0.length : Int) + (1 : Int)))) (p0.length : Int))) ?_
                refine SO.op (Wanted.free rfl) rfl (A_bin (v := .d (eI (w64 ((w64 ((Int.tmod p3 (w64 ((p0.length : Int) + (1 : Int)))) + (p0.length : Int))) + (1 : Int))))) rfl rfl rfl (fun X Y => b_i64_add _ X Y (w64 ((Int.tmod p3 (w64 ((p0.length : Int) + (1 : Int)))) + (p0.length : Int))) (1 : Int))) ?_
                refine SO.op (Wanted.free rfl) rfl (A_move (v := .d ((eL 3 eApiValue) p0)) rfl rfl) ?_
                refine SO.op (Wanted.free rfl) rfl (A_len (v := .d (eI (p0.length : Int))) rfl rfl rfl rfl (len_lst un22)) ?_
                refine SO.op (Wanted.free rfl) rfl (A_bin (v := .d (eI (w64 ((p0.length : Int) + (1 : Int))))) rfl rfl rfl (fun X Y => b_i64_add _ X Y (p0.length : Int) (1 : Int))) ?_
                obtain ⟨hg383, h0⟩ := gd h0
                refine SO.op (Wanted.free rfl) rfl (A_bin (v := .d (eI (Int.tmod (w64 ((w64 ((Int.tmod p3 (w64 ((p0.length : Int) + (1 : Int)))) + (p0.length : Int))) + (1 : Int))) (w64 ((p0.length : Int) + (1 : Int)))))) rfl rfl rfl (fun X Y => b_i64_rem _ X Y (w64 ((w64 ((Int.tmod p3 (w64 ((p0.length : Int) + (1 : Int)))) + (p0.length : Int))) + (1 : Int))) (w64 ((p0.length : Int) + (1 : Int))) hg383)) ?_
                refine SO.op (Wanted.free rfl) rfl (A_assign (v := .d (eI (Int.tmod (w64 ((w64 ((Int.tmod p3 (w64 ((p0.length : Int) + (1 : Int)))) + (p0.length : Int))) + (1 : Int))) (w64 ((p0.length : Int) + (1 : Int)))))) rfl rfl) ?_
                refine SO.nil ?_
                change SC _ _ _ _ _
                refine SC.seq ?_
                refine SC.draws (by kernel_rfl) ?_
                refine ST.opW (mk' := ([0], true)) (v' := .slc 0 3 0 (([] : List ApiValue).length) none) (Wanted.free rfl) rfl (A_buildSlice (v := .slc 0 3 0 0 (some 0)) (σ' := [.row 3 (List.map eApiValue ([] : List ApiValue)) true]) rfl rfl (bsl un22 ei35 (by decide) rfl rfl rfl rfl)) (AW.slcc rfl rfl) rfl ?_
                refine ST.op (mk' := ([], false)) (Wanted.free rfl) rfl (A_move (v := .d ((eL 3 eApiValue) p0)) rfl rfl) rfl ?_
                refine ST.op (mk' := ([], false)) (Wanted.free rfl) rfl (A_move (v := .d (eI (Int.tmod (w64 ((w64 ((Int.tmod p3 (w64 ((p0.length : Int) + (1 : Int)))) + (p0.length : Int))) + (1 : Int))) (w64 ((p0.length : Int) + (1 : Int)))))) rfl rfl) rfl ?_
                obtain ⟨hg384, h0⟩ := gd h0
                refine ST.op (mk' := ([], false)) (Wanted.free rfl) rfl (A_slice (v := .d ((eL 3 eApiValue) (List.take (Int.tmod (w64 ((w64 ((Int.tmod p3 (w64 ((p0.length : Int) + (1 : Int)))) + (p0.length : Int))) + (1 : Int))) (w64 ((p0.length : Int) + (1 : Int)))).toNat p0))) rfl rfl rfl rfl rfl (sl_lst_hi un22 ts35 hg384)) rfl ?_
                obtain ⟨hg385, h0⟩ := gd h0
                refine ST.op (mk' := ([0, 1], true)) (Wanted.free rfl) rfl (A_append (v := .slc 1 3 0 ((([] : List ApiValue) ++ (List.take (Int.tmod (w64 ((w64 ((Int.tmod p3 (w64 ((p0.length : Int) + (1 : Int)))) + (p0.length : Int))) + (1 : Int))) (w64 ((p0.length : Int) + (1 : Int)))).toNat p0)).length) none) (σ' := [.dead, .row 3 (List.map eApiValue (([] : List ApiValue) ++ (List.take (Int.tmod (w64 ((w64 ((Int.tmod p3 (w64 ((p0.length : Int) + (1 : Int)))) + (p0.length : Int))) + (1 : Int))) (w64 ((p0.length : Int) + (1 : Int)))).toNat p0))) true]) rfl rfl rfl rfl rfl bc22 (ApFull (f := eApiValue) (xs := ([] : List ApiValue)) (ys := (List.take (Int.tmod (w64 ((w64 ((Int.tmod p3 (w64 ((p0.length : Int) + (1 : Int)))) + (p0.length : Int))) + (1 : Int))) (w64 ((p0.length : Int) + (1 : Int)))).toNat p0)) rfl un22 ei35 rfl el_lst hg385 rfl rfl)) rfl ?_
                refine ST.opW (mk' := ([2], true)) (v' := .slc 2 1 0 (([] : List Bool).length) none) (Wanted.free rfl) rfl (A_buildSlice (v := .slc 2 1 0 0 (some 0)) (σ' := [.dead, .row 3 (List.map eApiValue (([] : List ApiValue) ++ (List.take (Int.tmod (w64 ((w64 ((Int.tmod p3 (w64 ((p0.length : Int) + (1 : Int)))) + (p0.length : Int))) + (1 : Int))) (w64 ((p0.length : Int) + (1 : Int)))).toNat p0))) true, .row 1 (List.map eB ([] : List Bool)) true]) rfl rfl (bsl un23 ei4 (by decide) rfl rfl rfl rfl)) (AW.slcc rfl rfl) rfl ?_
                refine ST.op (mk' := ([], false)) (Wanted.free rfl) rfl (A_move (v := .d ((eL 1 eB) p2)) rfl rfl) rfl ?_
                refine ST.op (mk' := ([], false)) (Wanted.free rfl) rfl (A_move (v := .d (eI (Int.tmod (w64 ((w64 ((Int.tmod p3 (w64 ((p0.length : Int) + (1 : Int)))) + (p0.length : Int))) + (1 : Int))) (w64 ((p0.length : Int) + (1 : Int)))))) rfl rfl) rfl ?_
                obtain ⟨hg386, h0⟩ := gd h0
                refine ST.op (mk' := ([], false)) (Wanted.free rfl) rfl (A_slice (v := .d ((eL 1 eB) (List.take (Int.tmod (w64 ((w64 ((Int.tmod p3 (w64 ((p0.length : Int) + (1 : Int)))) + (p0.length : Int))) + (1 : Int))) (w64 ((p0.length : Int) + (1 : Int)))).toNat p2))) rfl rfl rfl rfl rfl (sl_lst_hi un23 ts4 hg386)) rfl ?_
                obtain ⟨hg387, h0⟩ := gd h0
                refine ST.op (mk' := ([2, 3], true)) (Wanted.free rfl) rfl (A_append (v := .slc 3 1 0 ((([] : List Bool) ++ (List.take (Int.tmod (w64 ((w64 ((Int.tmod p3 (w64 ((p0.length : Int) + (1 : Int)))) + (p0.length : Int))) + (1 : Int))) (w64 ((p0.length : Int) + (1 : Int)))).toNat p2)).length) none) (σ' := [.dead, .row 3 (List.map eApiValue (([] : List ApiValue) ++ (List.take (Int.tmod (w64 ((w64 ((Int.tmod p3 (w64 ((p0.length : Int) + (1 : Int)))) + (p0.length : Int))) + (1 : Int))) (w64 ((p0.length : Int) + (1 : Int)))).toNat p0))) true, .dead, .row 1 (List.map eB (([] : List Bool) ++ (List.take (Int.tmod (w64 ((w64 ((Int.tmod p3 (w64 ((p0.length : Int) + (1 : Int)))) + (p0.length : Int))) + (1 : Int))) (w64 ((p0.length : Int) + (1 : Int)))).toNat p2))) true]) rfl rfl rfl rfl rfl bc23 (ApFull (f := eB) (xs := ([] : List Bool)) (ys := (List.take (Int.tmod (w64 ((w64 ((Int.tmod p3 (w64 ((p0.length : Int) + (1 : Int)))) + (p0.length : Int))) + (1 : Int))) (w64 ((p0.length : Int) + (1 : Int)))).toNat p2)) rfl un23 ei4 rfl el_lst hg387 rfl rfl)) rfl ?_
                obtain ⟨⟨r388, r389⟩, hq390, h0⟩ := ob h0
                refine ST.call (ι := [1, 3]) (σc := [.row 3 (List.map eApiValue (([] : List ApiValue) ++ (List.take (Int.tmod (w64 ((w64 ((Int.tmod p3 (w64 ((p0.length : Int) + (1 : Int)))) + (p0.length : Int))) + (1 : Int))) (w64 ((p0.length : Int) + (1 : Int)))).toNat p0))) true, .row 1 (List.map eB (([] : List Bool) ++ (List.take (Int.tmod (w64 ((w64 ((Int.tmod p3 (w64 ((p0.length : Int) + (1 : Int)))) + (p0.length : Int))) + (1 : Int))) (w64 ((p0.length : Int) + (1 : Int)))).toNat p2))) true]) (args' := [.slc 0 3 0 ((([] : List ApiValue) ++ (List.take (Int.tmod (w64 ((w64 ((Int.tmod p3 (w64 ((p0.length : Int) + (1 : Int)))) + (p0.length : Int))) + (1 : Int))) (w64 ((p0.length : Int) + (1 : Int)))).toNat p0)).length) none, .slc 1 1 0 ((([] : List Bool) ++ (List.take (Int.tmod (w64 ((w64 ((Int.tmod p3 (w64 ((p0.length : Int) + (1 : Int)))) + (p0.length : Int))) + (1 : Int))) (w64 ((p0.length : Int) + (1 : Int)))).toNat p2)).length) none]) (r' := .tuple [.d (eS r388), .d (eI r389)]) (σ2 := [.row 3 (List.map eApiValue (([] : List ApiValue) ++ (List.take (Int.tmod (w64 ((w64 ((Int.tmod p3 (w64 ((p0.length : Int) + (1 : Int)))) + (p0.length : Int))) + (1 : Int))) (w64 ((p0.length : Int) + (1 : Int)))).toNat p0))) true, .row 1 (List.map eB (([] : List Bool) ++ (List.take (Int.tmod (w64 ((w64 ((Int.tmod p3 (w64 ((p0.length : Int) + (1 : Int)))) + (p0.length : Int))) + (1 : Int))) (w64 ((p0.length : Int) + (1 : Int)))).toNat p2))) true]) (os := [.row 3 (List.map eApiValue (([] : List ApiValue) ++ (List.take (Int.tmod (w64 ((w64 ((Int.tmod p3 (w64 ((p0.length : Int) + (1 : Int)))) + (p0.length : Int))) + (1 : Int))) (w64 ((p0.length : Int) + (1 : Int)))).toNat p0))) true, .row 1 (List.map eB (([] : List Bool) ++ (List.take (Int.tmod (w64 ((w64 ((Int.tmod p3 (w64 ((p0.length : Int) + (1 : Int)))) + (p0.length : Int))) + (1 : Int))) (w64 ((p0.length : Int) + (1 : Int)))).toNat p2))) true]) (r := .tuple [.d (eS r388), .d (eI r389)]) (σ' := [.dead, .row 3 (List.map eApiValue (([] : List ApiValue) ++ (List.take (Int.tmod (w64 ((w64 ((Int.tmod p3 (w64 ((p0.length : Int) + (1 : Int)))) + (p0.length : Int))) + (1 : Int))) (w64 ((p0.length : Int) + (1 : Int)))).toNat p0))) true, .dead, .row 1 (List.map eB (([] : List Bool) ++ (List.take (Int.tmod (w64 ((w64 ((Int.tmod p3 (w64 ((p0.length : Int) + (1 : Int)))) + (p0.length : Int))) + (1 : Int))) (w64 ((p0.length : Int) + (1 : Int)))).toNat p2))) true]) (mk' := ([1, 3], true)) (Wanted.free rfl) rfl rfl rfl rfl rfl cb10 rfl rfl (key_Encode_ok1 (([] : List ApiValue) ++ (List.take (Int.tmod (w64 ((w64 ((Int.tmod p3 (w64 ((p0.length : Int) + (1 : Int)))) + (p0.length : Int))) + (1 : Int))) (w64 ((p0.length : Int) + (1 : Int)))).toNat p0)) (([] : List Bool) ++ (List.take (Int.tmod (w64 ((w64 ((Int.tmod p3 (w64 ((p0.length : Int) + (1 : Int)))) + (p0.length : Int))) + (1 : Int))) (w64 ((p0.length : Int) + (1 : Int)))).toNat p2)) _ hq390) rfl rfl (Nat.le_of_ble_eq_true rfl) rfl rfl ?_
                refine ST.op (mk' := ([], false)) (Wanted.free rfl) rfl (A_move (v := .tuple [.d (eS r388), .d (eI r389)]) rfl rfl) rfl ?_
                refine ST.op (mk' := ([], false)) (Wanted.free rfl) rfl (A_extract (v := .d (eS r388)) rfl rfl rfl) rfl ?_
                refine ST.op (mk' := ([], false)) (Wanted.free rfl) rfl (A_extract (v := .d (eI r389)) rfl rfl rfl) rfl ?_
                refine ST.op (mk' := ([], false)) (Wanted.free rfl) rfl (A_assign (v := .d (eS r388)) rfl rfl) rfl ?_
                refine ST.op (mk' := ([], false)) (Wanted.free rfl) rfl (A_assign (v := .d (eI r389)) rfl rfl) rfl ?_
                refine ST.nil (And.intro (by decide +kernel) ?_)
                change SC _ _ _ _ _
                refine SC.seq ?_
                refine SC.seqP h0 (fun y => ⟨mk 188 [(0, .d ((eL 3 eApiValue) p0)), (1, .d ((eL 3 eApiValue) p1)), (3, .d (eI (Int.tmod (w64 ((w64 ((Int.tmod p3 (w64 ((p0.length : Int) + (1 : Int)))) + (p0.length : Int))) + (1 : Int))) (w64 ((p0.length : Int) + (1 : Int)))))), (12, .d (eS r349)), (15, .d (eS r388)), (163, .d (eB y))], []⟩) ?_ ?_
                · intro u1_400 h1
                  refine SC.region ?_
                  refine SO.op (Wanted.free rfl) rfl (A_move (v := .d (eI r389)) rfl rfl) ?_
                  refine SO.op (Wanted.free rfl) rfl (A_bin (v := .d (eB (r389 != (0 : Int)))) rfl rfl rfl (fun X Y => b_i64_neq _ X Y r389 (0 : Int))) ?_
                  refine SO.op (Wanted.free rfl) rfl (A_move (v := .d (eB (r389 != (0 : Int)))) rfl rfl) ?_
                  refine SO.split (fun hb401 => ?_) (fun hb401 => ?_)
                  · replace h1 := ct hb401 h1
                    refine SO.skip (Wanted.by rfl rfl rfl rfl) rfl ?_
                    refine SO.skip (Wanted.by rfl rfl rfl rfl) rfl ?_
                    refine SO.skip (Wanted.by rfl rfl rfl rfl) rfl ?_
                    refine SO.skip (Wanted.by rfl rfl rfl rfl) rfl ?_
                    refine SO.skip (Wanted.by rfl rfl rfl rfl) rfl ?_
                    refine SO.op (Wanted.free rfl) rfl (A_pickT (v := .d (eB true)) rfl rfl rfl) ?_
                    refine SO.op (Wanted.free rfl) rfl (A_move (v := .d (eB true)) rfl rfl) ?_
                    refine SO.skip (Wanted.by rfl rfl rfl rfl) rfl ?_
                    refine SO.skip (Wanted.by rfl rfl rfl rfl) rfl ?_
                    refine SO.skip (Wanted.by rfl rfl rfl rfl) rfl ?_
                    refine SO.skip (Wanted.by rfl rfl rfl rfl) rfl ?_
                    refine SO.skip (Wanted.by rfl rfl rfl rfl) rfl ?_
                    refine SO.skip (Wanted.by rfl rfl rfl rfl) rfl ?_
                    refine SO.op (Wanted.free rfl) rfl (A_pickT (v := .d (eB true)) rfl rfl rfl) ?_
                    refine SO.op (Wanted.free rfl) rfl (A_move (v := .d (eB true)) rfl rfl) ?_
                    refine SO.skip (Wanted.by rfl rfl rfl rfl) rfl ?_
                    refine SO.skip (Wanted.by rfl rfl rfl rfl) rfl ?_
                    refine SO.skip (Wanted.by rfl rfl rfl rfl) rfl ?_
                    refine SO.skip (Wanted.by rfl rfl rfl rfl) rfl ?_
                    refine SO.skip (Wanted.by rfl rfl rfl rfl) rfl ?_
                    refine SO.op (Wanted.free rfl) rfl (A_pickT (v := .d (eB true)) rfl rfl rfl) ?_
                    refine SO.nil ?_
                    have q := Option.some.inj h1; subst q
                    exact (Wk.trans (Wk.env (e' := [(0, .d ((eL 3 eApiValue) p0)), (1, .d ((eL 3 eApiValue) p1)), (3, .d (eI (Int.tmod (w64 ((w64 ((Int.tmod p3 (w64 ((p0.length : Int) + (1 : Int)))) + (p0.length : Int))) + (1 : Int))) (w64 ((p0.length : Int) + (1 : Int)))))), (12, .d (eS r349)), (15, .d (eS r388)), (163, .d (eB true))]) (EW.cons (AW.refl _) (EW.cons (AW.refl _) (EW.cons (AW.refl _) (EW.cons (AW.refl _) (EW.cons (AW.refl _) (EW.cons (AW.refl _) EW.nil))))))) (Wk.canon (ι := []) (roots := []) (os := []) (e' := [(0, .d ((eL 3 eApiValue) p0)), (1, .d ((eL 3 eApiValue) p1)), (3, .d (eI (Int.tmod (w64 ((w64 ((Int.tmod p3 (w64 ((p0.length : Int) + (1 : Int)))) + (p0.length : Int))) + (1 : Int))) (w64 ((p0.length : Int) + (1 : Int)))))), (12, .d (eS r349)), (15, .d (eS r388)), (163, .d (eB true))]) rfl rfl rfl))
                  · replace h1 := cf hb401 h1
                    refine SO.op (Wanted.by rfl rfl rfl rfl) rfl (A_move (v := .d (eS r388)) rfl rfl) ?_
                    refine SO.op (Wanted.by rfl rfl rfl rfl) rfl (A_len (v := .d (eI (r388.length : Int))) rfl rfl rfl rfl (len_str un9)) ?_
                    refine SO.op (Wanted.by rfl rfl rfl rfl) rfl (A_move (v := .d (eS r346)) rfl rfl) ?_
                    refine SO.op (Wanted.by rfl rfl rfl rfl) rfl (A_len (v := .d (eI (r346.length : Int))) rfl rfl rfl rfl (len_str un9)) ?_
                    refine SO.op (Wanted.by rfl rfl rfl rfl) rfl (A_bin (v := .d (eB (decide ((r388.length : Int) > (r346.length : Int))))) rfl rfl rfl (fun X Y => b_i64_gtr _ X Y (r388.length : Int) (r346.length : Int))) ?_
                    refine SO.op (Wanted.free rfl) rfl (A_pickF (v := .d (eB (decide ((r388.length : Int) > (r346.length : Int))))) rfl rfl rfl) ?_
                    refine SO.op (Wanted.free rfl) rfl (A_move (v := .d (eB (decide ((r388.length : Int) > (r346.length : Int))))) rfl rfl) ?_
                    refine SO.split (fun hb402 => ?_) (fun hb402 => ?_)
                    · replace h1 := ct hb402 h1
                      refine SO.skip (Wanted.by rfl rfl rfl rfl) rfl ?_
                      refine SO.skip (Wanted.by rfl rfl rfl rfl) rfl ?_
                      refine SO.skip (Wanted.by rfl rfl rfl rfl) rfl ?_
                      refine SO.skip (Wanted.by rfl rfl rfl rfl) rfl ?_
                      refine SO.skip (Wanted.by rfl rfl rfl rfl) rfl ?_
                      refine SO.skip (Wanted.by rfl rfl rfl rfl) rfl ?_
                      refine SO.op (Wanted.free rfl) rfl (A_pickT (v := .d (eB true)) rfl rfl rfl) ?_
                      refine SO.op (Wanted.free rfl) rfl (A_move (v := .d (eB true)) rfl rfl) ?_
                      refine SO.skip (Wanted.by rfl rfl rfl rfl) rfl ?_
                      refine SO.skip (Wanted.by rfl rfl rfl rfl) rfl ?_
                      refine SO.skip (Wanted.by rfl rfl rfl rfl) rfl ?_
                      refine SO.skip (Wanted.by rfl rfl rfl rfl) rfl ?_
                      refine SO.skip (Wanted.by rfl rfl rfl rfl) rfl ?_
                      refine SO.op (Wanted.free rfl) rfl (A_pickT (v := .d (eB true)) rfl rfl rfl) ?_
                      refine SO.nil ?_
                      have q := Option.some.inj h1; subst q
                      exact (Wk.trans (Wk.env (e' := [(0, .d ((eL 3 eApiValue) p0)), (1, .d ((eL 3 eApiValue) p1)), (3, .d (eI (Int.tmod (w64 ((w64 ((Int.tmod p3 (w64 ((p0.length : Int) + (1 : Int)))) + (p0.length : Int))) + (1 : Int))) (w64 ((p0.length : Int) + (1 : Int)))))), (12, .d (eS r349)), (15, .d (eS r388)), (163, .d (eB true))]) (EW.cons (AW.refl _) (EW.cons (AW.refl _) (EW.cons (AW.refl _) (EW.cons (AW.refl _) (EW.cons (AW.refl _) (EW.cons (AW.refl _) EW.nil))))))) (Wk.canon (ι := []) (roots := []) (os := []) (e' := [(0, .d ((eL 3 eApiValue) p0)), (1, .d ((eL 3 eApiValue) p1)), (3, .d (eI (Int.tmod (w64 ((w64 ((Int.tmod p3 (w64 ((p0.length : Int) + (1 : Int)))) + (p0.length : Int))) + (1 : Int))) (w64 ((p0.length : Int) + (1 : Int)))))), (12, .d (eS r349)), (15, .d (eS r388)), (163, .d (eB true))]) rfl rfl rfl))
                    · replace h1 := cf hb402 h1
                      refine SO.op (Wanted.by rfl rfl rfl rfl) rfl (A_move (v := .d (eS r346)) rfl rfl) ?_
                      refine SO.op (Wanted.by rfl rfl rfl rfl) rfl (A_move (v := .d (eS r388)) rfl rfl) ?_
                      refine SO.op (Wanted.by rfl rfl rfl rfl) rfl (A_len (v := .d (eI (r388.length : Int))) rfl rfl rfl rfl (len_str un9)) ?_
                      obtain ⟨hg403, h1⟩ := gd h1
                      refine SO.op (Wanted.by rfl rfl rfl rfl) rfl (A_slice (v := .d (eS (List.take (r388.length : Int).toNat r346))) rfl rfl rfl rfl rfl (sl_str_hi un9 hg403)) ?_
                      refine SO.op (Wanted.by rfl rfl rfl rfl) rfl (A_move (v := .d (eS r388)) rfl rfl) ?_
                      refine SO.op (Wanted.by rfl rfl rfl rfl) rfl (A_bin (v := .d (eB ((List.take (r388.length : Int).toNat r346) != r388))) rfl rfl rfl (fun X Y => b_str_neq _ X Y (List.take (r388.length : Int).toNat r346) r388)) ?_
                      refine SO.op (Wanted.free rfl) rfl (A_pickF (v := .d (eB ((List.take (r388.length : Int).toNat r346) != r388))) rfl rfl rfl) ?_
                      refine SO.op (Wanted.free rfl) rfl (A_move (v := .d (eB ((List.take (r388.length : Int).toNat r346) != r388))) rfl rfl) ?_
                      refine SO.split (fun hb404 => ?_) (fun hb404 => ?_)
                      · replace h1 := ct hb404 h1
                        refine SO.skip (Wanted.by rfl rfl rfl rfl) rfl ?_
                        refine SO.skip (Wanted.by rfl rfl rfl rfl) rfl ?_
                        refine SO.skip (Wanted.by rfl rfl rfl rfl) rfl ?_
                        refine SO.skip (Wanted.by rfl rfl rfl rfl) rfl ?_
                        refine SO.skip (Wanted.by rfl rfl rfl rfl) rfl ?_
                        refine SO.op (Wanted.free rfl) rfl (A_pickT (v := .d (eB true)) rfl rfl rfl) ?_
                        refine SO.nil ?_
                        have q := Option.some.inj h1; subst q
                        exact (Wk.trans (Wk.env (e' := [(0, .d ((eL 3 eApiValue) p0)), (1, .d ((eL 3 eApiValue) p1)), (3, .d (eI (Int.tmod (w64 ((w64 ((Int.tmod p3 (w64 ((p0.length : Int) + (1 : Int)))) + (p0.length : Int))) + (1 : Int))) (w64 ((p0.length : Int) + (1 : Int)))))), (12, .d (eS r349)), (15, .d (eS r388)), (163, .d (eB true))]) (EW.cons (AW.refl _) (EW.cons (AW.refl _) (EW.cons (AW.refl _) (EW.cons (AW.refl _) (EW.cons (AW.refl _) (EW.cons (AW.refl _) EW.nil))))))) (Wk.canon (ι := []) (roots := []) (os := []) (e' := [(0, .d ((eL 3 eApiValue) p0)), (1, .d ((eL 3 eApiValue) p1)), (3, .d (eI (Int.tmod (w64 ((w64 ((Int.tmod p3 (w64 ((p0.length : Int) + (1 : Int)))) + (p0.length : Int))) + (1 : Int))) (w64 ((p0.length : Int) + (1 : Int)))))), (12, .d (eS r349)), (15, .d (eS r388)), (163, .d (eB true))]) rfl rfl rfl))
                      · replace h1 := cf hb404 h1
                        refine SO.op (Wanted.by rfl rfl rfl rfl) rfl (A_move (v := .d (eS r388)) rfl rfl) ?_
                        obtain ⟨r405, hq406, h1⟩ := ob h1
                        refine SO.call (ι := []) (σc := []) (args' := [.d (eS r388)]) (r' := .d (eApiSpan r405)) (σ2 := [.box (.d (eApiSpan r405))]) (os := [.box (.d (eApiSpan r405))]) (r := .d (eApiSpan r405)) (σ' := [.dead, .row 3 (List.map eApiValue (([] : List ApiValue) ++ (List.take (Int.tmod (w64 ((w64 ((Int.tmod p3 (w64 ((p0.length : Int) + (1 : Int)))) + (p0.length : Int))) + (1 : Int))) (w64 ((p0.length : Int) + (1 : Int)))).toNat p0))) true, .dead, .row 1 (List.map eB (([] : List Bool) ++ (List.take (Int.tmod (w64 ((w64 ((Int.tmod p3 (w64 ((p0.length : Int) + (1 : Int)))) + (p0.length : Int))) + (1 : Int))) (w64 ((p0.length : Int) + (1 : Int)))).toNat p2))) true, .box (.d (eApiSpan r405))]) (Wanted.by rfl rfl rfl rfl) rfl rfl rfl rfl rfl cb17 rfl rfl (key_Under_ok r388 _ hq406) rfl rfl (Nat.le_of_ble_eq_true rfl) rfl ?_
                        refine SO.op (Wanted.by rfl rfl rfl rfl) rfl (A_move (v := .d (eS r346)) rfl rfl) ?_
                        obtain ⟨r407, hq408, h1⟩ := ob h1
                        refine SO.call0 (r := .d (eB r407)) (Wanted.by rfl rfl rfl rfl) rfl rfl rfl rfl rfl cb19 rfl (fun _ => rfl) (fun _ => rfl) (key_In_ok r405 r346 _ hq408) ?_
                        refine SO.op (Wanted.by rfl rfl rfl rfl) rfl (A_un (v := .d (eB (!r407))) rfl rfl rfl rfl) ?_
                        refine SO.op (Wanted.free rfl) rfl (A_pickF (v := .d (eB (!r407))) rfl rfl rfl) ?_
                        refine SO.nil ?_
                        have q := Option.some.inj h1; subst q
                        exact (Wk.trans (Wk.env (e' := [(0, .d ((eL 3 eApiValue) p0)), (1, .d ((eL 3 eApiValue) p1)), (3, .d (eI (Int.tmod (w64 ((w64 ((Int.tmod p3 (w64 ((p0.length : Int) + (1 : Int)))) + (p0.length : Int))) + (1 : Int))) (w64 ((p0.length : Int) + (1 : Int)))))), (12, .d (eS r349)), (15, .d (eS r388)), (163, .d (eB (!r407)))]) (EW.cons (AW.refl _) (EW.cons (AW.refl _) (EW.cons (AW.refl _) (EW.cons (AW.refl _) (EW.cons (AW.refl _) (EW.cons (AW.refl _) EW.nil))))))) (Wk.canon (ι := []) (roots := []) (os := []) (e' := [(0, .d ((eL 3 eApiValue) p0)), (1, .d ((eL 3 eApiValue) p1)), (3, .d (eI (Int.tmod (w64 ((w64 ((Int.tmod p3 (w64 ((p0.length : Int) + (1 : Int)))) + (p0.length : Int))) + (1 : Int))) (w64 ((p0.length : Int) + (1 : Int)))))), (12, .d (eS r349)), (15, .d (eS r388)), (163, .d (eB (!r407)))]) rfl rfl rfl))
                · rintro y399 h0
                  change SC _ _ _ ⟨mk 188 [(0, .d ((eL 3 eApiValue) p0)), (1, .d ((eL 3 eApiValue) p1)), (3, .d (eI (Int.tmod (w64 ((w64 ((Int.tmod p3 (w64 ((p0.length : Int) + (1 : Int)))) + (p0.length : Int))) + (1 : Int))) (w64 ((p0.length : Int) + (1 : Int)))))), (12, .d (eS r349)), (15, .d (eS r388)), (163, .d (eB y399))], []⟩ _
                  refine SC.condB (t := y399) rfl (fun hb409 => ?_) (fun hb409 => ?_)
                  · replace h0 := ct hb409 h0
                    refine SC.seq ?_
                    refine SC.region ?_
                    refine SO.op (Wanted.free rfl) rfl (A_assign (v := .d (eB false)) rfl rfl) ?_
                    refine SO.nil ?_
                    change SC _ _ _ _ _
                    refine SC.ret ?_
                    have q := Option.some.inj h0; subst q
                    exact finR (Wk.env (e' := [(8, .d (eB false))]) (EW.cons (AW.refl _) EW.nil)) (lresT rfl lresN) rfl
                  · replace h0 := cf hb409 h0
                    refine SC.skip ?_
                    change SC _ _ _ _ _
                    refine SC.seq ?_
                    refine SC.region ?_
                    refine SO.op (Wanted.free rfl) rfl (A_assign (v := .d (eB true)) rfl rfl) ?_
                    refine SO.nil ?_
                    change SC _ _ _ _ _
                    refine SC.seqP h0 (fun y => ⟨mk 188 [(12, .d (eS r349)), (15, .d (eS r388)), (17, .d (eB y))], []⟩) ?_ ?_
                    · intro u1_435 h1
                      refine SC.seq ?_
                      refine SC.region ?_
                      refine SO.op (Wanted.free rfl) rfl (A_assign (v := .d (eI (0 : Int))) rfl rfl) ?_
                      refine SO.nil ?_
                      change SC _ _ _ _ _
                      refine SC.blk ?_
                      obtain ⟨u2_452, h2, h1⟩ := ob h1
                      refine SC.loopB h2 (fun y => ⟨mk 188 [(0, .d ((eL 3 eApiValue) p0)), (1, .d ((eL 3 eApiValue) p1)), (3, .d (eI (Int.tmod (w64 ((w64 ((Int.tmod p3 (w64 ((p0.length : Int) + (1 : Int)))) + (p0.length : Int))) + (1 : Int))) (w64 ((p0.length : Int) + (1 : Int)))))), (12, .d (eS r349)), (15, .d (eS r388)), (17, .d (eB y.1)), (18, .d (eI y.2))], []⟩) (Wk.env (e' := [(0, .d ((eL 3 eApiValue) p0)), (1, .d ((eL 3 eApiValue) p1)), (3, .d (eI (Int.tmod (w64 ((w64 ((Int.tmod p3 (w64 ((p0.length : Int) + (1 : Int)))) + (p0.length : Int))) + (1 : Int))) (w64 ((p0.length : Int) + (1 : Int)))))), (12, .d (eS r349)), (15, .d (eS r388)), (17, .d (eB true)), (18, .d (eI (0 : Int)))]) (EW.cons (AW.refl _) (EW.cons (AW.refl _) (EW.cons (AW.refl _) (EW.cons (AW.refl _) (EW.cons (AW.refl _) (EW.cons (AW.refl _) (EW.cons (AW.refl _) EW.nil)))))))) ?_
                      intro n459
                      rintro ⟨y441, y442⟩ w2_451 h3 hv3
                      change SC _ _ _ ⟨mk 188 [(0, .d ((eL 3 eApiValue) p0)), (1, .d ((eL 3 eApiValue) p1)), (3, .d (eI (Int.tmod (w64 ((w64 ((Int.tmod p3 (w64 ((p0.length : Int) + (1 : Int)))) + (p0.length : Int))) + (1 : Int))) (w64 ((p0.length : Int) + (1 : Int)))))), (12, .d (eS r349)), (15, .d (eS r388)), (17, .d (eB y441)), (18, .d (eI y442))], []⟩ _
                      refine SC.seq ?_
                      refine SC.seq ?_
                      refine SC.region ?_
                      refine SO.op (Wanted.free rfl) rfl (A_move (v := .d (eI y442)) rfl rfl) ?_
                      refine SO.op (Wanted.free rfl) rfl (A_move (v := .d (eI (Int.tmod (w64 ((w64 ((Int.tmod p3 (w64 ((p0.length : Int) + (1 : Int)))) + (p0.length : Int))) + (1 : Int))) (w64 ((p0.length : Int) + (1 : Int)))))) rfl rfl) ?_
                      refine SO.op (Wanted.free rfl) rfl (A_bin (v := .d (eB (decide (y442 < (Int.tmod (w64 ((w64 ((Int.tmod p3 (w64 ((p0.length : Int) + (1 : Int)))) + (p0.length : Int))) + (1 : Int))) (w64 ((p0.length : Int) + (1 : Int)))))))) rfl rfl rfl (fun X Y => b_i64_lss _ X Y y442 (Int.tmod (w64 ((w64 ((Int.tmod p3 (w64 ((p0.length : Int) + (1 : Int)))) + (p0.length : Int))) + (1 : Int))) (w64 ((p0.length : Int) + (1 : Int)))))) ?_
                      refine SO.nil ?_
                      change SC _ _ _ _ _
                      refine SC.condB (t := (decide (y442 < (Int.tmod (w64 ((w64 ((Int.tmod p3 (w64 ((p0.length : Int) + (1 : Int)))) + (p0.length : Int))) + (1 : Int))) (w64 ((p0.length : Int) + (1 : Int))))))) rfl (fun hb453 => ?_) (fun hb453 => ?_)
                      · replace h3 := ct hb453 h3
                        refine SC.skip ?_
                        change SC _ _ _ _ _
                        refine SC.seq ?_
                        refine SC.blk ?_
                        refine SC.draws (by kernel_rfl) ?_
                        refine ST.op (mk' := ([], false)) (Wanted.free rfl) rfl (A_move (v := .d (eB y441)) rfl rfl) rfl ?_
                        refine ST.op (mk' := ([], false)) (Wanted.free rfl) rfl (A_move (v := .d (eB y441)) rfl rfl) rfl ?_
                        refine ST.split (fun hb454 => ?_) (fun hb454 => ?_)
                        · replace h3 := ct hb454 h3
                          refine ST.op (mk' := ([], false)) (Wanted.by rfl rfl rfl rfl) rfl (A_move (v := .d ((eL 3 eApiValue) p0)) rfl rfl) rfl ?_
                          refine ST.op (mk' := ([], false)) (Wanted.by rfl rfl rfl rfl) rfl (A_move (v := .d (eI y442)) rfl rfl) rfl ?_
                          obtain ⟨v455, hv455, h3⟩ := ob h3
                          refine ST.op (mk' := ([], false)) (Wanted.by rfl rfl rfl rfl) rfl (A_indexAddr (v := .rop [(eI v455.Kind), (eU64 v455.N), (eS v455.S)]) rfl rfl rfl (ia_lst un22 ts35 (getI_some hv455).1 (map_get (getI_some hv455).2))) rfl ?_
                          refine ST.op (mk' := ([], false)) (Wanted.by rfl rfl rfl rfl) rfl (A_load (v := .d (eApiValue v455)) rfl rfl (ld_rop ts35 ta35 rfl)) rfl ?_
                          refine ST.op (mk' := ([], false)) (Wanted.by rfl rfl rfl rfl) rfl (A_move (v := .d ((eL 3 eApiValue) p1)) rfl rfl) rfl ?_
                          refine ST.op (mk' := ([], false)) (Wanted.by rfl rfl rfl rfl) rfl (A_move (v := .d (eI y442)) rfl rfl) rfl ?_
                          obtain ⟨v456, hv456, h3⟩ := ob h3
                          refine ST.op (mk' := ([], false)) (Wanted.by rfl rfl rfl rfl) rfl (A_indexAddr (v := .rop [(eI v456.Kind), (eU64 v456.N), (eS v456.S)]) rfl rfl rfl (ia_lst un22 ts35 (getI_some hv456).1 (map_get (getI_some hv456).2))) rfl ?_
                          refine ST.op (mk' := ([], false)) (Wanted.by rfl rfl rfl rfl) rfl (A_load (v := .d (eApiValue v456)) rfl rfl (ld_rop ts35 ta35 rfl)) rfl ?_
                          obtain ⟨r457, hq458, h3⟩ := ob h3
                          refine ST.call0 (r := .d (eI r457)) (Wanted.by rfl rfl rfl rfl) rfl rfl rfl rfl rfl cb24 rfl (fun _ => rfl) (fun _ => rfl) (ref06_Cmp_ok v455 v456 _ hq458) ?_
                          refine ST.op (mk' := ([], false)) (Wanted.by rfl rfl rfl rfl) rfl (A_bin (v := .d (eB (r457 == (0 : Int)))) rfl rfl rfl (fun X Y => b_i64_eql _ X Y r457 (0 : Int))) rfl ?_
                          refine ST.op (mk' := ([], false)) (Wanted.free rfl) rfl (A_pickT (v := .d (eB (r457 == (0 : Int)))) rfl rfl rfl) rfl ?_
                          refine ST.op (mk' := ([], false)) (Wanted.free rfl) rfl (A_assign (v := .d (eB (r457 == (0 : Int)))) rfl rfl) rfl ?_
                          refine ST.nil (And.intro (by decide +kernel) ?_)
                          change SC _ _ _ _ _
                          refine SC.region ?_
                          refine SO.op (Wanted.free rfl) rfl (A_move (v := .d (eI y442)) rfl rfl) ?_
                          refine SO.op (Wanted.free rfl) rfl (A_bin (v := .d (eI (w64 (y442 + (1 : Int))))) rfl rfl rfl (fun X Y => b_i64_add _ X Y y442 (1 : Int))) ?_
                          refine SO.op (Wanted.free rfl) rfl (A_assign (v := .d (eI (w64 (y442 + (1 : Int))))) rfl rfl) ?_
                          refine SO.nil ?_
                          have q := Option.some.inj h3; subst q
                          exact lf (Wk.env (e' := [(0, .d ((eL 3 eApiValue) p0)), (1, .d ((eL 3 eApiValue) p1)), (3, .d (eI (Int.tmod (w64 ((w64 ((Int.tmod p3 (w64 ((p0.length : Int) + (1 : Int)))) + (p0.length : Int))) + (1 : Int))) (w64 ((p0.length : Int) + (1 : Int)))))), (12, .d (eS r349)), (15, .d (eS r388)), (17, .d (eB (r457 == (0 : Int)))), (18, .d (eI (w64 (y442 + (1 : Int)))))]) (EW.cons (AW.refl _) (EW.cons (AW.refl _) (EW.cons (AW.refl _) (EW.cons (AW.refl _) (EW.cons (AW.refl _) (EW.cons (AW.refl _) (EW.cons (AW.refl _) EW.nil))))))))
                        · replace h3 := cf hb454 h3
                          refine ST.skip (Wanted.by rfl rfl rfl rfl) rfl ?_
                          refine ST.skip (Wanted.by rfl rfl rfl rfl) rfl ?_
                          refine ST.skip (Wanted.by rfl rfl rfl rfl) rfl ?_
                          refine ST.skip (Wanted.by rfl rfl rfl rfl) rfl ?_
                          refine ST.skip (Wanted.by rfl rfl rfl rfl) rfl ?_
                          refine ST.skip (Wanted.by rfl rfl rfl rfl) rfl ?_
                          refine ST.skip (Wanted.by rfl rfl rfl rfl) rfl ?_
                          refine ST.skip (Wanted.by rfl rfl rfl rfl) rfl ?_
                          refine ST.skip (Wanted.by rfl rfl rfl rfl) rfl ?_
                          refine ST.skip (Wanted.by rfl rfl rfl rfl) rfl ?_
                          refine ST.op (mk' := ([], false)) (Wanted.free rfl) rfl (A_pickF (v := .d (eB false)) rfl rfl rfl) rfl ?_
                          refine ST.op (mk' := ([], false)) (Wanted.free rfl) rfl (A_assign (v := .d (eB false)) rfl rfl) rfl ?_
                          refine ST.nil (And.intro (by decide +kernel) ?_)
                          change SC _ _ _ _ _
                          refine SC.region ?_
                          refine SO.op (Wanted.free rfl) rfl (A_move (v := .d (eI y442)) rfl rfl) ?_
                          refine SO.op (Wanted.free rfl) rfl (A_bin (v := .d (eI (w64 (y442 + (1 : Int))))) rfl rfl rfl (fun X Y => b_i64_add _ X Y y442 (1 : Int))) ?_
                          refine SO.op (Wanted.free rfl) rfl (A_assign (v := .d (eI (w64 (y442 + (1 : Int))))) rfl rfl) ?_
                          refine SO.nil ?_
                          have q := Option.some.inj h3; subst q
                          exact lf (Wk.env (e' := [(0, .d ((eL 3 eApiValue) p0)), (1, .d ((eL 3 eApiValue) p1)), (3, .d (eI (Int.tmod (w64 ((w64 ((Int.tmod p3 (w64 ((p0.length : Int) + (1 : Int)))) + (p0.length : Int))) + (1 : Int))) (w64 ((p0.length : Int) + (1 : Int)))))), (12, .d (eS r349)), (15, .d (eS r388)), (17, .d (eB false)), (18, .d (eI (w64 (y442 + (1 : Int)))))]) (EW.cons (AW.refl _) (EW.cons (AW.refl _) (EW.cons (AW.refl _) (EW.cons (AW.refl _) (EW.cons (AW.refl _) (EW.cons (AW.refl _) (EW.cons (AW.refl _) EW.nil))))))))
                      · replace h3 := cf hb453 h3
                        refine SC.exit ?_
                        have q := Option.some.inj h3; subst q
                        have q : _ = _ := hv3; subst q
                        have q := Option.some.inj h1; subst q
                        exact (Wk.env (e' := [(12, .d (eS r349)), (15, .d (eS r388)), (17, .d (eB y441))]) (EW.cons (AW.refl _) (EW.cons (AW.refl _) (EW.cons (AW.refl _) EW.nil))))
                    · rintro y434 h0
                      change SC _ _ _ ⟨mk 188 [(12, .d (eS r349)), (15, .d (eS r388)), (17, .d (eB y434))], []⟩ _
                      refine SC.seq ?_
                      refine SC.region ?_
                      refine SO.op (Wanted.free rfl) rfl (A_move (v := .d (eS r388)) rfl rfl) ?_
                      obtain ⟨r460, hq461, h0⟩ := ob h0
                      refine SO.call (ι := []) (σc := []) (args' := [.d (eS r388)]) (r' := .d (eApiSpan r460)) (σ2 := [.box (.d (eApiSpan r460))]) (os := [.box (.d (eApiSpan r460))]) (r := .d (eApiSpan r460)) (σ' := [.box (.d (eApiSpan r460))]) (Wanted.free rfl) rfl rfl rfl rfl rfl cb17 rfl rfl (key_Under_ok r388 _ hq461) rfl rfl (Nat.le_of_ble_eq_true rfl) rfl ?_
                      refine SO.op (Wanted.free rfl) rfl (A_move (v := .d (eS r349)) rfl rfl) ?_
                      obtain ⟨r462, hq463, h0⟩ := ob h0
                      refine SO.call0 (r := .d (eB r462)) (Wanted.free rfl) rfl rfl rfl rfl rfl cb19 rfl (fun _ => rfl) (fun _ => rfl) (key_In_ok r460 r349 _ hq463) ?_
                      refine SO.op (Wanted.free rfl) rfl (A_move (v := .d (eB y434)) rfl rfl) ?_
                      refine SO.op (Wanted.free rfl) rfl (A_bin (v := .d (eB (r462 == y434))) rfl rfl rfl (fun X Y => b_bool_eql un4 X Y r462 y434)) ?_
                      refine SO.op (Wanted.free rfl) rfl (A_assign (v := .d (eB (r462 == y434))) rfl rfl) ?_
                      refine SO.nil ?_
                      change SC _ _ _ _ _
                      refine SC.ret ?_
                      have q := Option.some.inj h0; subst q
                      exact finR (Wk.trans (Wk.env (e' := [(8, .d (eB (r462 == y434)))]) (EW.cons (AW.refl _) EW.nil)) (Wk.canon (ι := []) (roots := []) (os := []) (e' := [(8, .d (eB (r462 == y434)))]) rfl rfl rfl)) (lresT rfl lresN) rfl
end Lv
